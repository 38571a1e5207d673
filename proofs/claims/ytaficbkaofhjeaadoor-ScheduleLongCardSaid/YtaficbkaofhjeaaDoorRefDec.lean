/- ref32.Decode, walked. Conditions: the string is shorter than 2^61. -/
import Derived.Test.YtaficbkaofhjeaaDoorDec
import Derived.Test.YtaficbkaofhjeaaDoorRefRdL
import Derived.Test.YtaficbkaofhjeaaDoorTrip3M
namespace Go.Proofs.YtaficbkaofhjeaaDoor
open Go.RowKit

theorem decRS_bad {L : List UInt8} {ns : List Int} {n : Nat} {e : Int} (h : rdList L = (ns, n, e)) (hb : e ≠ 0 ∨ n ≠ L.length ∨ ns.length % 3 ≠ 0) : decRS L = ([], 12) := by
  unfold decRS; rw [h, if_pos hb]

theorem below_drews (B : Nat) (w : World) (n : Nat) : Below B w (w.drewN n) := ⟨rfl, rfl, rfl, Nat.le_refl _, fun _ _ => rfl⟩

section
attribute [local go_sem ↓] run_eql_ch
set_option maxRecDepth 100000 in
set_option maxHeartbeats 3200000 in
theorem refDec_any (L : List UInt8) (hs : L.length < 2305843009213693952) (w : World) :
    Calls Tryd.prog 10 #[.string ⟨L.toArray⟩] w (RetD (decRS L) w) := by
  obtain ⟨i0, hi, hz0, hz1, hz2⟩ := info_parts chinfo
  have hcall := refReadList_any L hs w
  obtain ⟨s, hsL⟩ : ∃ s : ByteArray, s = ⟨L.toArray⟩ := ⟨_, rfl⟩
  have hsz : s.size = L.length := by rw [hsL]; simp [ByteArray.size]
  rw [← hsL] at hcall ⊢
  have HSL := Lib.hid hsL
  have HCALL := Lib.hid hcall
  clear hsL hcall
  go_enter Tryd.func10, Tryd.ntmps10
  go_wp2_with fail
  refine HCALL.out.mono ?_
  rintro e w1 ⟨v, rfl, hown, hb⟩
  obtain ⟨⟨ns, n, e0⟩, hr⟩ : ∃ r, rdList L = r := ⟨_, rfl⟩
  rw [hr] at hown ⊢
  dsimp only at hown ⊢
  obtain ⟨A, c, rfl⟩ := own_form hown
  have hnl : ns.length ≤ 20000 := by have := rdL_len 20000 L; rw [show rdL 20000 L = rdList L from rfl, hr] at this; exact this
  have HR := Lib.hid hr
  clear hr HCALL
  by_cases he : e0 = 0
  · subst he
    by_cases hn : n = L.length
    · subst hn
      have hn1 : ((L.length : Int) != (L.length : Int)) = false := by simp
      by_cases h3 : ns.length % 3 = 0
      · have hcap := own_cap hown
        have hrd0 : Rd w1 w1.heap.size 1 A ns.length (i64s ns) := Rd.of_own hown
        obtain ⟨N, hN⟩ : ∃ N, ns.length = 3 * N := ⟨ns.length / 3, by omega⟩
        have HN := Lib.hid hN
        have hN7 : N ≤ 7000 := by omega
        clear hN
        go_wp2
        go_loopw [2, 3, 7, 8] (fun _ _ v i wr => ∃ (k j : Nat) (acc : List Ch), i = .int .i64 (j : Nat) ∧ Hid (j = 3 * k) ∧ k ≤ N ∧ acc.length ≤ 4000 ∧ Hid (decR [] ns = decR acc (ns.drop (3 * k))) ∧ wr.ownsRow w1.heap.size 36 2 v acc.length (chCells acc) ∧ Below w1.heap.size w1 wr) (fun _ _ _ i _ => ns.length - (intOf i).toNat)
        case atStart => exact ⟨0, 0, [], rfl, Lib.hid rfl, by omega, by simp, Lib.hid rfl, World.ownsRow_nil _ _ _ _, Below.refl _ _⟩
        case round =>
          obtain ⟨k, j, acc, rfl, HJ, hk, hal, hdec, hr, hbl⟩ := hrel
          obtain ⟨A2, c2, rfl⟩ := own_form hr
          have hj0 : (0 : Int) ≤ (j : Int) := by omega
          have hj1 : (j : Int) ≤ 21000 := by have := HJ.out; omega
          by_cases hlt : k < N
          · have hx3 : (j : Int) < (ns.length : Int) := by have := HJ.out; have := HN.out; omega
            have hd1 : decide (j < ns.length) = true := decide_eq_true (by omega)
            have hrd : Rd wr w1.heap.size 1 A ns.length (i64s ns) := hrd0.below hbl
            obtain ⟨b, off, hA, hbo, hcells⟩ := hrd.addr (by omega)
            have hi3 : j + 3 ≤ ns.length := by have := HJ.out; have := HN.out; omega
            obtain ⟨n, hn⟩ : ∃ n, n = ns[j] := ⟨_, rfl⟩
            obtain ⟨t, ht⟩ : ∃ t, t = ns[j + 1] := ⟨_, rfl⟩
            obtain ⟨d, hd⟩ : ∃ d, d = ns[j + 2] := ⟨_, rfl⟩
            subst hA
            have g0 : wr.cell? ⟨b, off + j, none⟩ = some (.int .i64 n) := by rw [hn]; exact hcells j _ (i64s_at _ _ (by omega))
            have g1 : wr.cell? ⟨b, off + (j + 1), none⟩ = some (.int .i64 t) := by rw [ht]; exact hcells (j + 1) _ (i64s_at _ _ (by omega))
            have g2 : wr.cell? ⟨b, off + (j + 2), none⟩ = some (.int .i64 d) := by rw [hd]; exact hcells (j + 2) _ (i64s_at _ _ (by omega))
            have HD : Hid (decR [] ns = decR acc (n :: t :: d :: ns.drop (3 * (k + 1)))) := by
              show _ = _
              have := HJ.out
              subst this
              rw [hdec.out, drop3 hi3, hn, ht, hd]
            have hx4 : (j : Int) + 1 < (ns.length : Int) := by omega
            have hx5 : (j : Int) + 2 < (ns.length : Int) := by omega
            have hal2 : acc.length ≤ maxLen := by unfold maxLen; omega
            clear hn ht hd hcells hdec
            have hb2 : Below w.heap.size w wr := hb.trans (hbl.mono hb.size)
            have hno : refOk acc n = false → RetD (decRS L) w (.returned (.tuple #[.slice none 0 0, .int .i64 12])) wr := fun h => by
              refine retD_no ?_ hb2
              unfold decRS
              rw [HR.out, if_neg (by simp [h3])]
              simp only [HD.out, decR_no h]
            have HNO := Lib.hid hno
            clear hno
            by_cases hn1 : n < 1
            · have hd2 : decide (n < 1) = true := decide_eq_true hn1
              go_wp2
              go_ret2
              exact HNO.out (by simp [refOk]; omega)
            · have hd2 : decide (n < 1) = false := decide_eq_false hn1
              by_cases hn2 : 2000 < n
              · have hd3 : decide (2000 < n) = true := decide_eq_true hn2
                go_wp2
                go_ret2
                exact HNO.out (by simp [refOk]; omega)
              · have hd3 : decide (2000 < n) = false := decide_eq_false hn2
                by_cases hn3 : (2000 : Int) < (acc.length : Int)
                · have hd4 : decide ((2000 : Int) < (acc.length : Int)) = true := decide_eq_true hn3
                  have hd5 : decide (2000 < acc.length) = true := decide_eq_true (by omega)
                  go_wp2
                  go_ret2
                  exact HNO.out (by simp [refOk]; omega)
                · have hd4 : decide ((2000 : Int) < (acc.length : Int)) = false := decide_eq_false hn3
                  have hd5 : decide (2000 < acc.length) = false := decide_eq_false (by omega)
                  have HOK : Hid (refOk acc n = true) := by show _ = _; simp [refOk]; omega
                  go_wp2
                  have gw0 := (hbl.cell (p := ⟨b, off + j, none⟩) hbo).symm.trans g0
                  have gw1 := (hbl.cell (p := ⟨b, off + (j + 1), none⟩) hbo).symm.trans g1
                  have gw2 := (hbl.cell (p := ⟨b, off + (j + 2), none⟩) hbo).symm.trans g2
                  clear g0 g1 g2
                  go_loopw [7, 9] (fun v i wr => ∃ (m : Nat) (M : List Ch), i = .int .i64 (m : Nat) ∧ Hid ((m : Int) ≤ n) ∧ Hid (M = acc ++ List.replicate m (t, d)) ∧ wr.ownsRow w1.heap.size 36 2 v M.length (chCells M) ∧ Below w1.heap.size w1 wr) (fun _ i _ => n.toNat - (intOf i).toNat)
                  case atStart => exact ⟨0, acc, rfl, Lib.hid (by omega), Lib.hid (by simp), hr, hbl⟩
                  case round =>
                    obtain ⟨m, M, rfl, hmn, hM, hr5, hbl5⟩ := hrel
                    have G0 := (hbl5.cell (p := ⟨b, off + j, none⟩) hbo).trans gw0
                    have G1 := (hbl5.cell (p := ⟨b, off + (j + 1), none⟩) hbo).trans gw1
                    have G2 := (hbl5.cell (p := ⟨b, off + (j + 2), none⟩) hbo).trans gw2
                    have hm0 : (0 : Int) ≤ (m : Int) := by omega
                    have hm1 : (m : Int) ≤ 2000 := by have := hmn.out; omega
                    have hMl : M.length = acc.length + m := by rw [hM.out]; simp
                    have hmx : M.length + 1 ≤ maxLen := by unfold maxLen; omega
                    have hby : (M.length + 1) * 16 ≤ 140737488355328 := by omega
                    have HML := Lib.hid hMl
                    clear hMl
                    by_cases hlt2 : (m : Int) < n
                    · have hd6 : decide ((m : Int) < n) = true := decide_eq_true hlt2
                      have hbs : w1.heap.size ≤ wr.heap.size + 1 := by have := hbl5.size; omega
                      have hbs' : w1.heap.size ≤ (wr.alloc (.cells #[.int .i64 t, .int .i64 d] 36)).heap.size := by have := hbl5.size; simp; omega
                      have hbw : b < wr.heap.size := by have := hbl5.size; omega
                      have hownA : ∀ o, (wr.alloc o).ownsRow w1.heap.size 36 2 u7 M.length (chCells M) := fun o => World.ownsRow.alloc hr5 o
                      have hne : u7.ownBlock ≠ some b := fun e => by have := (World.ownsRow.lt hr5 b e).1; omega
                      have hw1 : IntKind.i64.wrap ((j : Int) + 1) = (j : Int) + 1 := by rw [IntKind.wrap_i64]; omega
                      have hw2 : IntKind.i64.wrap ((j : Int) + 2) = (j : Int) + 2 := by rw [IntKind.wrap_i64]; omega
                      have hx8 : ((j : Int) + 1).toNat = j + 1 := by omega
                      have hx9 : ((j : Int) + 2).toNat = j + 2 := by omega
                      have hx10 : (0 : Int) ≤ (j : Int) + 1 := by omega
                      have hx11 : (0 : Int) ≤ (j : Int) + 2 := by omega
                      go_wp2
                      go_region_held3 (fun w' => w'.cell? ⟨b, off + (j + 1), none⟩ = some (.int .i64 t) ∧ w'.cell? ⟨b, off + (j + 2), none⟩ = some (.int .i64 d)) (first | exact ⟨G1, G2⟩ | exact ⟨(World.cell?_alloc_lt wr _ _ hbw).trans G1, (World.cell?_alloc_lt wr _ _ hbw).trans G2⟩ | (refine ⟨?_, ?_⟩ <;> (rw [hg2.cell_far _ (by simp; omega) (Ne.symm hne)]; first | exact (World.cell?_alloc_lt wr _ _ hbw).trans G1 | exact (World.cell?_alloc_lt wr _ _ hbw).trans G2))) ((refine step_append_lies _ (by rfl) _ _ _ (by rfl) w1.heap.size 36 i0 _ 2 16 Tryd.underlying22 hi hz0 hz1 hz2 rfl (by omega) u7 M.length (chCells M) (by rfl) (by exact hownA _) ⟨wr.heap.size, 0, none⟩ 1 1 [.int .i64 t, .int .i64 d] (by rfl) (by rfl) (by exact World.news_of_block (cs := #[.int .i64 t, .int .i64 d]) (t := 36) (fr := (0, 0)) (heap_alloc_new wr _)) (by simp [Value.oneCell']) (by omega) hmx hby (by simp; omega) (wr.heap.size + 1) (by simp) ?_; intro g cap w2 hown2 hg2 hat hlt2))
                      all_goals
                        have hb2 : Below w1.heap.size w1 w2 := ((hbl5.trans (below_alloc2 (w := wr) hbl5.size (.cells #[.int .i64 t, .int .i64 d] 36))).trans (below_drews _ _ 1)).grown hg2 hbs' (fun g e => (World.ownsRow.lt hr5 g e).1)
                        go_wp2
                        refine ⟨⟨m + 1, M ++ [(t, d)], by go_num, Lib.hid (by omega), Lib.hid (by rw [hM.out, List.replicate_succ', List.append_assoc]), own_chs (by simp) (by simp [chCells]) hown2, hb2⟩, by simp [intOf]; omega⟩
                    · have hd6 : decide ((m : Int) < n) = false := decide_eq_false hlt2
                      have hmt : n.toNat = m := by have := hmn.out; omega
                      have HT := Lib.hid hmt
                      clear hmt
                      go_wp2
                      refine ⟨⟨_, _, _, _, ⟨k + 1, j + 3, rfl, Lib.hid (by have := HJ.out; omega), by omega, M, by rw [HML.out]; omega, Lib.hid ?_, hr5⟩, rfl, rfl, rfl, by go_num⟩, by simp [intOf]; omega⟩
                      rw [HD.out, decR_step HOK.out, HT.out, hM.out]
          · have hd1 : decide (j < ns.length) = false := decide_eq_false (by have := HJ.out; have := HN.out; omega)
            have hkN : k = N := by omega
            have hfin : decR [] ns = some acc := by rw [hdec.out, hkN, ← HN.out, List.drop_length]; rfl
            have HF := Lib.hid hfin
            have hchs : Chs wr wr.heap.size A2 acc := Rd.of_own hr
            have henc := refEncode_any A2 c2 acc wr hchs (by unfold maxLen; omega)
            have hb2 : Below w.heap.size w wr := hb.trans (hbl.mono hb.size)
            have hc2 := own_cap hr
            have hownr := hr
            by_cases hce : checkE acc = 0
            · have hle := listErr_rle hce
              rw [show encSRes acc = .tuple #[.string ⟨(listTxt (nums (rle acc))).toArray⟩, .int .i64 0] from by rw [encSRes, if_pos hce, listRes, hle]] at henc
              obtain ⟨T, hT⟩ : ∃ T : ByteArray, T = ⟨(listTxt (nums (rle acc))).toArray⟩ := ⟨_, rfl⟩
              rw [← hT] at henc
              have HT := Lib.hid hT
              have HE := Lib.hid henc
              have HC := Lib.hid hce
              clear henc hfin hdec hT hce hle
              go_wp2_with fail
              refine HE.out.mono ?_
              rintro e w3 ⟨rfl, hb3⟩
              by_cases hTs : T = s
              · have HTS := Lib.hid hTs
                subst hTs
                go_wp2
                go_ret2
                have hLl : listTxt (nums (rle acc)) = L := by
                  have e1 := HT.out.symm.trans HSL.out
                  exact List.toArray_inj (ByteArray.mk.inj e1)
                have hdr : decRS L = (acc, 0) := by
                  unfold decRS
                  rw [HR.out, if_neg (by simp [h3])]
                  simp only [HF.out]
                  rw [if_pos ⟨HC.out, hLl⟩]
                rw [hdr]
                exact ⟨A2, c2, rfl, Rd.more (Rd.below hchs hb3) hb3.size, hc2, hb2.trans (hb3.mono hb2.size)⟩
              · have hTn : (!T.toList == s.toList) = true := by
                  rw [← beq_toListBytes]
                  cases hb0 : (T == s)
                  · rfl
                  · refine absurd ?_ hTs
                    have h9 : (T.data == s.data) = true := hb0
                    exact ByteArray.ext (eq_of_beq h9)
                have HTS := Lib.hid hTs
                clear hTs
                go_wp2
                go_ret2
                refine retD_no ?_ (hb2.trans (hb3.mono hb2.size))
                unfold decRS
                rw [HR.out, if_neg (by simp [h3])]
                simp only [HF.out]
                rw [if_neg (fun e => HTS.out (HT.out.trans (by rw [e.2]; exact HSL.out.symm)))]
            · rw [show encSRes acc = .tuple #[.string ⟨#[]⟩, .int .i64 (checkE acc)] from by rw [encSRes, if_neg hce]] at henc
              have hne : (checkE acc != 0) = true := by simpa using hce
              have HE := Lib.hid henc
              have HC := Lib.hid hce
              clear henc hfin hdec hce
              go_wp2_with fail
              refine HE.out.mono ?_
              rintro e w3 ⟨rfl, hb3⟩
              go_wp2
              go_ret2
              refine retD_no ?_ (hb2.trans (hb3.mono hb2.size))
              unfold decRS
              rw [HR.out, if_neg (by simp [h3])]
              simp only [HF.out]
              rw [if_neg (fun e => HC.out e.1)]
      · go_wp2
        go_ret2
        exact retD_no (decRS_bad HR.out (.inr (.inr h3))) hb
    · have hn1 : ((n : Int) != (L.length : Int)) = true := by simp; omega
      go_wp2
      go_ret2
      exact retD_no (decRS_bad HR.out (.inr (.inl hn))) hb
  · have he1 : (e0 != 0) = true := by simpa using he
    go_wp2
    go_ret2
    exact retD_no (decRS_bad HR.out (.inl he)) hb
end
end Go.Proofs.YtaficbkaofhjeaaDoor
