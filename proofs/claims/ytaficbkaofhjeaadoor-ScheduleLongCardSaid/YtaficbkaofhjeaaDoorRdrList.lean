/- codec.reader.list and codec.ReadList, walked. Conditions: the string is shorter than 2^61. -/
import Derived.Test.YtaficbkaofhjeaaDoorRdrInt2
namespace Go.Proofs.YtaficbkaofhjeaaDoor
open Go.RowKit

theorem rdrInt_any (L : List UInt8) (b : Nat) (a : Nat) (ha : a ≤ L.length) (hs : L.length < 2305843009213693952) (w : World) (hrd : Rdr w b ⟨L.toArray⟩ a 0) :
    Calls Tryd.prog 40 #[.pointer (some ⟨b, 0, none⟩)] w (RetI (rdInt (L.drop a)) b ⟨L.toArray⟩ a w) := by
  have hsz : (⟨L.toArray⟩ : ByteArray).size = L.length := by simp [ByteArray.size]
  by_cases hlt : a < L.length
  · have hc : L.drop a = L[a] :: L.drop (a + 1) := List.drop_eq_getElem_cons hlt
    rw [hc]
    by_cases h8 : 8 < more L[a]
    · exact rdrInt_far b _ a L[a] _ h8 (by omega) (by omega) rfl w hrd
    · cases hn : isNeg L[a]
      · exact rdrInt_pos L b _ rfl a _ _ hc h8 hn hs w hrd
      · exact rdrInt_neg L b _ rfl a _ _ hc h8 hn hs w hrd
  · rw [List.drop_eq_nil_of_le (by omega)]
    exact rdrInt_end b _ a (by omega) (by omega) w hrd

/-- The place of the reader in block b, read off the world: for a loop's measure. -/
def rdrAt (b : Nat) (w : World) : Nat := match w.heap[b]? with
  | some (.cells c _ _) => (intOf (c.getD 1 (.bool false))).toNat
  | _ => 0
theorem rdrAt_eq {b : Nat} {w : World} {s : ByteArray} {a : Nat} {e : Int} (h : Rdr w b s a e) : rdrAt b w = a := by
  unfold Rdr at h; simp [rdrAt, h, intOf]

/-- What reading a list leaves. -/
def RetRL (r : List Int × Nat × Int) (b : Nat) (s : ByteArray) (w : World) : Ending → World → Prop := fun e w' => ∃ v, e = .returned v ∧
  ((r.2.2 = 0 ∧ OwnI w' w.heap.size v r.1 ∧ Rdr w' b s r.2.1 0) ∨ (r.2.2 ≠ 0 ∧ ∃ a', Rdr w' b s a' r.2.2)) ∧ w.grownBy w' (some b)
theorem retRL_no {r : List Int × Nat × Int} {b : Nat} {s : ByteArray} {w w' : World} {v : Value} {k : Int} {a' : Nat} (hr : r = ([], 0, k)) (hk : k ≠ 0) (h : Rdr w' b s a' k) (hg : w.grownBy w' (some b)) : RetRL r b s w (.returned v) w' := by
  subst hr
  exact ⟨v, rfl, .inr ⟨hk, a', h⟩, hg⟩
theorem own_only {w w' : World} {base e size n b : Nat} {v : Value} {xs : List Value} (h : w.ownsRow base e size v n xs) (hg : w.grownBy w' (some b)) (hb : b < base) : w'.ownsRow base e size v n xs := by
  refine h.kept hg ?_
  by_cases e : v.ownBlock = some b
  · have := (h.lt b e).1; omega
  · exact .inr e

set_option maxRecDepth 100000 in
set_option maxHeartbeats 3200000 in
theorem rdrList_any (L : List UInt8) (b : Nat) (hs : L.length < 2305843009213693952) (w : World) (hrd : Rdr w b ⟨L.toArray⟩ 0 0) :
    Calls Tryd.prog 39 #[.pointer (some ⟨b, 0, none⟩), .func (.func 40) #[.pointer (some ⟨b, 0, none⟩)] #[]] w (RetRL (rdList L) b ⟨L.toArray⟩ w) := by
  obtain ⟨i0, hi, hz0, hz1, hz2⟩ := info_parts i64info
  have hbw := hrd.lt
  obtain ⟨s, hsL⟩ : ∃ s : ByteArray, s = ⟨L.toArray⟩ := ⟨_, rfl⟩
  have hsz : s.size = L.length := by rw [hsL]; simp [ByteArray.size]
  have hit : Hid (∀ (j : Nat) (hj : j < L.length) (h2 : j < s.size), s[j] = L[j]) := by subst hsL; intro j hj h2; rfl
  rw [← hsL] at hrd ⊢
  have HSL := Lib.hid hsL
  have HSZ := Lib.hid hsz
  have hs1 : s.size ≤ L.length := by omega
  have hs2 : L.length ≤ s.size := by omega
  clear hsL hsz
  go_enter Tryd.func39, Tryd.ntmps39
  go_wp2
  go_loopw [5, 6] (fun v _ wr => ∃ (a : Nat) (l : List Int), a ≤ L.length ∧ l.length ≤ 20000 ∧ rdList L = rdAll l a (rdL (20000 - l.length) (L.drop a)) ∧ OwnI wr w.heap.size v l ∧ Rdr wr b s a 0 ∧ w.grownBy wr (some b)) (fun _ _ wr => L.length - rdrAt b wr)
  case atStart => exact ⟨0, [], by omega, by simp, by rw [rdList]; exact (rdAll_nil _ _).symm, World.ownsRow_nil _ _ _ _, hrd, only_refl _ _⟩
  case round =>
    obtain ⟨a, l, ha, hl, heq, hown, hr, hg⟩ := hrel
    have HEQ := Lib.hid heq
    clear heq
    have c0 := hr.cell 0
    have c1 := hr.cell 1
    have f1 := hr.frozen 1
    simp at c0 c1
    by_cases hlt : a < L.length
    · have hcons : L.drop a = L[a] :: L.drop (a + 1) := List.drop_eq_getElem_cons hlt
      have hij := hit.out a hlt (by omega)
      obtain ⟨c, hb1⟩ : ∃ c : UInt8, L[a] = c := ⟨_, rfl⟩
      rw [hb1] at hij hcons
      have HC := Lib.hid hcons
      have hcl := c.toNat_lt
      have hd1 : decide ((a : Int) < (s.size : Int)) = true := by simp; omega
      have hx1 : (0 : Int) ≤ (a : Int) := by omega
      have hx2 : (a : Int) < (s.size : Int) := by omega
      clear hb1 hcons
      by_cases h1 : c = 1
      · have hone : ((c.toNat : Int) == 1) = true := by subst h1; rfl
        have hr2 : rdList L = (l, a + 1, 0) := by
          rw [HEQ.out, HC.out, h1, rdL_end]; simp [rdAll]
        have HR := Lib.hid hr2
        clear hr2 h1
        go_wp2
        go_quiet (fail)
        go_wp2
        go_ret
        refine ⟨_, rfl, ?_, World.grownBy.trans hg (World.grownBy.trans (only_drewN _ _ _) (only_set _ _ _ _))⟩
        rw [HR.out]
        exact .inl ⟨rfl, own_only (own_only hown (only_drewN _ _ _) hbw) (only_set _ _ _ _) hbw, (hr.drewN _).setAt (a + 1)⟩
      · have hone : ((c.toNat : Int) == 1) = false := by
          rw [beq_eq_false_iff_ne]
          exact fun e => h1 (u8_one e)
        have H1 := Lib.hid h1
        obtain ⟨A, cp, rfl⟩ := own_form hown
        by_cases hfull : l.length = 20000
        · have hr2 : rdList L = ([], 0, 4) := by
            rw [HEQ.out, HC.out, hfull, Nat.sub_self, rdL_limit _ h1]; simp [rdAll]
          have HR := Lib.hid hr2
          have hfl : ((l.length : Int) == 20000) = true := by rw [hfull]; rfl
          clear hr2 h1 hfull
          go_wp2
          go_quiet (fail)
          go_wp2
          go_quiet (fail)
          go_wp2_with fail
          refine (fail_first b s a 4 _ (hr.drewN _)).mono ?_
          rintro e w2 ⟨rfl, hr2, hg2⟩
          go_wp2_with fail
          refine (rdrInt_err b s a 4 (by decide) (by omega) (by omega) _ hr2).mono ?_
          rintro e w3 ⟨rfl, hr3, hg3⟩
          have c2 := hr3.cell 2
          simp at c2
          go_wp2
          go_ret
          exact retRL_no HR.out (by decide) hr3 (World.grownBy.trans hg (World.grownBy.trans (only_drewN _ _ _) (World.grownBy.trans hg2 hg3)))
        · have hfl : ((l.length : Int) == 20000) = false := by rw [beq_eq_false_iff_ne]; omega
          have hl20 : l.length < 20000 := by omega
          obtain ⟨f, hf⟩ : ∃ f, 20000 - l.length = f + 1 := ⟨20000 - l.length - 1, by omega⟩
          have HF := Lib.hid hf
          have hsize := @rdInt_size c (L.drop (a + 1))
          have hlim := rdL_err (f := f) (t := L.drop (a + 1)) h1
          have hstp := rdAll_step (f := f) (at_ := a) (t := L.drop (a + 1)) l h1
          have hcall : ∀ W : World, Rdr W b s a 0 → Calls Tryd.prog 40 #[.pointer (some ⟨b, 0, none⟩)] W (RetI (rdInt (L.drop a)) b s a W) := fun W hW => by
            have e := HSL.out
            subst e
            exact rdrInt_any L b a ha hs W hW
          rw [HC.out] at hcall
          obtain ⟨⟨v, sz, er⟩, hrr⟩ : ∃ r, rdInt (c :: L.drop (a + 1)) = r := ⟨_, rfl⟩
          rw [hrr] at hsize hlim hstp hcall
          have hrdl := HEQ.out
          rw [HC.out, HF.out] at hrdl
          clear hrr
          dsimp only at hsize hlim hstp
          have HSIZE := Lib.hid hsize
          have HLIM := Lib.hid hlim
          have HSTP := Lib.hid hstp
          have HRD := Lib.hid hrdl
          have HCALL := Lib.hid hcall
          clear hsize hlim hstp hrdl hcall hf h1 hfull
          go_wp2
          go_quiet (fail)
          go_wp2
          go_quiet (fail)
          go_wp2_with fail
          refine (HCALL.out _ (hr.drewN _)).mono ?_
          rintro e w2 ⟨rfl, hok, hno, hg2⟩
          dsimp only at hok hno
          have hg3 : w.grownBy w2 (some b) := World.grownBy.trans hg (World.grownBy.trans (only_drewN _ _ _) hg2)
          have hown2 := own_only (own_only hown (only_drewN _ _ _) hbw) hg2 hbw
          by_cases her : er = 0
          · subst her
            have hr2 := hok rfl
            clear hok hno
            have c2 := hr2.cell 2
            simp at c2
            obtain ⟨hs4, hs5, hs6⟩ := HSIZE.out rfl
            rw [List.length_drop] at hs5
            have hdrop : (c :: L.drop (a + 1)).drop sz = L.drop (a + sz) := by rw [← HC.out, List.drop_drop]
            have HST := Lib.hid (HSTP.out rfl)
            rw [hdrop] at HST
            have hs7 : 1 ≤ sz := by omega
            have hs8 : a + sz ≤ L.length := by omega
            have hmx : l.length + 1 ≤ maxLen := by unfold maxLen; omega
            have hby : (l.length + 1) * 8 ≤ 140737488355328 := by omega
            have hbs : w.heap.size ≤ (w2.alloc (.cells #[.int .i64 v] 3)).heap.size := by have := hg3.size; simp; omega
            clear hs4 hs5 hs6 hdrop
            go_wp2_with (at_builtin; refine wpList_append_own_at _ rfl (.tmp 61) (.tmp 63) _ rfl w.heap.size 3 i0 (.int .i64 0) 1 8 Tryd.underlying39 hi hz0 hz1 hz2 rfl (by omega) _ _ _ rfl (World.ownsRow.alloc hown2 _) ⟨w2.heap.size, 0, none⟩ 1 1 [.int .i64 v] rfl rfl (cell_one_new _ _ _) (by simp [Value.oneCell']) hmx hby hbs ?_; intro v2 w3 hown3 hg4 _ _)
            have hne3 : some b ≠ (Value.slice A l.length cp).ownBlock := fun e => by
              have := (hown2.lt b e.symm).1; omega
            have hr3 : Rdr w3 b s (a + sz) 0 := (hg4.block b (by have := hr2.lt; simp; omega) hne3).trans ((Below.heap_alloc _ _ b hr2.lt).trans hr2)
            refine ⟨⟨a + sz, l ++ [v], hs8, by simp; omega, ?_, ownI_of_eq (by simp) (by rw [i64s_append]; rfl) hown3, hr3, ?_⟩, ?_⟩
            · rw [HRD.out, HST.out]
              congr 2
              have := HF.out
              simp
              omega
            · refine ⟨hg4.os.trans hg3.os, hg4.tape.trans hg3.tape, hg4.output.trans hg3.output, by have h1 := hg4.size; have h2 := hg3.size; simp at h1; omega, fun i hi1 hi2 => ?_⟩
              have h2 := hg3.size
              rw [hg4.block i (by simp; omega) (fun e => by have := (hown2.lt i e.symm).1; omega), Below.heap_alloc _ _ i (by omega)]
              exact hg3.block i hi1 hi2
            · rw [rdrAt_eq hr3, rdrAt_eq hr]; omega
          · obtain ⟨a', hr2⟩ := hno her
            clear hok hno
            have c2 := hr2.cell 2
            simp at c2
            have hne2 : (er != 0) = true := by simpa using her
            have hr3 : rdList L = ([], 0, er) := by
              rw [HRD.out, HLIM.out her]; simp [rdAll, her]
            have HR := Lib.hid hr3
            have HER := Lib.hid her
            clear hr3 her
            go_wp2
            go_ret
            exact retRL_no HR.out HER.out hr2 hg3
    · obtain rfl : a = L.length := by omega
      have hr3 : rdList L = ([], 0, 11) := by
        rw [HEQ.out, List.drop_length, rdL_short]; simp [rdAll]
      have HR := Lib.hid hr3
      have hd1 : decide (L.length < s.size) = false := by simp; omega
      clear hr3
      go_wp2
      go_quiet (fail)
      go_wp2
      go_quiet (fail)
      go_wp2_with fail
      refine (rdrInt_end b s L.length (by omega) (by omega) _ (hr.drewN _)).mono ?_
      rintro e w2 ⟨rfl, _, hno, hg2⟩
      obtain ⟨a', hr2⟩ := hno (by decide)
      have c2 := hr2.cell 2
      simp [rdInt] at c2
      go_wp2
      go_ret
      exact retRL_no HR.out (by decide) hr2 (World.grownBy.trans hg (World.grownBy.trans (only_drewN _ _ _) hg2))
end Go.Proofs.YtaficbkaofhjeaaDoor
