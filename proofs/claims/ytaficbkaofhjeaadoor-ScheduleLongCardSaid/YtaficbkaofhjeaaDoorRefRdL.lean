/- ref01.ReadList, walked. Conditions: the string is shorter than 2^61. -/
import Derived.Test.YtaficbkaofhjeaaDoorRefRd
namespace Go.Proofs.YtaficbkaofhjeaaDoor
open Go.RowKit

/-- v is a slice of integers of the call's own, from block `base` on, that holds l. -/
def OwnI (w : World) (base : Nat) (v : Value) (l : List Int) : Prop := w.ownsRow base 3 1 v l.length (i64s l)
theorem i64info : (Tryd.prog.info? 3).map (fun i => (i.zero, i.size, i.bytes)) = some (some (.int .i64 0), 1, 8) := by kernel_rfl
theorem ownI_of_eq {w : World} {base n : Nat} {v : Value} {xs : List Value} {l : List Int} (hn : n = l.length) (hx : xs = i64s l) (h : w.ownsRow base 3 1 v n xs) : OwnI w base v l := by
  subst hn; subst hx; exact h
theorem own_row_below {w w' : World} {base e size n : Nat} {v : Value} {xs : List Value} (h : w.ownsRow base e size v n xs) (hb : Below w.heap.size w w') : w'.ownsRow base e size v n xs := by
  have hg : w.grownBy w' none := ⟨hb.os, hb.tape, hb.output, hb.size, fun k hk _ => hb.block k hk⟩
  rcases h.2 with ⟨rfl, _⟩ | ⟨g, cap, cur, rfl, _⟩
  · exact h.kept hg (.inl rfl)
  · exact h.kept hg (.inr (by simp [Value.ownBlock]))
theorem own_base {w : World} {base base' e size n : Nat} {v : Value} {xs : List Value} (h : w.ownsRow base e size v n xs) (hb : base' ≤ base) : w.ownsRow base' e size v n xs := by
  refine ⟨h.1, ?_⟩
  rcases h.2 with h2 | ⟨g, cap, cur, hv, hg, r⟩
  · exact .inl h2
  · exact .inr ⟨g, cap, cur, hv, by omega, r⟩
/-- A list, its size and an error are returned. -/
def RetL (r : List Int × Nat × Int) (w : World) : Ending → World → Prop := fun e w' => ∃ v, e = .returned (.tuple #[v, .int .i64 (r.2.1 : Nat), .int .i64 r.2.2]) ∧ OwnI w' w.heap.size v r.1 ∧ Below w.heap.size w w'

theorem str_extract (L : List UInt8) (a : Nat) : (⟨L.toArray⟩ : ByteArray).extract a (⟨L.toArray⟩ : ByteArray).size = ⟨(L.drop a).toArray⟩ := by
  apply ByteArray.ext
  rw [ByteArray.data_extract]
  apply Array.ext'
  simp [ByteArray.size]
  rw [List.take_of_length_le (by simp)]

theorem u8_one {b : UInt8} (e : (b.toNat : Int) = 1) : b = 1 := by
  apply UInt8.toNat_inj.1
  have h1 : b.toNat = 1 := by omega
  rw [h1]; rfl

theorem retL_of {w w' : World} {r : List Int × Nat × Int} {v : Value} {l : List Int} {n : Nat} {e : Int} (h : r = (l, n, e)) (hown : OwnI w' w.heap.size v l) (hb : Below w.heap.size w w') :
    RetL r w (.returned (.tuple #[v, .int .i64 (n : Int), .int .i64 e])) w' := by subst h; exact ⟨v, rfl, hown, hb⟩

set_option maxRecDepth 100000 in
set_option maxHeartbeats 1600000 in
theorem refReadList_any (L : List UInt8) (hL : L.length < 2305843009213693952) (w : World) : Calls Tryd.prog 25 #[.string ⟨L.toArray⟩] w (RetL (rdList L) w) := by
  obtain ⟨i0, hi, hz0, hz1, hz2⟩ := info_parts i64info
  obtain ⟨s, hs⟩ : ∃ s : ByteArray, s = ⟨L.toArray⟩ := ⟨_, rfl⟩
  have hsz : s.size = L.length := by rw [hs]; simp [ByteArray.size]
  have hit : Hid (∀ (j : Nat) (hj : j < L.length), s[j]'(by omega) = L[j]) := by subst hs; intro j hj; rfl
  have hex : Hid (∀ a, s.extract a L.length = ⟨(L.drop a).toArray⟩) := by
    intro a
    rw [← hsz, hs]; exact str_extract L a
  rw [← hs]
  clear hs
  go_enter Tryd.func25, Tryd.ntmps25
  go_wp2
  go_loopw [5, 6] (fun v i wr => ∃ (a : Nat) (l : List Int), i = .int .i64 a ∧ a ≤ L.length ∧ l.length ≤ 20000 ∧ rdList L = rdAll l a (rdL (20000 - l.length) (L.drop a)) ∧ OwnI wr w.heap.size v l ∧ Below w.heap.size w wr) (fun _ i _ => L.length - (intOf i).toNat)
  case atStart => exact ⟨0, [], rfl, by omega, by simp, by rw [rdList]; exact (rdAll_nil _ _).symm, World.ownsRow_lit (base := w.heap.size) w #[] 0 (Nat.le_refl _) (by unfold maxLen; omega) rfl, below_alloc _ _⟩
  case round =>
    obtain ⟨a, l, rfl, ha, hl, heq, hown, hb⟩ := hrel
    have HEQ := Lib.hid heq
    clear heq
    by_cases hlt : a < L.length
    · have hcons : L.drop a = L[a] :: L.drop (a + 1) := List.drop_eq_getElem_cons hlt
      obtain ⟨b, hb1⟩ : ∃ b : UInt8, L[a] = b := ⟨_, rfl⟩
      have hij : s[a]'(by omega) = b := (hit.out a hlt).trans hb1
      have hbl := b.toNat_lt
      have hne : ((a : Int) == (L.length : Int)) = false := by rw [beq_eq_false_iff_ne]; omega
      rw [hb1] at hcons
      have HC := Lib.hid hcons
      clear hb1 hcons
      by_cases h1 : b = 1
      · have hone : ((b.toNat : Int) == 1) = true := by subst h1; rfl
        have hr : rdList L = (l, a + 1, 0) := by
          rw [HEQ.out, HC.out, h1, rdL_end]; simp [rdAll]
        have HR := Lib.hid hr
        clear hr h1
        go_wp2
        go_ret3
        exact retL_of HR.out hown hb
      · have hone : ((b.toNat : Int) == 1) = false := by
          rw [beq_eq_false_iff_ne]
          exact fun e => h1 (u8_one e)
        by_cases hfull : l.length = 20000
        · have hr : rdList L = ([], 0, 4) := by
            rw [HEQ.out, HC.out, hfull, Nat.sub_self, rdL_limit _ h1]; simp [rdAll]
          have HR := Lib.hid hr
          obtain ⟨A, c, rfl⟩ := own_form hown
          rw [hfull]
          clear hr h1 hfull hown
          go_wp2
          go_ret3
          exact retL_of HR.out (World.ownsRow_lit (base := w.heap.size) wr #[] 0 hb.size (by unfold maxLen; omega) rfl) (hb.trans (below_alloc2 hb.size _))
        · have hfl : ((l.length : Int) == 20000) = false := by rw [beq_eq_false_iff_ne]; omega
          obtain ⟨f, hf⟩ : ∃ f, 20000 - l.length = f + 1 := ⟨20000 - l.length - 1, by omega⟩
          have HF := Lib.hid hf
          have hl20 : l.length < 20000 := by omega
          have H1 := Lib.hid h1
          have hxa := hex.out a
          rw [HC.out] at hxa
          obtain ⟨A, c, rfl⟩ := own_form hown
          clear hf h1 hfull
          have hlen2 : (b :: L.drop (a + 1)).length < 4611686018427387904 := by simp; omega
          have hsize := @rdInt_size b (L.drop (a + 1))
          have hlim := rdL_err (f := f) (t := L.drop (a + 1)) H1.out
          have hstp := rdAll_step (f := f) (at_ := a) (t := L.drop (a + 1)) l H1.out
          have hcall := refReadInt_any (b :: L.drop (a + 1)) hlen2 wr
          obtain ⟨⟨v, sz, er⟩, hr⟩ : ∃ r, rdInt (b :: L.drop (a + 1)) = r := ⟨_, rfl⟩
          rw [hr] at hsize hlim hstp hcall
          have hrd := HEQ.out
          rw [HC.out, HF.out] at hrd
          clear hr
          dsimp only at hsize hlim hstp
          have HSZ := Lib.hid hsize
          have HLIM := Lib.hid hlim
          have HSTP := Lib.hid hstp
          have HRD := Lib.hid hrd
          have HCALL := Lib.hid hcall
          clear hsize hlim hstp hrd hcall
          go_wp2_with fail
          refine HCALL.out.mono ?_
          rintro e w2 ⟨rfl, rfl⟩
          dsimp only
          by_cases her : er = 0
          · subst her
            have hs3 := HSZ.out rfl
            obtain ⟨hs4, hs5, hs6⟩ := hs3
            rw [List.length_drop] at hs5
            have hdrop : (b :: L.drop (a + 1)).drop sz = L.drop (a + sz) := by rw [← HC.out, List.drop_drop]
            have HST := Lib.hid (HSTP.out rfl)
            rw [hdrop] at HST
            have HS4 := Lib.hid hs4
            have hs7 : 1 ≤ sz := by omega
            have hs8 : a + sz ≤ L.length := by omega
            have hmx : l.length + 1 ≤ maxLen := by unfold maxLen; omega
            have hby : (l.length + 1) * 8 ≤ 140737488355328 := by omega
            have hbs : w.heap.size ≤ (wr.alloc (.cells #[.int .i64 v] 3)).heap.size := by have := hb.size; simp; omega
            clear hs4 hs5 hs6 hdrop
            go_wp2_with (at_builtin; refine wpList_append_own _ rfl (.tmp 39) (.tmp 41) _ rfl w.heap.size 3 i0 (.int .i64 0) 1 8 Tryd.underlying39 hi hz0 hz1 hz2 rfl (by omega) _ _ _ rfl (World.ownsRow.alloc hown _) ⟨wr.heap.size, 0, none⟩ 1 1 [.int .i64 v] rfl rfl (cell_one_new _ _ _) (by simp [Value.oneCell']) hmx hby hbs ?_; intro v2 w3 hown2 hg2 _)
            refine ⟨⟨a + sz, l ++ [v], by go_num, hs8, by simp; omega, ?_, ownI_of_eq (by simp) (by rw [i64s_append]; rfl) hown2, hb.trans ((below_alloc2 hb.size _).grown hg2 hbs (fun g e => (World.ownsRow.lt hown g e).1))⟩, by simp [intOf]; omega⟩
            rw [HRD.out, HST.out]
            congr 2
            have := HF.out
            simp
            omega
          · have hne2 : (er != 0) = true := by simpa using her
            have hr3 : rdList L = ([], 0, er) := by
              rw [HRD.out, HLIM.out her]; simp [rdAll, her]
            have HR := Lib.hid hr3
            clear hr3 her
            go_wp2
            go_ret3
            exact retL_of HR.out (World.ownsRow_lit (base := w.heap.size) wr #[] 0 hb.size (by unfold maxLen; omega) rfl) (hb.trans (below_alloc2 hb.size _))
    · obtain rfl : a = L.length := by omega
      have hr3 : rdList L = ([], 0, 11) := by
        rw [HEQ.out, List.drop_length, rdL_short]; simp [rdAll]
      have HR := Lib.hid hr3
      have hne : ((L.length : Int) == (L.length : Int)) = true := by simp
      clear hr3
      go_wp2
      go_ret3
      exact retL_of HR.out (World.ownsRow_lit (base := w.heap.size) wr #[] 0 hb.size (by unfold maxLen; omega) rfl) (hb.trans (below_alloc2 hb.size _))
end Go.Proofs.YtaficbkaofhjeaaDoor
