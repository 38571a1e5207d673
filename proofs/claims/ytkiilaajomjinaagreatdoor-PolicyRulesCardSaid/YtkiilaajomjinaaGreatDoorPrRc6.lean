/- slices.DeleteFunc of ints, walked, for a predicate that may make memory. Conditions: the row is the call's own; the predicate answers in every world that differs from the first in later blocks alone. -/
import Derived.Test.YtkiilaajomjinaaGreatDoorPrRc7
import Derived.Test.YtkiilaajomjinaaGreatDoorPrOrdM
import Derived.Lib.SliceRun
import Derived.Laws.CopyOwn
import Derived.Test.YtkiilaajomjinaaGreatDoorPrOrd
import Derived.Test.YtkiilaajomjinaaGreatDoorPrGr2
import Derived.Test.YtkiilaajomjinaaGreatDoorShelf
namespace Go.Proofs.YtkiilaajomjinaaGreatDoor
open Go.RowKit
/-- The row while DeleteFunc is at index j and has kept i of them. -/
structure DelRow (p : Nat → Bool) (xs : List Nat) (g cap base : Nat) (w W : World) (i j : Nat) : Prop where
  below : Below base w W
  row : ∃ cur : Array Value, W.heap[g]? = some (.cells cur 3 (0, 0)) ∧ cur.size = cap ∧ (∀ (q : Nat) (h : q < ((xs.take j).filter fun x => !p x).length), cur[q]? = some (natV ((xs.take j).filter fun x => !p x)[q])) ∧ ∀ (q : Nat) (h : q < xs.length), j ≤ q → cur[q]? = some (natV xs[q])
  len : i = ((xs.take j).filter fun x => !p x).length
theorem filter_take_le (p : Nat → Bool) (xs : List Nat) (j : Nat) : ((xs.take j).filter p).length ≤ j := Nat.le_trans (List.length_filter_le _ _) (List.length_take_le _ _)
theorem filter_take_succ (p : Nat → Bool) (xs : List Nat) (j : Nat) (h : j < xs.length) : (xs.take (j + 1)).filter p = (xs.take j).filter p ++ if p xs[j] then [xs[j]] else [] := by
  rw [List.take_add_one, List.getElem?_eq_getElem h, List.filter_append]
  simp only [Option.toList_some]
  cases h9 : p xs[j] <;> simp [h9]
theorem DelRow.cell {p : Nat → Bool} {xs : List Nat} {g cap base : Nat} {w W : World} {i j : Nat} (h : DelRow p xs g cap base w W i j) (hj : j < xs.length) : W.cell? ⟨g, j, none⟩ = some (natV xs[j]) := by
  obtain ⟨cur, hg, hs, h1, h2⟩ := h.row
  simp only [World.cell?, hg]
  exact h2 j hj (Nat.le_refl _)
theorem DelRow.next {p : Nat → Bool} {xs : List Nat} {g cap base : Nat} {w W W' : World} {i j : Nat} (h : DelRow p xs g cap base w W i j) (hb : Below W.heap.size W W') (hB : base ≤ W.heap.size) : DelRow p xs g cap base w W' i j := by
  obtain ⟨cur, hg, hs, h1, h2⟩ := h.row
  have hlt : g < W.heap.size := (Array.getElem?_eq_some_iff.1 hg).1
  exact ⟨h.below.trans (hb.mono hB), ⟨cur, by rw [hb.block g hlt]; exact hg, hs, h1, h2⟩, h.len⟩
theorem DelRow.skip {p : Nat → Bool} {xs : List Nat} {g cap base : Nat} {w W : World} {i j : Nat} (h : DelRow p xs g cap base w W i j) (hj : j < xs.length) (hp : p xs[j] = true) : DelRow p xs g cap base w W i (j + 1) := by
  have e : (xs.take (j + 1)).filter (fun x => !p x) = (xs.take j).filter fun x => !p x := by rw [filter_take_succ _ _ _ hj]; simp [hp]
  obtain ⟨cur, hg, hs, h1, h2⟩ := h.row
  exact ⟨h.below, ⟨cur, hg, hs, by rw [e]; exact h1, fun q hq h9 => h2 q hq (by omega)⟩, by rw [e]; exact h.len⟩
theorem DelRow.keep {p : Nat → Bool} {xs : List Nat} {g cap base : Nat} {w W : World} {i j : Nat} (h : DelRow p xs g cap base w W i j) (hj : j < xs.length) (hp : p xs[j] = false) (hij : i < j) (hc : xs.length ≤ cap) (hbg : base ≤ g) : DelRow p xs g cap base w (W.setCell ⟨g, i, none⟩ (natV xs[j])) (i + 1) (j + 1) := by
  have e : (xs.take (j + 1)).filter (fun x => !p x) = ((xs.take j).filter fun x => !p x) ++ [xs[j]] := by rw [filter_take_succ _ _ _ hj]; simp [hp]
  obtain ⟨cur, hg, hs, h1, h2⟩ := h.row
  have hi := h.len
  refine ⟨?_, ⟨cur.setIfInBounds i (natV xs[j]), ?_, by simpa using hs, ?_, ?_⟩, by rw [e, List.length_append, ← hi]; rfl⟩
  · rw [setCell_eq_setRow W g i cur _ _ _ hg]
    exact below_setRow h.below hbg _
  · rw [setCell_eq_setRow W g i cur _ _ _ hg]
    exact setRow_heap W g cur _ _ _ hg
  · rw [e]
    intro q hq
    rw [List.length_append, ← hi] at hq
    simp only [List.length_singleton] at hq
    rw [Array.getElem?_setIfInBounds]
    by_cases h9 : i = q
    · subst h9
      rw [if_pos rfl, if_pos (by omega)]
      rw [List.getElem_append_right (by omega)]
      simp [← hi]
    · rw [if_neg h9, List.getElem_append_left (by omega)]
      exact h1 q (by omega)
  · intro q hq h9
    rw [Array.getElem?_setIfInBounds, if_neg (by omega)]
    exact h2 q hq (by omega)
theorem DelRow.index {p : Nat → Bool} {xs : List Nat} {g cap base : Nat} {w W : World} {i j : Nat} (h : DelRow p xs g cap base w W i j) (hij : i < j) (hj : j ≤ xs.length) (hc : xs.length ≤ cap) : (∃ v, W.cell? ⟨g, i, none⟩ = some v) ∧ W.frozen? ⟨g, i, none⟩ = false := by
  obtain ⟨cur, hg, hs, h1, h2⟩ := h.row
  refine ⟨⟨cur[i]'(by omega), ?_⟩, ?_⟩
  · simp only [World.cell?, hg]
    rw [Array.getElem?_eq_getElem (by omega)]
    rfl
  · simp [World.frozen?, hg]
theorem row_setCells (g : Nat) (t : TypeId) (fr : Nat × Nat) {B : Nat} {w0 : World} (hBg : B ≤ g) : ∀ (vs : List Value) (o : Nat) (w : World) (cur : Array Value), w.heap[g]? = some (.cells cur t fr) → Below B w0 w → ∃ cur' : Array Value, (w.setCells g o vs).heap[g]? = some (.cells cur' t fr) ∧ cur'.size = cur.size ∧ (∀ q, q < o → cur'[q]? = cur[q]?) ∧ Below B w0 (w.setCells g o vs)
  | [], o, w, cur, h, hb => ⟨cur, h, rfl, fun _ _ => rfl, hb⟩
  | v :: vs, o, w, cur, h, hb => by
    have h0 := setCell_eq_setRow w g o cur t fr v h
    have h1 : (w.setCell ⟨g, o, none⟩ v).heap[g]? = some (.cells (cur.setIfInBounds o v) t fr) := by
      rw [h0]
      exact setRow_heap w g cur _ t fr h
    have hb1 : Below B w0 (w.setCell ⟨g, o, none⟩ v) := by
      rw [h0]
      exact below_setRow hb hBg _
    obtain ⟨cur', h2, h3, h4, h5⟩ := row_setCells g t fr hBg vs (o + 1) _ _ h1 hb1
    refine ⟨cur', h2, by rw [h3]; simp, fun q hq => ?_, h5⟩
    rw [h4 q (by omega), Array.getElem?_setIfInBounds, if_neg (by omega)]
/-- What DeleteFunc returns. -/
def DelR (p : Nat → Bool) (xs : List Nat) (base : Nat) (w : World) : Ending → World → Prop := fun e W => Below base w W ∧ ∃ v', e = .returned v' ∧ W.ownsRow base 3 1 v' (xs.filter fun x => !p x).length ((xs.filter fun x => !p x).map natV)
theorem DelRow.ended {p : Nat → Bool} {xs : List Nat} {g cap base : Nat} {w W : World} {i : Nat} (h : DelRow p xs g cap base w W i xs.length) (hc : xs.length ≤ cap) (hbg : base ≤ g) (hcap : cap ≤ maxLen) (vs : List Value) :
    Below base w (W.setCells g i vs) ∧ i = (xs.filter fun x => !p x).length ∧ (W.setCells g i vs).ownsRow base 3 1 (.slice (some ⟨g, 0, none⟩) i cap) i ((xs.filter fun x => !p x).map natV) := by
  obtain ⟨cur, hg, hs, h1, -⟩ := h.row
  have hi := h.len
  rw [List.take_length] at h1 hi
  obtain ⟨cur', k1, k2, k3, k4⟩ := row_setCells g _ _ hbg vs i W cur hg h.below
  have hle : i ≤ xs.length := by rw [hi]; exact List.length_filter_le _ _
  refine ⟨k4, hi, by rw [List.length_map, ← hi, Nat.mul_one], .inr ⟨g, cap, cur', rfl, hbg, k1, by omega, hcap, by rw [k2, hs, Nat.mul_one], ?_⟩⟩
  rw [Nat.mul_one]
  apply List.ext_getElem?
  intro q
  rw [List.getElem?_take]
  by_cases hq : q < i
  · rw [if_pos hq, Array.getElem?_toList, k3 q hq, h1 q (by rw [← hi]; exact hq), List.getElem?_map, List.getElem?_eq_getElem (by rw [← hi]; exact hq)]
    rfl
  · rw [if_neg hq, List.getElem?_eq_none (by rw [List.length_map, ← hi]; omega)]
set_option maxRecDepth 100000 in
set_option maxHeartbeats 1600000 in
theorem idxF_nil (g F c : Nat) (w : World) : Calls Tryz.prog 55 #[.slice none 0 c, .func (.func g) #[] #[.pointer (some ⟨F, 0, none⟩)]] w (fun e W => e = .returned (.int .i64 (-1)) ∧ W = w) := by
  go_enter Tryz.func55, Tryz.ntmps55
  go_wp2_with fail
  go_loopw [4, 8] (fun r i wr => wr = w ∧ i = .int .i64 0) (fun _ _ _ => 0)
  case atStart => exact ⟨rfl, rfl⟩
  case round =>
    obtain ⟨rfl, rfl⟩ := hrel
    go_wp2_with fail
    go_ret
    exact ⟨rfl, rfl⟩
end Go.Proofs.YtkiilaajomjinaaGreatDoor

/- slices.DeleteFunc of ints, walked, for a predicate that may make memory. Conditions: the row is the call's own; the predicate answers in every world that differs from the first in later blocks alone. -/
namespace Go.Proofs.YtkiilaajomjinaaGreatDoor
open Go.RowKit
set_option maxRecDepth 100000 in
set_option maxHeartbeats 800000 in
theorem del_nil (g F : Nat) (w : World) : Calls Tryz.prog 24 #[.slice none 0 0, .func (.func g) #[] #[.pointer (some ⟨F, 0, none⟩)]] w (fun e W => e = .returned (.slice none 0 0) ∧ W = w) := by
  have HI := Lib.hid (idxF_nil g F 0 w)
  go_enter Tryz.func24, Tryz.ntmps24
  go_wp2_with fail
  refine HI.out.mono ?_
  rintro e w5 ⟨rfl, hw5⟩
  obtain rfl : w = w5 := hw5.symm
  go_wp2_with fail
  go_ret
  exact ⟨rfl, rfl⟩
set_option maxRecDepth 100000 in
set_option maxHeartbeats 800000 in
theorem del_any (g F : Nat) (eg : ∀ args w, (callFunc g args).run Tryz.prog w = .ok (.enter g args) w) (p : Nat → Bool) (base : Nat) (A : Option Addr) (cap : Nat) (xs : List Nat) (w : World) (hl : xs.length ≤ 9223372036854775807) (hbase : base ≤ w.heap.size)
    (hown : w.ownsRow base 3 1 (.slice A xs.length cap) xs.length (xs.map natV))
    (hp : ∀ W, Below base w W → ∀ x ∈ xs, Calls Tryz.prog g #[.int .i64 (x : Nat), .pointer (some ⟨F, 0, none⟩)] W (Ret (.bool (p x)) W)) :
    Calls Tryz.prog 24 #[.slice A xs.length cap, .func (.func g) #[] #[.pointer (some ⟨F, 0, none⟩)]] w (DelR p xs base w) := by
  rcases hown.2 with ⟨e1, e2⟩ | ⟨gb, cap', cur, e1, hbg, hg, hnc, hcm, hcs, hct⟩
  · injection e1 with e1 _ e3
    subst e1 e3
    obtain rfl : xs = [] := List.eq_nil_of_length_eq_zero e2
    exact (del_nil g F w).mono fun e W h => ⟨by rw [h.2]; exact Below.refl _ _, _, h.1, World.ownsRow_nil _ _ _ _⟩
  · injection e1 with e1 _ e3
    subst e1 e3
    rw [Nat.mul_one] at hcs hct
    have hcell : ∀ (q : Nat) (h : q < xs.length), cur[q]? = some (natV xs[q]) := fun q h => by
      have h1 : (cur.toList.take xs.length)[q]? = some (natV xs[q]) := by rw [hct, List.getElem?_map, List.getElem?_eq_getElem h]; rfl
      rw [List.getElem?_take, if_pos h, Array.getElem?_toList] at h1
      exact h1
    have HI := Lib.hid (idxF_any g F eg p gb 0 cap xs w hl (fun j h => by
      rw [Nat.zero_add]
      simp only [World.cell?, hg]
      exact hcell j h) (fun W hW x hx => hp W (hW.mono hbase) x hx))
    have HD : Hid (∀ (k : Nat) (hk : k < xs.length) (W : World), Below w.heap.size w W → p xs[k] = true → (∀ (q : Nat) (h : q < k), p (xs[q]'(by omega)) = false) → DelRow p xs gb cap base w W k (k + 1)) := Lib.hid (fun k hk W hW hpk hpq => by
      have e0 : (xs.take k).filter (fun x => !p x) = xs.take k := List.filter_eq_self.2 (fun a ha => by
        obtain ⟨q, hq, rfl⟩ := List.getElem_of_mem ha
        rw [List.length_take] at hq
        rw [List.getElem_take, hpq q (by omega)]; rfl)
      have h0 : DelRow p xs gb cap base w w k k := ⟨Below.refl _ _, ⟨cur, hg, hcs, fun q hq => by
        simp only [e0] at hq ⊢
        rw [List.length_take] at hq
        rw [List.getElem_take]
        exact hcell q (by omega), fun q hq _ => hcell q hq⟩, by rw [e0, List.length_take]; omega⟩
      exact (h0.next hW hbase).skip hk hpk)
    have HP := Lib.hid (fun (W : World) (hW : Below base w W) => hp W hW)
    have HALL : Hid ((∀ (q : Nat) (h : q < xs.length), p xs[q] = false) → xs.filter (fun x => !p x) = xs) := Lib.hid (fun h => List.filter_eq_self.2 (fun a ha => by
      obtain ⟨q, hq, rfl⟩ := List.getElem_of_mem ha
      rw [h q hq]; rfl))
    have HO := Lib.hid (fun (W : World) (hW : Below w.heap.size w W) => own_next hown hW)
    have HE := Lib.hid (fun (W : World) (i : Nat) (h : DelRow p xs gb cap base w W i xs.length) => h.ended hnc hbg hcm (List.replicate (xs.length - i) (natV 0)))
    have HIX := Lib.hid (fun (W : World) (i j : Nat) (h : DelRow p xs gb cap base w W i j) => h.index (W := W) (i := i) (j := j))
    have HBS := Lib.hid (fun (W : World) (i j : Nat) (h : DelRow p xs gb cap base w W i j) => Nat.le_trans hbase h.below.size)
    have hncI : (xs.length : Int) ≤ (cap : Int) := by omega
    unfold IdxF at HI
    unfold DelR
    clear hown hp hg hcell hct hcs
    go_enter Tryz.func24, Tryz.ntmps24
    go_wp2_with fail
    refine HI.out.mono ?_
    rintro e w5 ⟨hb5, h5⟩
    rcases h5 with ⟨rfl, hall⟩ | ⟨k, rfl, hk, hpk, hpq⟩
    · have HF := Lib.hid (HALL.out hall)
      have HO5 := Lib.hid (HO.out _ hb5)
      have HB5 := Lib.hid (hb5.mono hbase)
      clear hall hb5 HD HP HALL HO HE HIX HBS HI
      go_wp2_with fail
      go_ret
      refine ⟨HB5.out, _, rfl, ?_⟩
      rw [HF.out]
      exact HO5.out
    · have HD5 := Lib.hid (HD.out k hk w5 hb5 hpk hpq)
      clear hpk hpq hb5 HD HALL HO HI
      have hk0 : (0 : Int) ≤ (k : Int) := by omega
      have hne : ((k : Int) == -1) = false := beq_eq_false_iff_ne.2 (by omega)
      have hwk : IntKind.i64.wrap ((k : Int) + 1) = (k : Int) + 1 := by rw [IntKind.wrap_i64]; omega
      go_wp2_with fail
      go_loopw [5, 6, 7] (fun i j _ wr => ∃ iN jN : Nat, i = .int .i64 (iN : Nat) ∧ j = .int .i64 (jN : Nat) ∧ iN < jN ∧ jN ≤ xs.length ∧ Hid (DelRow p xs gb cap base w wr iN jN)) (fun _ j _ _ => xs.length - (intOf j).toNat)
      case atStart => exact ⟨k, k + 1, rfl, by go_num, by omega, by omega, HD5⟩
      case round =>
        clear HD5 hne hwk hk0 hk
        obtain ⟨iN, jN, rfl, rfl, hij, hj, HR⟩ := hrel
        have hj0 : (0 : Int) ≤ (jN : Int) := by omega
        have hi0 : (0 : Int) ≤ (iN : Int) := by omega
        by_cases hlt : jN < xs.length
        · have hd1 : decide ((jN : Int) < (xs.length : Int)) = true := decide_eq_true (by omega)
          have hd2 : decide (jN < xs.length) = true := decide_eq_true hlt
          have hjl : (jN : Int) < (xs.length : Int) := by omega
          have hil : (iN : Int) < (xs.length : Int) := by omega
          have hil2 : iN < xs.length := by omega
          have hwr1 : IntKind.i64.wrap ((jN : Int) + 1) = (jN : Int) + 1 := by rw [IntKind.wrap_i64]; omega
          have hwr2 : IntKind.i64.wrap ((iN : Int) + 1) = (iN : Int) + 1 := by rw [IntKind.wrap_i64]; omega
          have hx := HR.out.cell hlt
          have hq := HP.out wr HR.out.below xs[jN] (List.getElem_mem _)
          have HS := Lib.hid (fun W (hW : Below wr.heap.size wr W) => (HR.out.next hW (HBS.out _ _ _ HR.out)))
          have HKP := Lib.hid (fun (W : World) (h : DelRow p xs gb cap base w W iN jN) (hp : p xs[jN] = false) => h.keep hlt hp hij hnc hbg)
          have HSK := Lib.hid (fun (W : World) (h : DelRow p xs gb cap base w W iN jN) (hp : p xs[jN] = true) => h.skip hlt hp)
          unfold natV at hx HKP
          unfold Ret at hq
          generalize p xs[jN] = pv at hq HKP HSK
          generalize xs[jN] = xv at hx hq HKP
          have HQ := Lib.hid hq
          clear hq
          cases pv with
          | true =>
            go_wp2_with fail
            refine HQ.out.mono ?_
            rintro e W5 ⟨rfl, hb5⟩
            have HR5 := Lib.hid (HSK.out _ (HS.out _ hb5) trivial)
            clear hb5 hx HS HKP HSK HQ
            go_wp2_with fail
            exact ⟨⟨iN, jN + 1, rfl, by go_num, by omega, by omega, HR5⟩, by simp [intOf]; omega⟩
          | false =>
            go_wp2_with fail
            refine HQ.out.mono ?_
            rintro e W5 ⟨rfl, hb5⟩
            have HR5 := Lib.hid (HS.out _ hb5)
            obtain ⟨⟨ov, ho⟩, hf⟩ := HIX.out _ _ _ HR5.out hij hj hnc
            have HK5 := Lib.hid (HKP.out _ HR5.out trivial)
            clear hb5 hx HS HKP HSK HQ
            go_wp2_with fail
            exact ⟨⟨iN + 1, jN + 1, by go_num, by go_num, by omega, by omega, HK5⟩, by simp [intOf]; omega⟩
        · have hd1 : decide ((jN : Int) < (xs.length : Int)) = false := decide_eq_false (by omega)
          have hd2 : decide (jN < xs.length) = false := decide_eq_false hlt
          obtain rfl : jN = xs.length := by omega
          have hil : (iN : Int) ≤ (xs.length : Int) := by omega
          have hil2 : iN ≤ xs.length := by omega
          have hic : ¬ (cap = iN) := by omega
          have hR := HR.out
          have hcl : ∀ ty, (Builtin.clear_ #[44] ty #[.slice (some ⟨gb, iN, none⟩) (xs.length - iN) (cap - iN)]).run Tryz.prog wr = .ok (.tuple #[]) (wr.setCells gb iN (List.replicate (xs.length - iN) (natV 0))) := fun ty =>
            Lib.run_clear_slice wr _ _ ty _ Tryz.underlying44 (fun w => by kernel_rfl) (by rfl) (by rfl) gb iN _ _ (by omega) (fun t ht => by
              obtain ⟨cur, h1, h2, -⟩ := hR.row
              simp only [World.cell?, h1]
              rw [Array.getElem?_eq_getElem (by omega)]; rfl) (fun t ht => by
              obtain ⟨cur, h1, h2, -⟩ := hR.row
              simp [World.frozen?, h1])
          have HE5 := Lib.hid (HE.out _ _ hR)
          clear hR HR HE HIX HBS HP
          go_wp2_with fail
          go_ret
          obtain ⟨q1, q2, q3⟩ := HE5.out
          refine ⟨q1, _, rfl, ?_⟩
          rw [← q2]
          exact q3
end Go.Proofs.YtkiilaajomjinaaGreatDoor

/- What PolicyRules' walk leans on: what Order, Clone, append, Insert and Equal give, in one form each. Conditions: the rows lie in memory. -/
namespace Go.Proofs.YtkiilaajomjinaaGreatDoor
open Go.RowKit
/-- What Order's results say. -/
def OrdQ (rs : List Rl) (ls : List At) (W : World) (A : Option Addr) (n c f : Nat) : Prop := (f ≠ 0 ∧ (chkP rs ≠ 0 ∨ allFit ls = false)) ∨
  (f = 0 ∧ n = ls.length ∧ n ≤ c ∧ chkP rs = 0 ∧ allFit ls = true ∧ ∃ l : List Nat, IsOrd ls.length (fun i => rankR rs (ls.getD i ⟨0, 0, []⟩).vals) l ∧ Rd W W.heap.size 1 A ls.length (l.map natV))
theorem ordR_form {rs : List Rl} {ls : List At} {w W : World} {e : Ending} (h : OrdR rs ls w e W) : Below w.heap.size w W ∧ ∃ (A : Option Addr) (n c f : Nat), e = .returned (.tuple #[.slice A n c, .int .i64 (f : Nat)]) ∧ Hid (OrdQ rs ls W A n c f) := by
  obtain ⟨hb, h⟩ := h
  refine ⟨hb, ?_⟩
  rcases h with ⟨h1, rfl⟩ | ⟨_, h2, rfl⟩ | ⟨h1, h2, A, c, l, rfl, hc, ho, hr⟩
  · exact ⟨_, _, _, _, rfl, Lib.hid (.inl ⟨h1, .inl h1⟩)⟩
  · exact ⟨_, _, _, 1, rfl, Lib.hid (.inl ⟨by omega, .inr h2⟩)⟩
  · exact ⟨_, _, _, 0, rfl, Lib.hid (.inr ⟨rfl, rfl, hc, h1, h2, l, ho, hr⟩)⟩
theorem OrdQ.ok {rs : List Rl} {ls : List At} {W : World} {A : Option Addr} {n c f : Nat} (h : OrdQ rs ls W A n c f) (h1 : chkP rs = 0) (h2 : allFit ls = true) : f = 0 ∧ n = ls.length ∧ n ≤ c ∧ ∃ l : List Nat, IsOrd ls.length (fun i => rankR rs (ls.getD i ⟨0, 0, []⟩).vals) l ∧ Rd W W.heap.size 1 A ls.length (l.map natV) := by
  rcases h with ⟨_, h | h⟩ | ⟨hf, hn, hc, _, _, l, ho, hr⟩
  · exact absurd h1 h
  · rw [h2] at h; cases h
  · exact ⟨hf, hn, hc, l, ho, hr⟩
theorem lies_nil (W : World) (B : Nat) : LiesP W B none 0 [] := ⟨by simp, by simp, fun i h => absurd h (by simp)⟩
theorem RuleB.more {B B' : Nat} {W : World} {cs : List Value} {r : Rl} (h : RuleB B W cs r) (hB : B ≤ B') : RuleB B' W cs r := by
  obtain ⟨k, o, n, v, A1, m1, c1, k2, o2, n2, v2, A2, m2, c2, e, h1, h2⟩ := h
  exact ⟨k, o, n, v, A1, m1, c1, k2, o2, n2, v2, A2, m2, c2, e, h1.more hB, h2.more hB⟩
theorem OwnQ.more {B B' : Nat} {W : World} {base : Nat} {v : Value} {rs : List Rl} {rcs : List (List Value)} (h : OwnQ B W base v rs rcs) (hB : B ≤ B') : OwnQ B' W base v rs rcs := ⟨h.row, h.len, fun i h1 h2 => (h.rul i h1 h2).more hB⟩
theorem OwnQ.next {B : Nat} {W W' : World} {base : Nat} {v : Value} {rs : List Rl} {rcs : List (List Value)} (h : OwnQ B W base v rs rcs) (hb : Below W.heap.size W W') (hB : B ≤ W.heap.size) : OwnQ B W' base v rs rcs :=
  ⟨own_next h.row hb, h.len, fun i h1 h2 => (h.rul i h1 h2).below' hb hB⟩
/-- A rule in a block of its own, as a row of one. -/
theorem lies_one {W : World} {B g : Nat} {cs : List Value} {r : Rl} {fz : Nat × Nat} (hR : RuleB B W cs r) (hg : W.heap[g]? = some (.cells cs.toArray 53 fz)) (hB : B ≤ g) : LiesP W (g + 1) (some ⟨g, 0, none⟩) 1 [r] := by
  refine ⟨by simp, by simp, fun i hi => ?_⟩
  have hi0 : i = 0 := by simp at hi; omega
  subst hi0
  obtain ⟨k, o, n, v, A1, m1, c1, k2, o2, n2, v2, A2, m2, c2, rfl, h1, h2⟩ := hR
  have hc : ∀ (j : Nat) (u : Value), (exC k o n v A1 m1 c1 ++ exC k2 o2 n2 v2 A2 m2 c2)[j]? = some u → W.cell? ⟨g, j, none⟩ = some u := fun j u hu => cell_of_cells hg hu
  exact ⟨g, 0, k, o, n, v, A1, m1, c1, k2, o2, n2, v2, A2, m2, c2, rfl, by omega, h1.more (by omega), h2.more (by omega), hc 0 _ rfl, hc 1 _ rfl, hc 2 _ rfl, hc 3 _ rfl, hc 4 _ rfl, hc 5 _ rfl, hc 6 _ rfl, hc 7 _ rfl, hc 8 _ rfl, hc 9 _ rfl⟩
theorem rule_one {rcs : List (List Value)} {B : Nat} {W : World} {rs : List Rl} (hlen : rcs.length = rs.length) (h : ∀ (i : Nat) (h : i < rs.length) (h' : i < rcs.length), RuleB B W rcs[i] rs[i]) : ∀ u ∈ rcs.flatten, u.oneCell' = true := fun u hu => by
  obtain ⟨rc, hrc, hu⟩ := List.mem_flatten.1 hu
  obtain ⟨q, hq, rfl⟩ := List.getElem_of_mem hrc
  exact (h q (by omega) hq).one u hu
/-- A rule put behind by append. -/
theorem app_rule {B base vb : Nat} {v : Value} {W : World} {rs : List Rl} {rcs : List (List Value)} {cs : List Value} {r : Rl} (rs2 : List Rl) (h2 : rs2 = rs ++ [r]) (hq : OwnQ B W base v rs rcs) (hB : B ≤ base) (hbase : base ≤ W.heap.size) (hl : rs.length ≤ 16)
    (hv : W.heap[vb]? = some (.cells cs.toArray 53 (0, 0))) (hr : RuleB B W cs r) (ty : TypeId) :
    ∃ (A5 : Option Addr) (c5 : Nat) (W5 : World), (Builtin.append_ #[22, 22] ty #[v, .slice (some ⟨vb, 0, none⟩) 1 1]).run Tryz.prog W = .ok (.slice A5 rs2.length c5) W5 ∧ LiesP W5 W5.heap.size A5 c5 rs2 ∧ Below base W W5 := by
  subst h2
  have hrd : Rd W (vb + 1) 10 (some ⟨vb, 0, none⟩) 1 cs := ⟨by have := hr.len; omega, .inr ⟨vb, 0, rfl, by omega, fun j u hu => by rw [Nat.zero_add]; exact cell_of_cells hv hu⟩⟩
  obtain ⟨i0, hi, hy0, hy1, hy2⟩ := info_parts ruleInfo
  obtain ⟨v', w', hrun, hown, hg, -⟩ := run_append_rd (P := Tryz.prog) W base 22 ty 53 i0 (.agg #[.int .i64 0, .int .i64 0, .string ⟨#[]⟩, .int .i64 0, .slice none 0 0, .int .i64 0, .int .i64 0, .string ⟨#[]⟩, .int .i64 0, .slice none 0 0]) 10 128 Tryz.underlying22 hi hy0 hy1 hy2 rfl (by omega) v rs.length _ hq.row (vb + 1) (some ⟨vb, 0, none⟩) 1 1 cs hrd hr.one (by unfold maxLen; omega) (by omega) hbase
  have hb : Below base W w' := (Below.refl base W).grown hg hbase (fun g e => by have := World.ownsRow.lt hq.row g e; omega)
  have hq2 := hq.app hr hown hb hB
  obtain ⟨A5, c5, e5⟩ := own_form hown
  rw [e5] at hrun hq2
  have hll : (rs ++ [r]).length = rs.length + 1 := by simp
  rw [← hll] at hrun hq2
  exact ⟨A5, c5, w', hrun, hq2.lies rfl (by have := hg.size; omega) (by omega), hb⟩
theorem flat_take : ∀ {rcs : List (List Value)} {i : Nat}, (∀ rc ∈ rcs, rc.length = 10) → rcs.flatten.take (i * 10) = (rcs.take i).flatten
  | [], i, _ => by simp
  | rc :: rcs, 0, _ => by simp
  | rc :: rcs, i + 1, h => by
    have h0 := h rc (by simp)
    rw [List.flatten_cons, List.take_succ_cons, List.flatten_cons, ← flat_take (fun x hx => h x (by simp [hx])), show (i + 1) * 10 = rc.length + i * 10 from by omega, List.take_length_add_append]
theorem flat_drop : ∀ {rcs : List (List Value)} {i : Nat}, (∀ rc ∈ rcs, rc.length = 10) → rcs.flatten.drop (i * 10) = (rcs.drop i).flatten
  | [], i, _ => by simp
  | rc :: rcs, 0, _ => by simp
  | rc :: rcs, i + 1, h => by
    have h0 := h rc (by simp)
    rw [List.flatten_cons, List.drop_succ_cons, ← flat_drop (fun x hx => h x (by simp [hx])), show (i + 1) * 10 = rc.length + i * 10 from by omega, List.drop_length_add_append]
/-- A rule put between by Insert. -/
theorem ins_rule {B base vb i : Nat} {A : Option Addr} {c : Nat} {W : World} {rs : List Rl} {rcs : List (List Value)} {cs : List Value} {r : Rl} (rs3 : List Rl) (h3 : rs3 = rs.take i ++ r :: rs.drop i) (hi : i ≤ rs.length) (hq : OwnQ B W base (.slice A rs.length c) rs rcs) (hB : B ≤ base) (hbase : base ≤ W.heap.size) (hl : rs.length ≤ 16)
    (hvb : (Value.slice A rs.length c).ownBlock ≠ some vb) (hv : W.heap[vb]? = some (.cells cs.toArray 53 (0, 0))) (hr : RuleB B W cs r) :
    Calls Tryz.prog 28 #[.slice A rs.length c, .int .i64 (i : Nat), .slice (some ⟨vb, 0, none⟩) 1 1] W (fun e W' => Below base W W' ∧ ∃ (A' : Option Addr) (c' : Nat), e = .returned (.slice A' rs3.length c') ∧ LiesP W' W'.heap.size A' c' rs3) := by
  subst h3
  have h10 : ∀ rc ∈ rcs, rc.length = 10 := fun rc hrc => by
    obtain ⟨q, hq2, rfl⟩ := List.getElem_of_mem hrc
    exact (hq.rul q (by have := hq.len; omega) hq2).len
  have hrl := hq.len
  refine (insert_rows base A rs.length c i rcs.flatten cs vb W hq.row hi (by omega) hbase hvb hr.len hr.one (rule_one hq.len hq.rul) hv).mono fun e W' h => ?_
  obtain ⟨hb, v', rfl, hown⟩ := h
  obtain ⟨A', c', e5⟩ := own_form hown
  subst e5
  have hll : (rs.take i ++ r :: rs.drop i).length = rs.length + 1 := by simp only [List.length_append, List.length_take, List.length_cons, List.length_drop]; omega
  have hfl : rcs.flatten.take (i * 10) ++ (cs ++ rcs.flatten.drop (i * 10)) = (rcs.take i ++ cs :: rcs.drop i).flatten := by
    rw [List.flatten_append, List.flatten_cons, flat_take h10, flat_drop h10]
  rw [hfl] at hown
  have hq3 : OwnQ B W' base (.slice A' (rs.length + 1) c') (rs.take i ++ r :: rs.drop i) (rcs.take i ++ cs :: rcs.drop i) := by
    refine ⟨by rw [hll]; exact hown, by simp only [List.length_append, List.length_take, List.length_cons, List.length_drop]; omega, fun j h1 h2 => ?_⟩
    rw [hll] at h1
    by_cases j1 : j < i
    · rw [List.getElem_append_left (by rw [List.length_take]; omega), List.getElem_append_left (by rw [List.length_take]; omega), List.getElem_take, List.getElem_take]
      exact (hq.rul j (by omega) (by omega)).below' hb hB
    · rw [List.getElem_append_right (by rw [List.length_take]; omega), List.getElem_append_right (by rw [List.length_take]; omega)]
      have e1 : j - (rcs.take i).length = j - i := by rw [List.length_take]; omega
      have e2 : j - (rs.take i).length = j - i := by rw [List.length_take]; omega
      by_cases j2 : j = i
      · have e3 : j - i = 0 := by omega
        simp only [e1, e2, e3, List.getElem_cons_zero]
        exact hr.below' hb hB
      · obtain ⟨q, hq9⟩ : ∃ q, j - i = q + 1 := ⟨j - i - 1, by omega⟩
        simp only [e1, e2, hq9, List.getElem_cons_succ, List.getElem_drop]
        exact (hq.rul (i + q) (by omega) (by omega)).below' hb hB
  rw [← hll] at hq3
  exact ⟨hb, A', c', by rw [hll], hq3.lies rfl (by have := hb.size; omega) (by omega)⟩
def zI (l : List Nat) : List Int := l.map Int.ofNat
theorem zI_len (l : List Nat) : (zI l).length = l.length := by simp [zI]
theorem zI_at (l : List Nat) {j : Nat} (hj : j < l.length) : (l.map natV)[j]? = some (.int .i64 ((zI l).getD j 0)) := by
  rw [List.getElem?_map, List.getElem?_eq_getElem hj]
  simp [natV, zI, List.getD, List.getElem?_eq_getElem hj]
theorem zI_map (l : List Nat) : (zI l).map (Value.int .i64) = l.map natV := by
  unfold zI natV
  rw [List.map_map]
  rfl
/-- Clone of numbers. -/
theorem clone_rd (A : Option Addr) (c B : Nat) (l : List Nat) (w : World) (h : Rd w B 1 A l.length (l.map natV)) (hl : l.length ≤ 64) :
    Calls Tryz.prog 25 #[.slice A l.length c] w (fun e W => Below w.heap.size w W ∧ ∃ v, e = .returned v ∧ W.ownsRow w.heap.size 3 1 v l.length (l.map natV)) := by
  rcases A with _ | ⟨b, off, sp⟩
  · have h0 : l.length = 0 := by
      rcases h.2 with h | ⟨b, off, h, -⟩
      · exact h
      · cases h
    obtain rfl : l = [] := List.eq_nil_of_length_eq_zero h0
    exact (Tryz.slices_Clone_int_nil 0 c w).mono fun e W h => ⟨by rw [h.2]; exact Below.refl _ _, _, h.1, World.ownsRow_nil _ _ _ _⟩
  · by_cases h0 : l.length = 0
    · obtain rfl : l = [] := List.eq_nil_of_length_eq_zero h0
      exact (Tryz.slices_Clone_int_zero ⟨b, off, sp⟩ c w).mono fun e W h => by
        obtain ⟨v', h1, h2, -, h4⟩ := h
        exact ⟨h4, v', h1, h2⟩
    · obtain ⟨b', off', e, -, hc⟩ := h.addr (by omega)
      rw [e]
      have hzl := zI_len l
      refine (Tryz.slices_Clone_int b' off' l.length c (zI l) w (by omega) (by omega) (fun j hj => hc j _ (zI_at l (by omega)))).mono fun e W h => ?_
      · obtain ⟨v', h1, h2, -, h4⟩ := h
        refine ⟨h4, v', h1, ?_⟩
        rw [List.take_of_length_le (by omega), zI_map] at h2
        exact h2
/-- Equal of the same numbers. -/
theorem eq_rd (A1 A2 : Option Addr) (c1 c2 B1 B2 : Nat) (l : List Nat) (w : World) (h1 : Rd w B1 1 A1 l.length (l.map natV)) (h2 : Rd w B2 1 A2 l.length (l.map natV)) (hl : l.length ≤ 64) :
    Calls Tryz.prog 20 #[.slice A1 l.length c1, .slice A2 l.length c2] w (Ret (.bool true) w) := by
  by_cases h0 : l.length = 0
  · rw [h0]
    exact (Tryz.slices_Equal_int_empty A1 A2 c1 0 c2 w (by omega)).mono fun e W h => ⟨by rw [h.1]; rfl, by rw [h.2]; exact Below.refl _ _⟩
  · obtain ⟨b1, o1, rfl, -, g1⟩ := h1.addr (by omega)
    obtain ⟨b2, o2, rfl, -, g2⟩ := h2.addr (by omega)
    have hzl := zI_len l
    refine (Tryz.slices_Equal_int b1 o1 l.length c1 b2 o2 l.length c2 (zI l) (zI l) w (by omega) (by omega) (by omega) (by omega) (fun j hj => g1 j _ (zI_at l (by omega))) (fun j hj => g2 j _ (zI_at l (by omega)))).mono fun e W h => ?_
    obtain ⟨h3, q, h4⟩ := h
    exact ⟨by rw [h3]; simp, by rw [h4]; exact below_drews _ _ _⟩
theorem clone_n (A : Option Addr) (c B n : Nat) (l : List Nat) (w : World) (hn : n = l.length) (h : Rd w B 1 A n (l.map natV)) (hl : n ≤ 64) :
    Calls Tryz.prog 25 #[.slice A n c] w (fun e W => Below w.heap.size w W ∧ ∃ (A' : Option Addr) (c' : Nat), e = .returned (.slice A' n c') ∧ W.ownsRow w.heap.size 3 1 (.slice A' n c') n (l.map natV)) := by
  subst hn
  refine (clone_rd A c B l w h hl).mono fun e W h => ?_
  obtain ⟨h1, v, rfl, h3⟩ := h
  obtain ⟨A', c', rfl⟩ := own_form h3
  exact ⟨h1, A', c', rfl, h3⟩
theorem eq_n (A1 A2 : Option Addr) (c1 c2 B1 B2 n : Nat) (l : List Nat) (w : World) (hn : n = l.length) (h1 : Rd w B1 1 A1 n (l.map natV)) (h2 : Rd w B2 1 A2 n (l.map natV)) (hl : n ≤ 64) :
    Calls Tryz.prog 20 #[.slice A1 n c1, .slice A2 n c2] w (Ret (.bool true) w) := by
  subst hn
  exact eq_rd A1 A2 c1 c2 B1 B2 l w h1 h2 hl
theorem del_rd (g F : Nat) (eg : ∀ args w, (callFunc g args).run Tryz.prog w = .ok (.enter g args) w) (p : Nat → Bool) (base : Nat) (A : Option Addr) (cap n : Nat) (xs FL : List Nat) (w : World) (hn : n = xs.length) (hF : xs.filter (fun x => !p x) = FL) (hl : n ≤ 64) (hbase : base ≤ w.heap.size)
    (hown : w.ownsRow base 3 1 (.slice A n cap) n (xs.map natV))
    (hp : ∀ W, Below base w W → ∀ x ∈ xs, Calls Tryz.prog g #[.int .i64 (x : Nat), .pointer (some ⟨F, 0, none⟩)] W (Ret (.bool (p x)) W)) :
    Calls Tryz.prog 24 #[.slice A n cap, .func (.func g) #[] #[.pointer (some ⟨F, 0, none⟩)]] w (fun e W => Below base w W ∧ ∃ (A' : Option Addr) (c' : Nat), e = .returned (.slice A' FL.length c') ∧ Rd W W.heap.size 1 A' FL.length (FL.map natV)) := by
  subst hn hF
  refine (del_any g F eg p base A cap xs w (by omega) hbase hown hp).mono fun e W h => ?_
  obtain ⟨h1, v, rfl, h3⟩ := h
  obtain ⟨A', c', rfl⟩ := own_form h3
  exact ⟨h1, A', c', rfl, Rd.of_own h3⟩
theorem row_set {W : World} {g : Nat} {cur : Array Value} {T : TypeId} {fz : Nat × Nat} (h : W.heap[g]? = some (.cells cur T fz)) (i : Nat) (v : Value) : (W.setCell ⟨g, i, none⟩ v).heap[g]? = some (.cells (cur.setIfInBounds i v) T fz) := by
  rw [setCell_eq_setRow W g i cur T fz v h]
  exact setRow_heap W g cur _ T fz h
/-- Five cells of a row of ten are set. -/
theorem set5_row {W : World} {g : Nat} {a0 a1 a2 a3 a4 a5 a6 a7 a8 a9 : Value} {T : TypeId} {fz : Nat × Nat} (h : W.heap[g]? = some (.cells #[a0, a1, a2, a3, a4, a5, a6, a7, a8, a9] T fz)) (v0 v1 v2 v3 v4 : Value) :
    (((((W.setCell ⟨g, 0, none⟩ v0).setCell ⟨g, 1, none⟩ v1).setCell ⟨g, 2, none⟩ v2).setCell ⟨g, 3, none⟩ v3).setCell ⟨g, 4, none⟩ v4).heap[g]? = some (.cells #[v0, v1, v2, v3, v4, a5, a6, a7, a8, a9] T fz) ∧
    (∀ k, k ≠ g → (((((W.setCell ⟨g, 0, none⟩ v0).setCell ⟨g, 1, none⟩ v1).setCell ⟨g, 2, none⟩ v2).setCell ⟨g, 3, none⟩ v3).setCell ⟨g, 4, none⟩ v4).heap[k]? = W.heap[k]?) ∧
    (∀ (B : Nat) (w0 : World), Below B w0 W → B ≤ g → Below B w0 (((((W.setCell ⟨g, 0, none⟩ v0).setCell ⟨g, 1, none⟩ v1).setCell ⟨g, 2, none⟩ v2).setCell ⟨g, 3, none⟩ v3).setCell ⟨g, 4, none⟩ v4)) ∧ (((((W.setCell ⟨g, 0, none⟩ v0).setCell ⟨g, 1, none⟩ v1).setCell ⟨g, 2, none⟩ v2).setCell ⟨g, 3, none⟩ v3).setCell ⟨g, 4, none⟩ v4).heap.size = W.heap.size := by
  refine ⟨row_set (row_set (row_set (row_set (row_set h 0 v0) 1 v1) 2 v2) 3 v3) 4 v4, fun k hk => ?_, fun B w0 hb hB => ?_, by simp⟩
  · rw [heap_setCell_other _ _ _ _ hk, heap_setCell_other _ _ _ _ hk, heap_setCell_other _ _ _ _ hk, heap_setCell_other _ _ _ _ hk, heap_setCell_other _ _ _ _ hk]
  · exact ((((hb.setCell (p := ⟨g, 0, none⟩) hB v0).setCell (p := ⟨g, 1, none⟩) hB v1).setCell (p := ⟨g, 2, none⟩) hB v2).setCell (p := ⟨g, 3, none⟩) hB v3).setCell (p := ⟨g, 4, none⟩) hB v4
theorem enter2 : ∀ args w, (callFunc 26 args).run Tryz.prog w = .ok (.enter 26 args) w := fun args w => by kernel_rfl
theorem enter3 : ∀ args w, (callFunc 27 args).run Tryz.prog w = .ok (.enter 27 args) w := fun args w => by kernel_rfl
theorem fit_at {ls : List At} (h : allFit ls = true) (k : Nat) (hk : k < ls.length) : BdOk (ls[k]'hk).vals := bdok_fits (List.all_eq_true.1 h _ (List.getElem_mem hk))
end Go.Proofs.YtkiilaajomjinaaGreatDoor
