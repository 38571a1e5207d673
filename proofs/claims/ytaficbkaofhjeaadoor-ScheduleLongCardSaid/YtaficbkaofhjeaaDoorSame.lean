/- ref.Same and the two Switches, walked. Conditions: the slices read as lists. -/
import Derived.Test.YtaficbkaofhjeaaDoorCheck
import Derived.Deep.QuietTactic
import Derived.BigQuiet
namespace Go.Proofs.YtaficbkaofhjeaaDoor
open Go.RowKit

/-- Are two choices equal? -/
def chB (t d t' d' : Int) : Bool := t == t' && d == d'
theorem run_neq_ch (t d t' d' : Int) (W : World) : (binOp .neq 36 (.agg #[.int .i64 t, .int .i64 d]) (.agg #[.int .i64 t', .int .i64 d'])).run Tryd.prog W = .ok (.bool (!chB t d t' d')) W := by
  rw [run_neq_struct]
  unfold chB
  by_cases h : t = t'
  · by_cases g : d = d' <;> simp [go_sem, h, g]
  · simp [go_sem, h]
theorem run_eql_ch (t d t' d' : Int) (W : World) : (binOp .eql 36 (.agg #[.int .i64 t, .int .i64 d]) (.agg #[.int .i64 t', .int .i64 d'])).run Tryd.prog W = .ok (.bool (chB t d t' d')) W := by
  rw [run_eql_struct]
  unfold chB
  by_cases h : t = t'
  · by_cases g : d = d' <;> simp [go_sem, h, g]
  · simp [go_sem, h]
theorem chB_eq (x y : Ch) : chB x.1 x.2 y.1 y.2 = decide (x = y) := by
  obtain ⟨a, b⟩ := x; obtain ⟨c, d⟩ := y
  unfold chB
  by_cases h : a = c <;> by_cases g : b = d <;> simp [h, g]

section
attribute [local go_sem ↓] run_neq_ch
set_option maxHeartbeats 800000 in
theorem same_any (A B : Option Addr) (c d : Nat) (l m : List Ch) (w : World) (h : Chs w w.heap.size A l) (g : Chs w w.heap.size B m) (hm : l.length ≤ maxLen) (gm : m.length ≤ maxLen) :
    Calls Tryd.prog 13 #[.slice A l.length c, .slice B m.length d] w (Ret (.bool (decide (l = m))) w) := by
  unfold maxLen at hm gm
  by_cases hlen : l.length = m.length
  · have hlen' := Lib.hid hlen
    rw [← hlen]
    clear hlen
    go_enter Tryd.func13, Tryd.ntmps13
    go_wp2
    go_loopw [5] (fun i wr => ∃ k : Nat, i = .int .i64 k ∧ k ≤ l.length ∧ l.take k = m.take k ∧ Below w.heap.size w wr) (fun i _ => l.length - (intOf i).toNat)
    case atStart => exact ⟨0, rfl, by omega, rfl, Below.refl _ _⟩
    case round =>
      obtain ⟨k, rfl, hk, heq, hb⟩ := hrel
      have heq' := Lib.hid heq
      clear heq
      by_cases hlt : k < l.length
      · obtain ⟨b, off, rfl, had, h1, h2⟩ := (h.below hb).at_ hlt
        obtain ⟨b', off', rfl, had', g1, g2⟩ := (g.below hb).at_ (k := k) (by rw [← hlen'.out]; exact hlt)
        have hi1 : (0 : Int) ≤ (k : Int) := by omega
        have hi2 : (k : Int) < (l.length : Int) := by omega
        have hst := Lib.hid (take_eq_step heq'.out hlt (by rw [← hlen'.out]; exact hlt))
        have hbe := Lib.hid (chB_eq l[k] (m[k]'(by rw [← hlen'.out]; exact hlt)))
        go_wp2
        go_quiet (fail)
        go_wp2
        · have hv : (!chB l[k].1 l[k].2 (m[k]'(by rw [← hlen'.out]; exact hlt)).1 (m[k]'(by rw [← hlen'.out]; exact hlt)).2) = true := by assumption
          rw [hbe.out] at hv
          go_ret
          refine ⟨retb ?_, hb.trans (below_drewN (Below.refl _ _) _)⟩
          symm
          rw [decide_eq_false_iff_not]
          exact hst.out.2 (by simpa using hv)
        · have hv : (!chB l[k].1 l[k].2 (m[k]'(by rw [← hlen'.out]; exact hlt)).1 (m[k]'(by rw [← hlen'.out]; exact hlt)).2) = false := by assumption
          rw [hbe.out] at hv
          exact ⟨⟨k + 1, by go_num, by omega, hst.out.1 (by simpa using hv), hb.trans (below_drewN (Below.refl _ _) _)⟩, by simp [intOf]; omega⟩
      · go_wp2
        go_ret
        refine ⟨retb ?_, hb⟩
        have := heq'.out
        rw [List.take_of_length_le (by omega), List.take_of_length_le (by rw [← hlen'.out]; omega)] at this
        simp [this]
  · go_enter Tryd.func13, Tryd.ntmps13
    go_wp2
    go_ret
    refine ⟨retb ?_, Below.refl _ _⟩
    symm
    rw [decide_eq_false_iff_not]
    rintro rfl
    exact hlen rfl
end

theorem sw_step (l : List Ch) {k : Nat} (hlt : k < l.length) (hk0 : 0 < k) : sw l (k + 1) = sw l k + if l[k].1 ≠ (l[k - 1]'(by omega)).1 then 1 else 0 := by
  rw [sw]
  simp only [List.getD_eq_getElem?_getD, List.getElem?_eq_getElem hlt, List.getElem?_eq_getElem (show k - 1 < l.length by omega), Option.getD_some]
  simp [hk0]
theorem sw_yes (l : List Ch) {k : Nat} (hlt : k < l.length) (hk0 : 0 < k) (h : (l[k].1 != (l[k - 1]'(by omega)).1) = true) : sw l (k + 1) = sw l k + 1 := by
  rw [sw_step l hlt hk0, if_pos (by simpa using h)]
theorem sw_no (l : List Ch) {k : Nat} (hlt : k < l.length) (hk0 : 0 < k) (h : (l[k].1 != (l[k - 1]'(by omega)).1) = false) : sw l (k + 1) = sw l k := by
  rw [sw_step l hlt hk0, if_neg (by simpa using h)]; rfl

set_option maxHeartbeats 800000 in
theorem switches_any (A : Option Addr) (c : Nat) (l : List Ch) (w : World) (h : Chs w w.heap.size A l) (hm : l.length ≤ maxLen) :
    Calls Tryd.prog 14 #[.slice A l.length c] w (Ret (.int .i64 (sw l l.length)) w) := by
  unfold maxLen at hm
  go_enter Tryd.func14, Tryd.ntmps14
  go_wp2
  go_loopw [3, 4, 7] (fun n _ i wr => ∃ k : Nat, i = .int .i64 k ∧ k ≤ l.length ∧ n = .int .i64 (sw l k) ∧ Below w.heap.size w wr) (fun _ _ i _ => l.length - (intOf i).toNat)
  case atStart => exact ⟨0, rfl, by omega, rfl, Below.refl _ _⟩
  case round =>
    obtain ⟨k, rfl, hk, rfl, hb⟩ := hrel
    have hsk := sw_le l k
    by_cases hlt : k < l.length
    · obtain ⟨b, off, e, had, h1, h2⟩ := (h.below hb).at_ hlt
      by_cases hk0 : 0 < k
      · obtain ⟨b', off', e', had', g1, g2⟩ := (h.below hb).at_ (k := k - 1) (by omega)
        rw [e] at e'
        cases e'
        subst e
        have hi1 : (0 : Int) ≤ (k : Int) := by omega
        have hi2 : (k : Int) < (l.length : Int) := by omega
        have hi3 : (0 : Int) < (k : Int) := by omega
        have hi4 : (0 : Int) ≤ (k : Int) - 1 := by omega
        have hi5 : (k : Int) - 1 < (l.length : Int) := by omega
        have hi6 : ((k : Int) - 1).toNat = k - 1 := by omega
        go_wp2
        go_quiet (fail)
        go_wp2
        · have hv : (l[k].1 != (l[k - 1]'(by omega)).1) = true := by assumption
          exact ⟨⟨k + 1, by go_num, by omega, by rw [sw_yes l hlt hk0 hv]; go_num, hb.trans (below_drewN (Below.refl _ _) _)⟩, by simp [intOf]; omega⟩
        · have hv : (l[k].1 != (l[k - 1]'(by omega)).1) = false := by assumption
          exact ⟨⟨k + 1, by go_num, by omega, by rw [sw_no l hlt hk0 hv], hb.trans (below_drewN (Below.refl _ _) _)⟩, by simp [intOf]; omega⟩
      · obtain rfl : k = 0 := by omega
        clear e
        have hd : decide ((0 : Int) < 0) = false := by decide
        go_wp2
        go_quiet (fail)
        go_wp2
        exact ⟨⟨1, by go_num, by omega, rfl, hb.trans (below_drewN (Below.refl _ _) _)⟩, by simp [intOf]; omega⟩
    · go_wp2
      go_ret
      obtain rfl : k = l.length := by omega
      exact ⟨rfl, hb⟩

set_option maxHeartbeats 800000 in
theorem refSwitches_any (A : Option Addr) (c : Nat) (l : List Ch) (w : World) (h : Chs w w.heap.size A l) (hm : l.length ≤ maxLen) :
    Calls Tryd.prog 15 #[.slice A l.length c] w (Ret (.int .i64 (sw l l.length)) w) := by
  unfold maxLen at hm
  go_enter Tryd.func15, Tryd.ntmps15
  go_wp2
  go_loopw [3, 4] (fun n i wr => ∃ k : Nat, i = .int .i64 k ∧ 1 ≤ k ∧ k ≤ l.length + 1 ∧ (k ≤ l.length ∨ k = 1) ∧ n = .int .i64 (sw l k) ∧ Below w.heap.size w wr) (fun _ i _ => l.length - (intOf i).toNat)
  case atStart => exact ⟨1, rfl, by omega, by omega, .inr rfl, rfl, Below.refl _ _⟩
  case round =>
    obtain ⟨k, rfl, hk0, hk, hk1, rfl, hb⟩ := hrel
    have hsk := sw_le l k
    have hk1' := Lib.hid hk1
    clear hk1
    by_cases hlt : k < l.length
    · obtain ⟨b, off, e, had, h1, h2⟩ := (h.below hb).at_ hlt
      obtain ⟨b', off', e', had', g1, g2⟩ := (h.below hb).at_ (k := k - 1) (by omega)
      rw [e] at e'
      cases e'
      subst e
      have hi1 : (0 : Int) ≤ (k : Int) := by omega
      have hi2 : (k : Int) < (l.length : Int) := by omega
      have hi4 : (0 : Int) ≤ (k : Int) - 1 := by omega
      have hi5 : (k : Int) - 1 < (l.length : Int) := by omega
      have hi6 : ((k : Int) - 1).toNat = k - 1 := by omega
      go_wp2
      go_quiet (fail)
      go_wp2
      · have hv : (l[k].1 != (l[k - 1]'(by omega)).1) = true := by assumption
        exact ⟨⟨k + 1, by go_num, by omega, by omega, .inl (by omega), by rw [sw_yes l hlt hk0 hv]; go_num, hb.trans (below_drewN (Below.refl _ _) _)⟩, by simp [intOf]; omega⟩
      · have hv : (l[k].1 != (l[k - 1]'(by omega)).1) = false := by assumption
        exact ⟨⟨k + 1, by go_num, by omega, by omega, .inl (by omega), by rw [sw_no l hlt hk0 hv], hb.trans (below_drewN (Below.refl _ _) _)⟩, by simp [intOf]; omega⟩
    · go_wp2
      go_ret
      refine ⟨reti ?_, hb⟩
      rcases hk1'.out with hk1 | hk1
      · obtain rfl : k = l.length := by omega
        rfl
      · subst hk1
        by_cases h0 : l.length = 0
        · rw [h0]; rfl
        · rw [show l.length = 1 from by omega]

end Go.Proofs.YtaficbkaofhjeaaDoor
