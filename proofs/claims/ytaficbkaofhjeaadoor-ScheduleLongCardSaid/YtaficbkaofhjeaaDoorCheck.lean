/- schedule.valid and schedule.Check, walked. Conditions: the slice reads as a list. -/
import Derived.Test.YtaficbkaofhjeaaDoorProg
import Derived.Test.YtaficbkaofhjeaaDoorChs
import Derived.Deep.Light
namespace Go.Proofs.YtaficbkaofhjeaaDoor
open Go.RowKit

theorem retb {b c : Bool} (h : b = c) : Ending.returned (.bool b) = .returned (.bool c) := by rw [h]
theorem reti {k : IntKind} {a b : Int} (h : a = b) : Ending.returned (.int k a) = .returned (.int k b) := by rw [h]

set_option maxHeartbeats 400000 in
theorem valid_any (c : Ch) (w : World) : Calls Tryd.prog 24 #[.agg #[.int .i64 c.1, .int .i64 c.2]] w (Ret (.bool (validB c)) w) := by
  obtain ⟨t, k⟩ := c
  go_enter Tryd.func24, Tryd.ntmps24
  go_wp2
  all_goals go_ret
  all_goals refine ⟨retb ?_, below_alloc _ _⟩
  all_goals simp_all [validB]
  all_goals omega

set_option maxHeartbeats 400000 in
theorem notValid_any (c : Ch) (w : World) : Calls Tryd.prog 27 #[.agg #[.int .i64 c.1, .int .i64 c.2]] w (Ret (.bool (!validB c)) w) := by
  go_enter Tryd.func27, Tryd.ntmps27
  go_wp2_with (go_at_call 24; refine (valid_any _ _).mono ?_; rintro e w1 ⟨rfl, hb⟩)
  go_ret
  exact ⟨rfl, (below_alloc _ _).trans (hb.mono (by simp))⟩

/-- An index is returned that is not negative exactly if p; nothing that lay in memory has changed. -/
def RetIdx (p : Bool) (w : World) : Ending → World → Prop := fun e w' => ∃ i : Int, e = .returned (.int .i64 i) ∧ decide (0 ≤ i) = p ∧ Below w.heap.size w w'

set_option maxHeartbeats 400000 in
theorem index_any (A : Option Addr) (c : Nat) (l : List Ch) (w : World) (h : Chs w w.heap.size A l) (hm : l.length ≤ maxLen) :
    Calls Tryd.prog 43 #[.slice A l.length c, .func (.func 27) #[] #[]] w (RetIdx (l.any fun c => !validB c) w) := by
  unfold maxLen at hm
  go_enter Tryd.func43, Tryd.ntmps43
  go_wp2
  go_loopw [5, 8] (fun _ i wr => ∃ k : Nat, i = .int .i64 k ∧ k ≤ l.length ∧ (l.take k).any (fun c => !validB c) = false ∧ Below w.heap.size w wr) (fun _ i _ => l.length - (intOf i).toNat)
  case atStart => exact ⟨0, rfl, by omega, rfl, Below.refl _ _⟩
  case round =>
    obtain ⟨k, rfl, hk, hany, hb⟩ := hrel
    have hany' := Lib.hid hany
    clear hany
    by_cases hlt : k < l.length
    · obtain ⟨b, off, rfl, had, h1, h2⟩ := (h.below hb).at_ hlt
      have hs := Lib.hid (checkE_take hlt hany'.out)
      go_wp2_with (go_at_call 27; refine (notValid_any l[k] _).mono ?_; rintro e w1 ⟨rfl, hb1⟩)
      · have hv : (!validB l[k]) = true := by assumption
        go_ret
        refine ⟨_, rfl, ?_, hb.trans (hb1.mono hb.size)⟩
        rw [any_of_take (hs.out.trans hv)]
        simp
      · have hv : (!validB l[k]) = false := by assumption
        exact ⟨⟨k + 1, by go_num, by omega, hs.out.trans hv, hb.trans (hb1.mono hb.size)⟩, by simp [intOf]; omega⟩
    · go_wp2
      go_ret
      refine ⟨_, rfl, ?_, hb⟩
      have := hany'.out
      rw [List.take_of_length_le (by omega)] at this
      rw [this]; rfl

set_option maxHeartbeats 400000 in
theorem contains_any (A : Option Addr) (c : Nat) (l : List Ch) (w : World) (h : Chs w w.heap.size A l) (hm : l.length ≤ maxLen) :
    Calls Tryd.prog 26 #[.slice A l.length c, .func (.func 27) #[] #[]] w (Ret (.bool (l.any fun c => !validB c)) w) := by
  go_enter Tryd.func26, Tryd.ntmps26
  go_wp2_with (go_at_call 43; refine (index_any _ _ _ _ h hm).mono ?_; rintro e w1 ⟨i, rfl, hi, hb⟩; have hi' := Lib.hid hi; clear hi)
  go_ret
  exact ⟨retb hi'.out, hb⟩

set_option maxHeartbeats 400000 in
theorem check_any (A : Option Addr) (c : Nat) (l : List Ch) (w : World) (h : Chs w w.heap.size A l) (hm : l.length ≤ maxLen) :
    Calls Tryd.prog 11 #[.slice A l.length c] w (Ret (.int .i64 (checkE l)) w) := by
  have hm' := hm
  unfold maxLen at hm'
  by_cases hlen : 2000 < l.length
  · go_enter Tryd.func11, Tryd.ntmps11
    go_wp2
    go_ret
    exact ⟨reti (by rw [checkE, if_pos hlen]), Below.refl _ _⟩
  · go_enter Tryd.func11, Tryd.ntmps11
    go_wp2_with (go_at_call 26; refine (contains_any _ _ _ _ h hm).mono ?_; rintro e w1 ⟨rfl, hb⟩)
    · have hv : (l.any fun c => !validB c) = true := by assumption
      go_ret
      exact ⟨reti (by rw [checkE, if_neg hlen, if_pos hv]), hb⟩
    · have hv : (l.any fun c => !validB c) = false := by assumption
      go_ret
      exact ⟨reti (by rw [checkE, if_neg hlen, hv]; rfl), hb⟩

set_option maxHeartbeats 800000 in
theorem refCheck_any (A : Option Addr) (c : Nat) (l : List Ch) (w : World) (h : Chs w w.heap.size A l) (hm : l.length ≤ maxLen) :
    Calls Tryd.prog 12 #[.slice A l.length c] w (Ret (.int .i64 (checkE l)) w) := by
  have hm' := hm
  unfold maxLen at hm'
  by_cases hlen : 2000 < l.length
  · go_enter Tryd.func12, Tryd.ntmps12
    go_wp2
    go_ret
    exact ⟨reti (by rw [checkE, if_pos hlen]), Below.refl _ _⟩
  · go_enter Tryd.func12, Tryd.ntmps12
    go_wp2
    go_loopw [3] (fun i wr => ∃ k : Nat, i = .int .i64 k ∧ k ≤ l.length ∧ (l.take k).any (fun c => !validB c) = false ∧ Below w.heap.size w wr) (fun i _ => l.length - (intOf i).toNat)
    case atStart => exact ⟨0, rfl, by omega, rfl, Below.refl _ _⟩
    case round =>
      obtain ⟨k, rfl, hk, hany, hb⟩ := hrel
      have hany' := Lib.hid hany
      clear hany
      by_cases hlt : k < l.length
      · obtain ⟨b, off, rfl, had, h1, h2⟩ := (h.below hb).at_ hlt
        have hs := Lib.hid (checkE_take hlt hany'.out)
        obtain ⟨⟨t, d⟩, hlk⟩ : ∃ x : Ch, l[k] = x := ⟨_, rfl⟩
        rw [hlk] at h1 h2 hs
        clear hlk
        dsimp only at h1 h2
        have hsz := hb.size
        go_wp2
        all_goals first
          | (go_ret
             have hv : validB (t, d) = false := by
               go_light
               rw [Bool.eq_false_iff, Ne, validB_iff]
               simp at *
               omega
             refine ⟨reti ?_, hb.trans (below_alloc2 hsz _)⟩
             have hw := hs.out
             rw [hv] at hw
             rw [checkE, if_neg hlen, any_of_take hw]; rfl)
          | (have hv : validB (t, d) = true := by
               go_light
               rw [validB_iff]
               simp at *
               omega
             have hw := hs.out
             rw [hv] at hw
             exact ⟨⟨k + 1, by go_num, by omega, hw, hb.trans (below_alloc2 hsz _)⟩, by simp [intOf]; omega⟩)
      · go_wp2
        go_ret
        refine ⟨reti ?_, hb⟩
        have := hany'.out
        rw [List.take_of_length_le (by omega)] at this
        rw [checkE, if_neg hlen, this]; rfl
end Go.Proofs.YtaficbkaofhjeaaDoor
