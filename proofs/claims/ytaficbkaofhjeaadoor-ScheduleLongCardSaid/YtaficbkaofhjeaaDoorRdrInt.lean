/- codec.reader.integer, walked. Conditions: the string is shorter than 2^61. -/
import Derived.Test.YtaficbkaofhjeaaDoorRdr
import Derived.Deep.RegionHeld3
namespace Go.Proofs.YtaficbkaofhjeaaDoor
open Go.RowKit

/-- What reading an integer at place a leaves. -/
def RetI (r : Int × Nat × Int) (b : Nat) (s : ByteArray) (a : Nat) (w : World) : Ending → World → Prop := fun e w' =>
  e = .returned (.int .i64 r.1) ∧ (r.2.2 = 0 → Rdr w' b s (a + r.2.1) 0) ∧ (r.2.2 ≠ 0 → ∃ a', Rdr w' b s a' r.2.2) ∧ w.grownBy w' (some b)
theorem retI_no {b : Nat} {s : ByteArray} {a a' : Nat} {w w' : World} {r : Int × Nat × Int} {k : Int} (hr : r = (0, 0, k)) (hk : k ≠ 0) (h : Rdr w' b s a' k) (hg : w.grownBy w' (some b)) : RetI r b s a w (.returned (.int .i64 0)) w' := by
  subst hr
  exact ⟨rfl, fun e => absurd e hk, fun _ => ⟨a', h⟩, hg⟩
theorem retI_yes {b : Nat} {s : ByteArray} {a n : Nat} {w w' : World} {r : Int × Nat × Int} {v : Int} (hr : r = (v, n, 0)) (h : Rdr w' b s (a + n) 0) (hg : w.grownBy w' (some b)) : RetI r b s a w (.returned (.int .i64 v)) w' := by
  subst hr
  exact ⟨rfl, fun _ => h, fun e => absurd rfl e, hg⟩

set_option maxRecDepth 100000 in
set_option maxHeartbeats 1600000 in
theorem rdrInt_end (b : Nat) (s : ByteArray) (a : Nat) (hs : s.size < 2305843009213693952) (ha : a = s.size) (w : World) (hrd : Rdr w b s a 0) :
    Calls Tryd.prog 40 #[.pointer (some ⟨b, 0, none⟩)] w (RetI (rdInt []) b s a w) := by
  have h1 := hrd.cell 1
  simp at h1
  have HA := Lib.hid ha
  clear ha
  go_enter Tryd.func40, Tryd.ntmps40
  go_wp2_with fail
  refine (next_no b s a (by omega) HA.out _ hrd).mono ?_
  rintro e w1 ⟨rfl, hr1, hg1⟩
  have h2 := hr1.cell 2
  go_wp2
  go_ret
  exact retI_no rfl (by decide) hr1 hg1

/-- Reading an integer though there is an error already. -/
theorem rdrInt_err (b : Nat) (s : ByteArray) (a : Nat) (e0 : Int) (he : e0 ≠ 0) (hs : s.size < 2305843009213693952) (ha : a < s.size) (w : World) (hrd : Rdr w b s a e0) :
    Calls Tryd.prog 40 #[.pointer (some ⟨b, 0, none⟩)] w fun e w' => e = .returned (.int .i64 0) ∧ Rdr w' b s (a + 1) e0 ∧ w.grownBy w' (some b) := by
  have h1 := hrd.cell 1
  simp at h1
  have he' : (e0 != 0) = true := by simpa using he
  clear he
  go_enter Tryd.func40, Tryd.ntmps40
  go_wp2_with fail
  refine (next_yes b s a e0 (by omega) ha _ hrd).mono ?_
  rintro e w1 ⟨rfl, hr1, hg1⟩
  have h2 := hr1.cell 2
  simp at h2
  go_wp2
  go_ret
  exact ⟨rfl, hr1, hg1⟩

set_option maxRecDepth 100000 in
set_option maxHeartbeats 1600000 in
theorem rdrInt_far (b : Nat) (s : ByteArray) (a : Nat) (h : UInt8) (t : List UInt8) (h8 : 8 < more h) (hs : s.size < 2305843009213693952) (ha : a < s.size) (hh : s[a] = h) (w : World) (hrd : Rdr w b s a 0) :
    Calls Tryd.prog 40 #[.pointer (some ⟨b, 0, none⟩)] w (RetI (rdInt (h :: t)) b s a w) := by
  have h1 := hrd.cell 1
  simp at h1
  have HR := Lib.hid (rdInt_far (t := t) h8)
  have h8' := (far_iff h).1 h8
  have hlt := h.toNat_lt
  clear h8
  rcases h8' with h8' | h8'
  · go_enter Tryd.func40, Tryd.ntmps40
    go_wp2_with fail
    refine (next_yes b s a 0 (by omega) ha _ hrd).mono ?_
    rintro e w1 ⟨rfl, hr1, hg1⟩
    have h2 := hr1.cell 2
    simp at h2
    go_wp2_with fail
    refine (fail_first b s (a + 1) 12 _ hr1).mono ?_
    rintro e w2 ⟨rfl, hr2, hg2⟩
    go_wp2
    go_ret
    exact retI_no HR.out (by decide) hr2 (World.grownBy.trans hg1 hg2)
  · go_enter Tryd.func40, Tryd.ntmps40
    go_wp2_with fail
    refine (next_yes b s a 0 (by omega) ha _ hrd).mono ?_
    rintro e w1 ⟨rfl, hr1, hg1⟩
    have h2 := hr1.cell 2
    simp at h2
    go_wp2_with fail
    refine (fail_first b s (a + 1) 12 _ hr1).mono ?_
    rintro e w2 ⟨rfl, hr2, hg2⟩
    go_wp2
    go_ret
    exact retI_no HR.out (by decide) hr2 (World.grownBy.trans hg1 hg2)
end Go.Proofs.YtaficbkaofhjeaaDoor
