/- codec.ReadList, walked. Conditions: the string is shorter than 2^61. -/
import Derived.Test.YtaficbkaofhjeaaDoorRdrList
namespace Go.Proofs.YtaficbkaofhjeaaDoor
open Go.RowKit

/-- A list, its size and an error are returned; behind an error the list is nil or empty. -/
theorem rdList_err0 {L : List UInt8} (h : (rdList L).2.2 ≠ 0) : (rdList L).1 = [] ∧ (rdList L).2.1 = 0 := rdL_bad _ _ h

set_option maxRecDepth 100000 in
set_option maxHeartbeats 1600000 in
theorem readList_any (L : List UInt8) (hs : L.length < 2305843009213693952) (w : World) : Calls Tryd.prog 22 #[.string ⟨L.toArray⟩] w (RetL (rdList L) w) := by
  obtain ⟨s, hsL⟩ : ∃ s : ByteArray, s = ⟨L.toArray⟩ := ⟨_, rfl⟩
  rw [← hsL]
  have HSL := Lib.hid hsL
  clear hsL
  have hmf : ∀ (fn : Fn) (first cap : Array Value) (w : World), (Instr.makeFunc fn first cap).run Tryd.prog w = .ok (.func fn first cap) w := fun _ _ _ _ => rfl
  go_enter Tryd.func22, Tryd.ntmps22
  go_wp2_with fail
  have hrd : Rdr (w.alloc (.cells #[.string s, .int .i64 0, .int .i64 0] 72)) w.heap.size s 0 0 := World.alloc_heap_new w _
  have hc := rdrList_any L w.heap.size hs _ (by rw [← HSL.out]; exact hrd)
  rw [← HSL.out] at hc
  refine hc.mono ?_
  clear hc
  rintro e w1 ⟨v, rfl, hv, hg⟩
  have hb1 : Below w.heap.size w w1 := by
    refine ⟨hg.os, hg.tape, hg.output, by have := hg.size; simp at this; omega, fun i hi => ?_⟩
    rw [hg.block i (by simp; omega) (by simp; omega)]
    exact Below.heap_alloc _ _ i hi
  rcases hv with ⟨h0, hown, hr⟩ | ⟨hne, a', hr⟩
  · have h2 := hr.cell 2
    have h1 := hr.cell 1
    simp at h1 h2
    have hown' : OwnI w1 w.heap.size v (rdList L).1 := own_base hown (by simp)
    obtain ⟨⟨l, n, e0⟩, hl⟩ : ∃ r, rdList L = r := ⟨_, rfl⟩
    rw [hl] at h0 hown' h1
    dsimp only at h0 hown' h1
    subst h0
    have HL := Lib.hid hl
    obtain ⟨A, cp, rfl⟩ := own_form hown'
    clear hl
    go_wp2
    go_quiet (fail)
    go_wp2
    go_ret3
    exact retL_of HL.out hown' (below_drewN hb1 _)
  · have h2 := hr.cell 2
    simp at h2
    obtain ⟨hl1, hl2⟩ := rdList_err0 hne
    obtain ⟨⟨l, n, e0⟩, hl⟩ : ∃ r, rdList L = r := ⟨_, rfl⟩
    rw [hl] at hl1 hl2 h2 hne
    dsimp only at hl1 hl2 h2 hne
    subst hl1 hl2
    have HL := Lib.hid hl
    have hne2 : (e0 != 0) = true := by simpa using hne
    clear hl hne
    go_wp2
    go_quiet (fail)
    go_wp2
    go_ret3
    exact retL_of HL.out (World.ownsRow_nil _ _ _ _) (below_drewN hb1 _)
end Go.Proofs.YtaficbkaofhjeaaDoor
