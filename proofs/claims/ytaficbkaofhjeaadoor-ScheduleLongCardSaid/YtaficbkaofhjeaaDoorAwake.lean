/- nurserylaw32.awake, walked. Conditions: the table of powers of ten lies where it was laid. -/
import Derived.Test.YtaficbkaofhjeaaDoorText
import Derived.Test.YtaficbkaofhjeaaDoorSchEnc
import Derived.Test.YtaficbkaofhjeaaDoorDec
import Derived.Test.YtaficbkaofhjeaaDoorSame
import Derived.Test.YtaficbkaofhjeaaDoorTrip3M
namespace Go.Proofs.YtaficbkaofhjeaaDoor
open Go.RowKit Go.Joins
/-- The example's choices, their encoding, their text. -/
def awL : List Ch := [(0, 0), (0, 0), (1, 0), (-1, 0), (1, 2)]
def awS : List UInt8 := [129, 2, 128, 128, 129, 1, 129, 1, 128, 129, 1, 127, 128, 129, 1, 129, 1, 129, 2, 1]
def awT : List UInt8 := [48, 32, 48, 32, 49, 32, 99, 108, 111, 99, 107, 32, 49, 46, 50]
theorem aw_check : checkE awL = 0 := by decide +kernel
theorem aw_txt : listTxt (nums (rle awL)) = awS := by decide +kernel
theorem aw_enc : encSRes awL = .tuple #[.string ⟨awS.toArray⟩, .int .i64 0] := by
  rw [encSRes, if_pos aw_check, listRes, listErr_rle aw_check, aw_txt]
theorem aw_dec : decS awS = (awL, 0) := by rw [← aw_txt]; exact trip1 aw_check
theorem aw_sw : sw awL awL.length = 3 := by decide +kernel
theorem aw_text : textB awL = awT := by
  simp [textB, awL, wordB, whoB, caseB, Lib.itoa, Lib.decDigits_one, Lib.join, List.intercalate, awT]
theorem aw_in : ∀ x ∈ awL, in64 x.1 ∧ in64 x.2 := by
  intro x hx
  simp [awL] at hx
  rcases hx with rfl | rfl | rfl | rfl <;> simp [in64]

set_option maxRecDepth 100000 in
set_option maxHeartbeats 3200000 in
theorem awake_any (w : World) (ht : PowTab w) : Calls Tryd.prog 6 #[] w (Ret (.bool true) w) := by
  have hown := World.ownsRow_lit (base := w.heap.size) (e := 36) (size := 2) w #[.int .i64 0, .int .i64 0, .int .i64 0, .int .i64 0, .int .i64 1, .int .i64 0, .int .i64 (-1), .int .i64 0, .int .i64 1, .int .i64 2] 5 (Nat.le_refl _) (by unfold maxLen; omega) rfl
  have hb0 := below_alloc w (.cells #[.int .i64 0, .int .i64 0, .int .i64 0, .int .i64 0, .int .i64 1, .int .i64 0, .int .i64 (-1), .int .i64 0, .int .i64 1, .int .i64 2] 36)
  have hc0 : Chs _ _ _ awL := Rd.of_own hown
  have hlen : awL.length = 5 := rfl
  have hmax : awL.length ≤ maxLen := by unfold maxLen; rw [hlen]; omega
  clear hown
  go_enter Tryd.func6, Tryd.ntmps6
  go_wp2_with fail
  generalize w.alloc _ = w0 at hb0 hc0 ⊢
  refine (schEncode_any _ 5 awL (Nat.le_refl _) _ hc0 hmax).mono ?_
  rw [aw_enc]
  rintro e w1 ⟨rfl, hb1⟩
  have hc1 := Rd.below hc0 hb1
  have hB1 : Below w.heap.size w w1 := hb0.trans (hb1.mono hb0.size)
  go_wp2_with fail
  refine (dec_any awS (by decide) _).mono ?_
  rw [aw_dec]
  rintro e w2 ⟨B, d, rfl, hd2, hdc, hb2⟩
  have hc2 := Rd.below (Rd.more hc1 hb1.size) hb2
  have hB2 : Below w.heap.size w w2 := hB1.trans (hb2.mono hB1.size)
  go_wp2_with fail
  refine (same_any _ B 5 d awL awL _ (Rd.more hc2 hb2.size) hd2 hmax hmax).mono ?_
  rw [show decide (awL = awL) = true from by decide]
  rintro e w3 ⟨rfl, hb3⟩
  have hc3 := Rd.below (Rd.more hc2 hb2.size) hb3
  have hB3 : Below w.heap.size w w3 := hB2.trans (hb3.mono hB2.size)
  go_wp2_with fail
  refine (text_any _ 5 awL _ (Rd.more hc3 hb3.size) (by rw [hlen]; omega) aw_in (ht.below hB3)).mono ?_
  rw [aw_text]
  rintro e w4 ⟨rfl, hb4⟩
  have hc4 := Rd.below (Rd.more hc3 hb3.size) hb4
  have hB4 : Below w.heap.size w w4 := hB3.trans (hb4.mono hB3.size)
  go_wp2_with fail
  refine (switches_any _ 5 awL _ (Rd.more hc4 hb4.size) hmax).mono ?_
  rw [aw_sw]
  rintro e w5 ⟨rfl, hb5⟩
  have hB5 : Below w.heap.size w w5 := hB4.trans (hb5.mono hB4.size)
  go_wp2_with fail
  go_ret
  exact ⟨rfl, hB5⟩
end Go.Proofs.YtaficbkaofhjeaaDoor
