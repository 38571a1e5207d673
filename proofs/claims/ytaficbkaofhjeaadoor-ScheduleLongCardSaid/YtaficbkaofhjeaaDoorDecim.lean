/- The decimal numerals of the reference, walked. Conditions: the number lies within int64. -/
import Derived.Test.YtaficbkaofhjeaaDoorEncList
import Derived.Test.YtaficbkaofhjeaaDoorTextM
import Derived.Test.YtaficbkaofhjeaaDoorText
namespace Go.Proofs.YtaficbkaofhjeaaDoor
open Go.RowKit
theorem digits_len {n : Nat} (h : n ≤ 9223372036854775807) : (Lib.decDigits n).length ≤ 20 := by
  rw [Lib.decDigits_length]; exact Lib.nDigits_le20 n (by omega)
/-- The string of one byte that has just been made. -/
theorem conv_one (w : World) (x : Int) (d : Nat) (b : UInt8) (hbd : b = UInt8.ofNat (48 + d)) (hx : x = 48 + (d : Int)) (hd : d ≤ 9) :
    (convert 59 9 (.slice (some ⟨w.heap.size, 0, none⟩) 1 1)).run Tryd.prog (w.alloc (.cells #[.int .u8 x] 5)) = .ok (.string ⟨#[b]⟩) (w.alloc (.cells #[.int .u8 x] 5)) := by
  subst hbd
  have hlit := World.ownsRow_lit (base := w.heap.size) (e := 5) (size := 1) w #[.int .u8 x] 1 (Nat.le_refl _) (by unfold maxLen; omega) rfl
  have e : [Value.int .u8 x] = u8s [UInt8.ofNat (48 + d)] := by
    subst hx
    simp [u8s]
    omega
  have hb : OwnB (w.alloc (.cells #[.int .u8 x] 5)) w.heap.size 5 (.slice (some ⟨w.heap.size, 0, none⟩) 1 1) [UInt8.ofNat (48 + d)] := by
    show World.ownsRow _ _ _ _ _ _ _
    rw [← e]
    exact hlit
  exact run_convert_own Tryd.underlying59 Tryd.underlying5 Tryd.underlying9 hb
theorem cat_bytes (a b : List UInt8) : (⟨a.toArray⟩ ++ ⟨b.toArray⟩ : ByteArray) = ⟨(a ++ b).toArray⟩ := by
  apply ByteArray.ext
  rw [ByteArray.data_append]
  simp
theorem run_cat (a b : List UInt8) (h : a.length + b.length ≤ 9223372036854775807) (w : World) : (Op.stringOp .add ⟨a.toArray⟩ ⟨b.toArray⟩).run Tryd.prog w = .ok (.string ⟨(a ++ b).toArray⟩) w := by
  rw [run_string_add_sum w _ _ (by rw [str_size, str_size]; exact h), cat_bytes]
theorem run_cat' (a : Array UInt8) (b : List UInt8) (h : a.size + b.length ≤ 9223372036854775807) (w : World) : (Op.stringOp .add ⟨a⟩ ⟨b.toArray⟩).run Tryd.prog w = .ok (.string ⟨(a.toList ++ b).toArray⟩) w := run_cat a.toList b (by simpa using h) w

set_option maxRecDepth 100000 in
set_option maxHeartbeats 800000 in
theorem dec09_any (n : Nat) (hn : n ≤ 9223372036854775807) (w : World) : Calls Tryd.prog 46 #[.int .i64 n] w (Ret (.string ⟨(Lib.decDigits n).toArray⟩) w) := by
  go_enter Tryd.func46, Tryd.ntmps46
  go_wp2
  go_loopw [0, 3] (fun i v wr => ∃ (q : Nat) (suf : List UInt8), i = .int .i64 q ∧ q ≤ n ∧ v = .string ⟨suf.toArray⟩ ∧ Hid (Lib.decDigits n = Lib.decDigits q ++ suf) ∧ Below w.heap.size w wr) (fun i _ _ => (intOf i).toNat)
  case atStart => exact ⟨n, [], rfl, by omega, rfl, Lib.hid (by simp), Below.refl _ _⟩
  case round =>
    obtain ⟨q, suf, rfl, hq, rfl, hd, hb⟩ := hrel
    have hq1 : (0 : Int) ≤ (q : Int) := by omega
    have hL : suf.length ≤ 20 := by
      have h1 := congrArg List.length hd.out
      have h2 := digits_len hn
      rw [List.length_append] at h1
      omega
    by_cases hq0 : 9 < q
    · have d1 : decide ((9 : Int) < (q : Int)) = true := decide_eq_true (by omega)
      have d2 : decide (9 < q) = true := decide_eq_true hq0
      obtain ⟨b, hbd⟩ : ∃ b : UInt8, b = UInt8.ofNat (48 + q % 10) := ⟨_, rfl⟩
      have hcv := conv_one wr (48 + (q : Int) % 10) (q % 10) b hbd (by omega) (by omega)
      have hst := Lib.hid (show Lib.decDigits n = Lib.decDigits (q / 10) ++ (b :: suf) from by rw [hd.out, hbd, Lib.decDigits, dif_neg (by omega)]; simp)
      have hsz : (⟨suf.toArray⟩ : ByteArray).size = suf.length := str_size suf
      have hsb : (⟨#[b]⟩ : ByteArray).size = 1 := rfl
      clear hbd
      go_wp2_with fail
      refine ⟨⟨q / 10, b :: suf, by go_num, by omega, congrArg Value.string (cat_bytes [b] suf), hst, hb.trans (below_alloc2 hb.size _)⟩, by simp [intOf]; omega⟩
    · have d1 : decide ((9 : Int) < (q : Int)) = false := decide_eq_false (by omega)
      have d2 : decide (9 < q) = false := decide_eq_false hq0
      obtain ⟨b, hbd⟩ : ∃ b : UInt8, b = UInt8.ofNat (48 + q) := ⟨_, rfl⟩
      have hcv := conv_one wr (48 + (q : Int)) q b hbd (by omega) (by omega)
      have hst := Lib.hid (show Lib.decDigits n = b :: suf from by rw [hd.out, hbd, Lib.decDigits_one (by omega)]; rfl)
      have hsz : (⟨suf.toArray⟩ : ByteArray).size = suf.length := str_size suf
      have hsb : (⟨#[b]⟩ : ByteArray).size = 1 := rfl
      clear hbd
      go_wp2_with fail
      go_ret
      exact ⟨by rw [hst.out]; exact retv (congrArg Value.string (cat_bytes [b] suf)), hb.trans (below_alloc2 hb.size _)⟩

set_option maxRecDepth 100000 in
set_option maxHeartbeats 800000 in
theorem dec13_any (n : Int) (hn : in64 n) (w : World) : Calls Tryd.prog 30 #[.int .i64 n] w (Ret (.string ⟨(Lib.itoa n).toArray⟩) w) := by
  obtain ⟨hn0, hn1⟩ := hn
  by_cases h9 : n < -9
  · have d1 : decide (n < -9) = true := decide_eq_true h9
    obtain ⟨m, hm⟩ : ∃ m : Nat, n = -(m : Int) := ⟨n.natAbs, by omega⟩
    have hit := Lib.hid (itoa_low h9)
    rw [show n.natAbs = m from by omega] at hit
    have c1 : ∀ w, Calls Tryd.prog 46 #[.int .i64 ((m : Int) / 10)] w (Ret (.string ⟨(Lib.decDigits (m / 10)).toArray⟩) w) := fun w => by
      rw [show ((m : Int) / 10) = ((m / 10 : Nat) : Int) from by omega]; exact dec09_any (m / 10) (by omega) w
    have c2 : ∀ w, Calls Tryd.prog 46 #[.int .i64 ((m : Int) % 10)] w (Ret (.string ⟨(Lib.decDigits (m % 10)).toArray⟩) w) := fun w => by
      rw [show ((m : Int) % 10) = ((m % 10 : Nat) : Int) from by omega]; exact dec09_any (m % 10) (by omega) w
    have z1 : (Lib.decDigits (m / 10)).length ≤ 20 := digits_len (by omega)
    have z2 : (Lib.decDigits (m % 10)).length ≤ 20 := digits_len (by omega)
    have z3 : (⟨(Lib.decDigits (m / 10)).toArray⟩ : ByteArray).size ≤ 20 := by rw [str_size]; exact z1
    have z4 : (⟨(Lib.decDigits (m % 10)).toArray⟩ : ByteArray).size ≤ 20 := by rw [str_size]; exact z2
    have z5 : (⟨#[45]⟩ : ByteArray).size = 1 := rfl
    go_enter Tryd.func30, Tryd.ntmps30
    go_wp2_with fail
    refine (c1 _).mono ?_
    rintro e w1 ⟨rfl, hb1⟩
    go_wp2_with fail
    refine (c2 _).mono ?_
    rintro e w2 ⟨rfl, hb2⟩
    go_wp2_with fail
    go_ret
    exact ⟨by rw [hit.out]; refine retv (congrArg Value.string ?_); rw [show (⟨#[45]⟩ : ByteArray) = ⟨[45].toArray⟩ from rfl, cat_bytes, cat_bytes]; rfl, hb1.trans (hb2.mono hb1.size)⟩
  · have d1 : decide (n < -9) = false := decide_eq_false h9
    by_cases h0 : n < 0
    · have d2 : decide (n < 0) = true := decide_eq_true h0
      obtain ⟨m, hm⟩ : ∃ m : Nat, n = -(m : Int) := ⟨n.natAbs, by omega⟩
      have hnm : -n = (m : Int) := by omega
      have hit := Lib.hid (show Lib.itoa n = [45] ++ Lib.decDigits m from by rw [Lib.itoa, if_pos h0, show n.natAbs = m from by omega]; rfl)
      have hct := run_cat' #[45] (Lib.decDigits m) (by have := digits_len (n := m) (by omega); simp; omega)
      go_enter Tryd.func30, Tryd.ntmps30
      go_wp2_with fail
      refine (dec09_any m (by omega) _).mono ?_
      rintro e w1 ⟨rfl, hb1⟩
      go_wp2_with fail
      go_ret
      exact ⟨by rw [hit.out]; exact retv (congrArg Value.string (cat_bytes [45] _)), hb1⟩
    · have d2 : decide (n < 0) = false := decide_eq_false h0
      obtain ⟨m, rfl⟩ : ∃ m : Nat, n = (m : Int) := ⟨n.toNat, by omega⟩
      go_enter Tryd.func30, Tryd.ntmps30
      go_wp2_with fail
      refine (dec09_any m (by omega) _).mono ?_
      rintro e w1 ⟨rfl, hb1⟩
      go_wp2_with fail
      go_ret
      exact ⟨by rw [Lib.itoa_nonneg]; rfl, hb1⟩
end Go.Proofs.YtaficbkaofhjeaaDoor
