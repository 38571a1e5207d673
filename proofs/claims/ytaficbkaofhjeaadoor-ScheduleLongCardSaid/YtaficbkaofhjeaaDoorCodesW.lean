/- nurserylaw32.ScheduleCodes, walked: it returns true. Conditions: the slice reads as a list of choices of int64 numbers, not too long; the table of powers of ten lies where it was laid. -/
import Derived.Test.YtaficbkaofhjeaaDoorAwake
import Derived.Test.YtaficbkaofhjeaaDoorRefDec
import Derived.Test.YtaficbkaofhjeaaDoorRefText
import Derived.Test.YtaficbkaofhjeaaDoorRefEnc
namespace Go.Proofs.YtaficbkaofhjeaaDoor
open Go.RowKit Go.Joins
theorem encSRes_form (l : List Ch) : ∃ T E, encSRes l = .tuple #[.string T, .int .i64 E] := by
  unfold encSRes listRes
  split
  · exact ⟨_, _, rfl⟩
  · exact ⟨_, _, rfl⟩
theorem decS_len (L : List UInt8) : (decS L).1.length ≤ maxLen := by
  rcases decS_cases L with e0 | ⟨ns, m, _, _, e0⟩
  · rw [e0]; exact Nat.zero_le _
  · have hq := checkE_len (trip2 e0).1
    rw [e0]; unfold maxLen; show m.length ≤ _; omega
set_option maxRecDepth 100000 in
set_option maxHeartbeats 6400000 in
theorem codes_any (A : Option Addr) (c : Nat) (l : List Ch) (L : List UInt8) (w : World) (h : Chs w w.heap.size A l) (hcap : l.length ≤ c) (hlen : l.length ≤ 3000000000000) (hin : ∀ x ∈ l, in64 x.1 ∧ in64 x.2) (hL : L.length ≤ maxLen) (ht : PowTab w) :
    Calls Tryd.prog 3 #[.slice A l.length c, .string ⟨L.toArray⟩] w (Ret (.bool true) w) := by
  have hm : l.length ≤ maxLen := by unfold maxLen; omega
  unfold maxLen at hL
  obtain ⟨s, hs⟩ : ∃ s : ByteArray, s = ⟨L.toArray⟩ := ⟨_, rfl⟩
  have hsz : s.size = L.length := by rw [hs]; simp [ByteArray.size]
  rw [← hs]
  have HS := Lib.hid hs
  clear hs
  by_cases h60 : 60 < l.length
  · have d1 : decide (60 < l.length) = true := decide_eq_true h60
    have d2 : decide ((60 : Int) < (l.length : Int)) = true := decide_eq_true (by omega)
    by_cases h2000 : l.length ≤ 2000
    · have d5 : decide (l.length ≤ 2000) = true := decide_eq_true h2000
      have d6 : decide ((l.length : Int) ≤ 2000) = true := decide_eq_true (by omega)
      go_enter Tryd.func3, Tryd.ntmps3
      go_wp2_with fail
      refine (awake_any _ ht).mono ?_
      rintro e w1 ⟨rfl, hb1⟩
      go_wp2_with fail
      go_ret
      exact ⟨rfl, hb1⟩
    · have d5 : decide (l.length ≤ 2000) = false := decide_eq_false h2000
      have d6 : decide ((l.length : Int) ≤ 2000) = false := decide_eq_false (by omega)
      by_cases h600 : 600 < s.size
      · have d3 : decide (600 < s.size) = true := decide_eq_true h600
        have d4 : decide ((600 : Int) < (s.size : Int)) = true := decide_eq_true (by omega)
        go_enter Tryd.func3, Tryd.ntmps3
        go_wp2_with fail
        refine (awake_any _ ht).mono ?_
        rintro e w1 ⟨rfl, hb1⟩
        go_wp2_with fail
        go_ret
        exact ⟨rfl, hb1⟩
      · have d3 : decide (600 < s.size) = false := decide_eq_false h600
        have d4 : decide ((600 : Int) < (s.size : Int)) = false := decide_eq_false (by omega)
        obtain ⟨T, E, hTE⟩ := encSRes_form l
        have henc := schEncode_any A c l hcap w h hm
        have henc2 := fun w1 hc => refEncode_any A c l w1 hc hm
        have hdec := fun w => dec_any L (by omega) w
        have hdec2 := fun w => refDec_any L (by omega) w
        rw [decRS_eq] at hdec2
        have hml := decS_len L
        rw [hTE] at henc henc2
        rw [← HS.out] at hdec hdec2
        obtain ⟨⟨m, e0⟩, hr⟩ : ∃ r, decS L = r := ⟨_, rfl⟩
        rw [hr] at hdec hdec2 hml
        have H1 := Lib.hid henc
        have H2 := Lib.hid henc2
        have H3 := Lib.hid hdec
        have H4 := Lib.hid hdec2
        clear henc henc2 hdec hdec2 hTE hr
        go_enter Tryd.func3, Tryd.ntmps3
        go_wp2_with fail
        refine H1.out.mono ?_
        rintro e w1 ⟨rfl, hb1⟩
        have hc1 := Rd.more (Rd.below h hb1) hb1.size
        go_wp2_with fail
        refine (H2.out _ hc1).mono ?_
        rintro e w2 ⟨rfl, hb2⟩
        have hB2 : Below w.heap.size w w2 := hb1.trans (hb2.mono hb1.size)
        have hc2 := Rd.more (Rd.below hc1 hb2) hb2.size
        go_wp2_with fail
        refine (H3.out _).mono ?_
        rintro e w3 ⟨M, cM, rfl, hd3, hcap3, hb3⟩
        dsimp only at hd3 hcap3 hml ⊢
        have hB3 : Below w.heap.size w w3 := hB2.trans (hb3.mono hB2.size)
        have hc3 := Rd.more (Rd.below hc2 hb3) hb3.size
        go_wp2_with fail
        refine (H4.out _).mono ?_
        rintro e w4 ⟨N, cN, rfl, hd4, hcap4, hb4⟩
        dsimp only at hd4 hcap4 ⊢
        have hB4 : Below w.heap.size w w4 := hB3.trans (hb4.mono hB3.size)
        have hc4 := Rd.more (Rd.below hc3 hb4) hb4.size
        have hd3' := Rd.more (Rd.below hd3 hb4) hb4.size
        go_wp2_with fail
        refine (check_any A c l _ hc4 hm).mono ?_
        rintro e w5 ⟨rfl, hb5⟩
        have hB5 : Below w.heap.size w w5 := hB4.trans (hb5.mono hB4.size)
        have hc5 := Rd.more (Rd.below hc4 hb5) hb5.size
        have hd35 := Rd.more (Rd.below hd3' hb5) hb5.size
        have hd45 := Rd.more (Rd.below hd4 hb5) hb5.size
        go_wp2_with fail
        refine (refCheck_any A c l _ hc5 hm).mono ?_
        rintro e w6 ⟨rfl, hb6⟩
        have hB6 : Below w.heap.size w w6 := hB5.trans (hb6.mono hB5.size)
        have hc6 := Rd.more (Rd.below hc5 hb6) hb6.size
        have hd36 := Rd.more (Rd.below hd35 hb6) hb6.size
        have hd46 := Rd.more (Rd.below hd45 hb6) hb6.size
        go_wp2_with fail
        refine (same_any M N cM cN m m _ hd36 hd46 hml hml).mono ?_
        rw [show decide (m = m) = true from by simp]
        rintro e w7 ⟨rfl, hb7⟩
        have hB7 : Below w.heap.size w w7 := hB6.trans (hb7.mono hB6.size)
        have hc7 := Rd.more (Rd.below hc6 hb7) hb7.size
        go_wp2_with fail
        refine (switches_any A c l _ hc7 hm).mono ?_
        rintro e w8 ⟨rfl, hb8⟩
        have hB8 : Below w.heap.size w w8 := hB7.trans (hb8.mono hB7.size)
        have hc8 := Rd.more (Rd.below hc7 hb8) hb8.size
        go_wp2_with fail
        refine (refSwitches_any A c l _ hc8 hm).mono ?_
        rintro e w9 ⟨rfl, hb9⟩
        have hB9 : Below w.heap.size w w9 := hB8.trans (hb9.mono hB8.size)
        have hc9 := Rd.more (Rd.below hc8 hb9) hb9.size
        go_wp2_with fail
        refine (text_any A c l _ hc9 hlen hin (ht.below hB9)).mono ?_
        rintro e w10 ⟨rfl, hb10⟩
        have hB10 : Below w.heap.size w w10 := hB9.trans (hb10.mono hB9.size)
        have hc10 := Rd.more (Rd.below hc9 hb10) hb10.size
        go_wp2_with fail
        refine (refText_any A c l _ hc10 hlen hin).mono ?_
        rintro e w11 ⟨rfl, hb11⟩
        have hB11 : Below w.heap.size w w11 := hB10.trans (hb11.mono hB10.size)
        go_wp2_with fail
        refine (awake_any _ (ht.below hB11)).mono ?_
        rintro e w12 ⟨rfl, hb12⟩
        go_wp2_with fail
        go_ret
        exact ⟨rfl, hB11.trans (hb12.mono hB11.size)⟩
  · have d1 : decide (60 < l.length) = false := decide_eq_false h60
    have d2 : decide ((60 : Int) < (l.length : Int)) = false := decide_eq_false (by omega)
    by_cases h600 : 600 < s.size
    · have d3 : decide (600 < s.size) = true := decide_eq_true h600
      have d4 : decide ((600 : Int) < (s.size : Int)) = true := decide_eq_true (by omega)
      go_enter Tryd.func3, Tryd.ntmps3
      go_wp2_with fail
      refine (awake_any _ ht).mono ?_
      rintro e w1 ⟨rfl, hb1⟩
      go_wp2_with fail
      go_ret
      exact ⟨rfl, hb1⟩
    · have d3 : decide (600 < s.size) = false := decide_eq_false h600
      have d4 : decide ((600 : Int) < (s.size : Int)) = false := decide_eq_false (by omega)
      obtain ⟨T, E, hTE⟩ := encSRes_form l
      have henc := schEncode_any A c l hcap w h hm
      have henc2 := fun w1 hc => refEncode_any A c l w1 hc hm
      have hdec := fun w => dec_any L (by omega) w
      have hdec2 := fun w => refDec_any L (by omega) w
      rw [decRS_eq] at hdec2
      have hml := decS_len L
      rw [hTE] at henc henc2
      rw [← HS.out] at hdec hdec2
      obtain ⟨⟨m, e0⟩, hr⟩ : ∃ r, decS L = r := ⟨_, rfl⟩
      rw [hr] at hdec hdec2 hml
      have H1 := Lib.hid henc
      have H2 := Lib.hid henc2
      have H3 := Lib.hid hdec
      have H4 := Lib.hid hdec2
      clear henc henc2 hdec hdec2 hTE hr
      go_enter Tryd.func3, Tryd.ntmps3
      go_wp2_with fail
      refine H1.out.mono ?_
      rintro e w1 ⟨rfl, hb1⟩
      have hc1 := Rd.more (Rd.below h hb1) hb1.size
      go_wp2_with fail
      refine (H2.out _ hc1).mono ?_
      rintro e w2 ⟨rfl, hb2⟩
      have hB2 : Below w.heap.size w w2 := hb1.trans (hb2.mono hb1.size)
      have hc2 := Rd.more (Rd.below hc1 hb2) hb2.size
      go_wp2_with fail
      refine (H3.out _).mono ?_
      rintro e w3 ⟨M, cM, rfl, hd3, hcap3, hb3⟩
      dsimp only at hd3 hcap3 hml ⊢
      have hB3 : Below w.heap.size w w3 := hB2.trans (hb3.mono hB2.size)
      have hc3 := Rd.more (Rd.below hc2 hb3) hb3.size
      go_wp2_with fail
      refine (H4.out _).mono ?_
      rintro e w4 ⟨N, cN, rfl, hd4, hcap4, hb4⟩
      dsimp only at hd4 hcap4 ⊢
      have hB4 : Below w.heap.size w w4 := hB3.trans (hb4.mono hB3.size)
      have hc4 := Rd.more (Rd.below hc3 hb4) hb4.size
      have hd3' := Rd.more (Rd.below hd3 hb4) hb4.size
      go_wp2_with fail
      refine (check_any A c l _ hc4 hm).mono ?_
      rintro e w5 ⟨rfl, hb5⟩
      have hB5 : Below w.heap.size w w5 := hB4.trans (hb5.mono hB4.size)
      have hc5 := Rd.more (Rd.below hc4 hb5) hb5.size
      have hd35 := Rd.more (Rd.below hd3' hb5) hb5.size
      have hd45 := Rd.more (Rd.below hd4 hb5) hb5.size
      go_wp2_with fail
      refine (refCheck_any A c l _ hc5 hm).mono ?_
      rintro e w6 ⟨rfl, hb6⟩
      have hB6 : Below w.heap.size w w6 := hB5.trans (hb6.mono hB5.size)
      have hc6 := Rd.more (Rd.below hc5 hb6) hb6.size
      have hd36 := Rd.more (Rd.below hd35 hb6) hb6.size
      have hd46 := Rd.more (Rd.below hd45 hb6) hb6.size
      go_wp2_with fail
      refine (same_any M N cM cN m m _ hd36 hd46 hml hml).mono ?_
      rw [show decide (m = m) = true from by simp]
      rintro e w7 ⟨rfl, hb7⟩
      have hB7 : Below w.heap.size w w7 := hB6.trans (hb7.mono hB6.size)
      have hc7 := Rd.more (Rd.below hc6 hb7) hb7.size
      go_wp2_with fail
      refine (switches_any A c l _ hc7 hm).mono ?_
      rintro e w8 ⟨rfl, hb8⟩
      have hB8 : Below w.heap.size w w8 := hB7.trans (hb8.mono hB7.size)
      have hc8 := Rd.more (Rd.below hc7 hb8) hb8.size
      go_wp2_with fail
      refine (refSwitches_any A c l _ hc8 hm).mono ?_
      rintro e w9 ⟨rfl, hb9⟩
      have hB9 : Below w.heap.size w w9 := hB8.trans (hb9.mono hB8.size)
      have hc9 := Rd.more (Rd.below hc8 hb9) hb9.size
      go_wp2_with fail
      refine (text_any A c l _ hc9 hlen hin (ht.below hB9)).mono ?_
      rintro e w10 ⟨rfl, hb10⟩
      have hB10 : Below w.heap.size w w10 := hB9.trans (hb10.mono hB9.size)
      have hc10 := Rd.more (Rd.below hc9 hb10) hb10.size
      go_wp2_with fail
      refine (refText_any A c l _ hc10 hlen hin).mono ?_
      rintro e w11 ⟨rfl, hb11⟩
      have hB11 : Below w.heap.size w w11 := hB10.trans (hb11.mono hB10.size)
      go_wp2_with fail
      refine (awake_any _ (ht.below hB11)).mono ?_
      rintro e w12 ⟨rfl, hb12⟩
      go_wp2_with fail
      go_ret
      exact ⟨rfl, hB11.trans (hb12.mono hB11.size)⟩
end Go.Proofs.YtaficbkaofhjeaaDoor
