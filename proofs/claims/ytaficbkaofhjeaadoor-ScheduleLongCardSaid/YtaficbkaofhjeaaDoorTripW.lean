/- nurserylaw32.ScheduleRoundTrip, walked: it returns true. Conditions: the slice reads as a list of choices, the table of powers of ten lies where it was laid. -/
import Derived.Test.YtaficbkaofhjeaaDoorAwake
namespace Go.Proofs.YtaficbkaofhjeaaDoor
open Go.RowKit Go.Joins
theorem txt_len {l : List Ch} (h : checkE l = 0) : (listTxt (nums (rle l))).length < 2305843009213693952 := by
  have h1 := listErr_rle h
  have h2 := checkE_len h
  have h3 := rle_len l
  have h4 := nums_len (rle l)
  have hall : (nums (rle l)).all inR = true := by
    cases hb : (nums (rle l)).all inR
    · rw [listErr_bad (by omega) hb] at h1; cases h1
    · rfl
  rw [listTxt_ok (by omega) hall]
  have h5 := encs_len _ hall
  simp
  omega
set_option maxRecDepth 100000 in
set_option maxHeartbeats 3200000 in
theorem trip_any (A : Option Addr) (c : Nat) (l : List Ch) (L : List UInt8) (w : World) (h : Chs w w.heap.size A l) (hcap : l.length ≤ c) (hm : l.length ≤ maxLen) (hL : L.length ≤ maxLen) (ht : PowTab w) :
    Calls Tryd.prog 4 #[.slice A l.length c, .string ⟨L.toArray⟩] w (Ret (.bool true) w) := by
  have hm' := hm
  unfold maxLen at hm hL
  obtain ⟨s, hs⟩ : ∃ s : ByteArray, s = ⟨L.toArray⟩ := ⟨_, rfl⟩
  have hsz : s.size = L.length := by rw [hs]; simp [ByteArray.size]
  rw [← hs]
  have HS := Lib.hid hs
  clear hs
  by_cases h60 : 60 < l.length
  · have d1 : decide (60 < l.length) = true := decide_eq_true h60
    have d2 : decide ((60 : Int) < (l.length : Int)) = true := decide_eq_true (by omega)
    go_enter Tryd.func4, Tryd.ntmps4
    go_wp2_with fail
    refine (awake_any _ ht).mono ?_
    rintro e w1 ⟨rfl, hb1⟩
    go_wp2_with fail
    go_ret
    exact ⟨rfl, hb1⟩
  · have d1 : decide (60 < l.length) = false := decide_eq_false h60
    have d2 : decide ((60 : Int) < (l.length : Int)) = false := decide_eq_false (by omega)
    by_cases h600 : 600 < s.size
    · have d3 : decide (600 < s.size) = true := decide_eq_true h600
      have d4 : decide ((600 : Int) < (s.size : Int)) = true := decide_eq_true (by omega)
      go_enter Tryd.func4, Tryd.ntmps4
      go_wp2_with fail
      refine (awake_any _ ht).mono ?_
      rintro e w1 ⟨rfl, hb1⟩
      go_wp2_with fail
      go_ret
      exact ⟨rfl, hb1⟩
    · have hdl := fun w => dec_any L (by omega) w
      rw [← HS.out] at hdl
      have HDL := Lib.hid hdl
      clear hdl
      have d3 : decide (600 < s.size) = false := decide_eq_false h600
      have d4 : decide ((600 : Int) < (s.size : Int)) = false := decide_eq_false (by omega)
      have henc := schEncode_any A c l hcap w h hm'
      by_cases hce : checkE l = 0
      · rw [encSRes, if_pos hce, listRes, listErr_rle hce] at henc
        have hdec := fun w => dec_any (listTxt (nums (rle l))) (txt_len hce) w
        rw [trip1 hce] at hdec
        obtain ⟨T, hT⟩ : ∃ T : ByteArray, T = ⟨(listTxt (nums (rle l))).toArray⟩ := ⟨_, rfl⟩
        rw [← hT] at henc hdec
        have HE := Lib.hid henc
        have HD := Lib.hid hdec
        have HC := Lib.hid hce
        clear henc hce hT hdec
        go_enter Tryd.func4, Tryd.ntmps4
        go_wp2_with fail
        refine HE.out.mono ?_
        rintro e w1 ⟨rfl, hb1⟩
        have hc1 := Rd.more (Rd.below h hb1) hb1.size
        go_wp2_with fail
        refine (check_any A c l _ hc1 hm').mono ?_
        rw [HC.out]
        rintro e w2 ⟨rfl, hb2⟩
        have hB2 : Below w.heap.size w w2 := hb1.trans (hb2.mono hb1.size)
        have hc2 := Rd.more (Rd.below hc1 hb2) hb2.size
        go_wp2_with fail
        refine (HD.out _).mono ?_
        rintro e w3 ⟨B, d, rfl, hd3, hdc, hb3⟩
        have hB3 : Below w.heap.size w w3 := hB2.trans (hb3.mono hB2.size)
        have hc3 := Rd.more (Rd.below hc2 hb3) hb3.size
        dsimp only at hd3 hdc ⊢
        go_wp2_with fail
        refine (same_any _ B c d l l _ hc3 hd3 hm' hm').mono ?_
        rw [show decide (l = l) = true from by simp]
        rintro e w4 ⟨rfl, hb4⟩
        have hB4 : Below w.heap.size w w4 := hB3.trans (hb4.mono hB3.size)
        go_wp2_with fail
        refine (HDL.out _).mono ?_
        rintro e w8 ⟨M, cM, rfl, hcM, hcapM, hb8⟩
        have hB8 : Below w.heap.size w w8 := hB4.trans (hb8.mono hB4.size)
        rcases decS_cases L with e0 | ⟨ns, m, _, _, e0⟩
        · rw [e0] at hcM hcapM ⊢
          clear hcM
          go_wp2_with fail
          refine (awake_any _ (ht.below hB8)).mono ?_
          rintro e w9 ⟨rfl, hb9⟩
          go_wp2_with fail
          go_ret
          exact ⟨rfl, hB8.trans (hb9.mono hB8.size)⟩
        · obtain ⟨q1, q2⟩ := trip2 e0
          have hq := checkE_len q1
          have hmm : m.length ≤ maxLen := by unfold maxLen; omega
          rw [e0] at hcM hcapM ⊢
          dsimp only at hcM hcapM ⊢
          clear e0
          have henc := schEncode_any M cM m hcapM w8 hcM hmm
          rw [encSRes, if_pos q1, listRes, listErr_rle q1, q2, ← HS.out] at henc
          have HE := Lib.hid henc
          clear henc q1 q2
          go_wp2_with fail
          refine HE.out.mono ?_
          rintro e w9 ⟨rfl, hb9⟩
          have hB9 : Below w.heap.size w w9 := hB8.trans (hb9.mono hB8.size)
          go_wp2_with fail
          refine (awake_any _ (ht.below hB9)).mono ?_
          rintro e w10 ⟨rfl, hb10⟩
          go_wp2_with fail
          go_ret
          exact ⟨rfl, hB9.trans (hb10.mono hB9.size)⟩
      · rw [encSRes, if_neg hce] at henc
        have hcn : (checkE l == 0) = false := by simpa using hce
        have hcn2 : (checkE l != 0) = true := by simpa using hce
        have HE := Lib.hid henc
        clear henc hce
        go_enter Tryd.func4, Tryd.ntmps4
        go_wp2_with fail
        refine HE.out.mono ?_
        rintro e w1 ⟨rfl, hb1⟩
        have hc1 := Rd.more (Rd.below h hb1) hb1.size
        go_wp2_with fail
        refine (check_any A c l _ hc1 hm').mono ?_
        rintro e w2 ⟨rfl, hb2⟩
        have hB2 : Below w.heap.size w w2 := hb1.trans (hb2.mono hb1.size)
        go_wp2_with fail
        refine (HDL.out _).mono ?_
        rintro e w8 ⟨M, cM, rfl, hcM, hcapM, hb8⟩
        have hB8 : Below w.heap.size w w8 := hB2.trans (hb8.mono hB2.size)
        rcases decS_cases L with e0 | ⟨ns, m, _, _, e0⟩
        · rw [e0] at hcM hcapM ⊢
          clear hcM
          go_wp2_with fail
          refine (awake_any _ (ht.below hB8)).mono ?_
          rintro e w9 ⟨rfl, hb9⟩
          go_wp2_with fail
          go_ret
          exact ⟨rfl, hB8.trans (hb9.mono hB8.size)⟩
        · obtain ⟨q1, q2⟩ := trip2 e0
          have hq := checkE_len q1
          have hmm : m.length ≤ maxLen := by unfold maxLen; omega
          rw [e0] at hcM hcapM ⊢
          dsimp only at hcM hcapM ⊢
          clear e0
          have henc := schEncode_any M cM m hcapM w8 hcM hmm
          rw [encSRes, if_pos q1, listRes, listErr_rle q1, q2, ← HS.out] at henc
          have HE := Lib.hid henc
          clear henc q1 q2
          go_wp2_with fail
          refine HE.out.mono ?_
          rintro e w9 ⟨rfl, hb9⟩
          have hB9 : Below w.heap.size w w9 := hB8.trans (hb9.mono hB8.size)
          go_wp2_with fail
          refine (awake_any _ (ht.below hB9)).mono ?_
          rintro e w10 ⟨rfl, hb10⟩
          go_wp2_with fail
          go_ret
          exact ⟨rfl, hB9.trans (hb10.mono hB9.size)⟩
end Go.Proofs.YtaficbkaofhjeaaDoor
