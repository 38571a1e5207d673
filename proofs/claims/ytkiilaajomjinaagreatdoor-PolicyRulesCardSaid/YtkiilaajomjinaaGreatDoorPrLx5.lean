/- lexer.sign, walked. Conditions: the place lies in the text, before its end. -/
import Derived.Test.YtkiilaajomjinaaGreatDoorPrLx3
import Derived.Test.YtkiilaajomjinaaGreatDoorShelf
namespace Go.Proofs.YtkiilaajomjinaaGreatDoor
open Go.RowKit
def dblB : List ByteArray := [⟨#[38, 38]⟩, ⟨#[124, 124]⟩, ⟨#[61, 61]⟩, ⟨#[33, 61]⟩, ⟨#[60, 61]⟩, ⟨#[62, 61]⟩]
theorem pre_two (a b : UInt8) : ∀ l : List UInt8, Lib.hasPrefix l [a, b] = (l.take 2 == [a, b])
  | [] => rfl
  | [x] => by simp [Lib.hasPrefix, List.isPrefixOf]
  | x :: y :: r => by
    show (a == x && (b == y && true)) = (x == a && (y == b && true))
    rw [BEq.comm (a := a), BEq.comm (a := b)]
theorem idx_has (c : UInt8) : ∀ l : List UInt8, (0 ≤ Lib.indexByte l c ↔ c ∈ l) ∧ -1 ≤ Lib.indexByte l c
  | [] => by simp [Lib.indexByte]
  | b :: l => by
    have ih := idx_has c l
    unfold Lib.indexByte
    by_cases h : b = c
    · subst h
      simp
    · rw [if_neg (by simpa using h)]
      have hc : c ∈ b :: l ↔ c ∈ l := by simp [show ¬ c = b from fun e => h e.symm]
      rw [hc, ← ih.1]
      by_cases h1 : Lib.indexByte l c = -1
      · rw [if_pos (by simpa using h1)]
        have := ih.2
        omega
      · rw [if_neg (by simpa using h1)]
        have := ih.2
        omega
theorem dbl_form : ∀ (j : Nat) (t : ByteArray), dblB[j]? = some t → ∃ a b, t = ⟨#[a, b]⟩ ∧ [a, b] ∈ dblS
  | 0, t, h => by cases h; exact ⟨_, _, rfl, by decide⟩
  | 1, t, h => by cases h; exact ⟨_, _, rfl, by decide⟩
  | 2, t, h => by cases h; exact ⟨_, _, rfl, by decide⟩
  | 3, t, h => by cases h; exact ⟨_, _, rfl, by decide⟩
  | 4, t, h => by cases h; exact ⟨_, _, rfl, by decide⟩
  | 5, t, h => by cases h; exact ⟨_, _, rfl, by decide⟩
  | j + 6, t, h => by simp [dblB] at h
theorem ext_drop (s : ByteArray) (i : Nat) : (s.extract i s.size).data.toList = s.data.toList.drop i := by
  rw [Lib.extract_data, List.take_of_length_le]
  rw [List.length_drop, Array.length_toList]
  exact Nat.le_refl _
theorem sign_dbl (s : ByteArray) (i j : Nat) (t : ByteArray) (h : dblB[j]? = some t) (hp : Lib.hasPrefix (s.data.toList.drop i) t.data.toList = true) : signT (s.data.toList.drop i) = .ok 3 2 0 ∧ subB s i 2 = t := by
  obtain ⟨a, b, rfl, hm⟩ := dbl_form j t h
  change Lib.hasPrefix _ [a, b] = true at hp
  rw [pre_two, beq_iff_eq] at hp
  constructor
  · unfold signT
    rw [hp, if_pos (by simpa using hm)]
  · unfold subB
    rw [hp]
theorem sign_not (s : ByteArray) (i : Nat) (hi : i < s.size) (hn : ∀ (j : Nat) (t : ByteArray), dblB[j]? = some t → Lib.hasPrefix (s.data.toList.drop i) t.data.toList = false) : signT (s.data.toList.drop i) = if sglS.contains (s[i]'hi) then .ok 3 1 0 else .er 3 := by
  have h0 := hn 0 _ rfl
  have h1 := hn 1 _ rfl
  have h2 := hn 2 _ rfl
  have h3 := hn 3 _ rfl
  have h4 := hn 4 _ rfl
  have h5 := hn 5 _ rfl
  change Lib.hasPrefix _ [_, _] = false at h0 h1 h2 h3 h4 h5
  rw [pre_two] at h0 h1 h2 h3 h4 h5
  unfold signT
  rw [if_neg (by simp only [dblS, List.contains_cons, h0, h1, h2, h3, h4, h5]; simp)]
  rw [run_at s i hi]
theorem str_from (s : ByteArray) (i : Nat) (h : i ≤ s.size) (W : World) : (Instr.slice 9 (.string s) (some (.int .i64 (i : Nat))) none none).run Tryz.prog W = .ok (.string (s.extract i s.size)) W := by
  rw [run_slice_string_from_if _ _ _ _ _ Tryz.underlying9, if_pos (by omega)]
  simp
set_option maxRecDepth 100000 in
set_option maxHeartbeats 1600000 in
theorem signTok_any (s : ByteArray) (i : Nat) (hi : i < s.size) (hs : s.size ≤ 140737488355328) (w : World) : Calls Tryz.prog 67 #[.string s, .int .i64 (i : Nat)] w (Ret (tokV s i (signT (s.data.toList.drop i))) w) := by
  have HP := Lib.hid (fun (t : ByteArray) W => Tryz.strings_HasPrefix (s.extract i s.size) t W)
  rw [ext_drop] at HP
  have HQ := Lib.hid (fun W => Tryz.strings_Contains_one ⟨#[60, 62, 43, 45, 42, 47, 37, 33, 61, 40, 41, 123, 125, 44, 59]⟩ (s[i]'hi) W)
  have HD := Lib.hid (fun j t => sign_dbl s i j t)
  have HN := Lib.hid (sign_not s i hi)
  have hs1 : s.extract i (i + 1) = ⟨#[s[i]'hi]⟩ := by
    rw [ext_sub]
    unfold subB
    rw [run_at s i hi]
    rfl
  have hX1 : Hid (subB s i 1 = ⟨#[s[i]'hi]⟩) := Lib.hid (by rw [← hs1, ext_sub])
  have hfr := fun W => str_from s i (by omega) W
  have hon : ∀ W, (Instr.slice 9 (.string s) (some (.int .i64 (i : Nat))) (some (.int .i64 ((i : Int) + 1))) none).run Tryz.prog W = .ok (.string ⟨#[s[i]'hi]⟩) W := fun W => by
    have h := str_slice s i (i + 1) (by omega) (by omega) W
    rw [hs1] at h
    exact h
  have hi1 : IntKind.i64.wrap ((i : Int) + 1) = (i : Int) + 1 := by rw [IntKind.wrap_i64]; omega
  have HSG : Hid (decide (0 ≤ Lib.indexByte [60, 62, 43, 45, 42, 47, 37, 33, 61, 40, 41, 123, 125, 44, 59] (s[i]'hi)) = sglS.contains (s[i]'hi)) := Lib.hid (by
    have h := (idx_has (s[i]'hi) [60, 62, 43, 45, 42, 47, 37, 33, 61, 40, 41, 123, 125, 44, 59]).1
    rw [Bool.eq_iff_iff, decide_eq_true_iff, h, List.contains_iff_mem]
    rfl)
  clear hs1
  generalize sglS.contains (s[i]'hi) = sg at HN HSG
  generalize signT (s.data.toList.drop i) = R at HD HN ⊢
  generalize s.extract i s.size = sx at HP hfr
  generalize s[i]'hi = ci at *
  unfold Ret
  have hO := one_new w #[.int .i64 0, .string ⟨#[]⟩, .int .i64 0, .int .i64 0] 81
  have hF : ∀ j, (w.alloc (.cells #[.int .i64 0, .string ⟨#[]⟩, .int .i64 0, .int .i64 0] 81)).frozen? ⟨w.heap.size, j, none⟩ = false := fun j => by simp
  go_enter Tryz.func67, Tryz.ntmps67
  go_upto_region 1 with fail
  generalize w.alloc _ = w1 at hO hF ⊢
  obtain ⟨d0, d1, d2, d3⟩ := bx4 hO.fst
  have f0 := hF 0
  have f1 := hF 1
  have f2 := hF 2
  have f3 := hF 3
  have D0 := Lib.hid d0
  have D1 := Lib.hid d1
  have D2 := Lib.hid d2
  have D3 := Lib.hid d3
  have HB := Lib.hid hO.below
  have HF := Lib.hid hF
  have HBX := Lib.hid hO.fst
  have hsz1 := hO.size
  clear hO hF
  go_wp2_with fail
  have hA := bx_new w1 #[.string ⟨#[38, 38]⟩, .string ⟨#[124, 124]⟩, .string ⟨#[61, 61]⟩, .string ⟨#[33, 61]⟩, .string ⟨#[60, 61]⟩, .string ⟨#[62, 61]⟩] 9
  have hbl := below_alloc w1 (.cells #[.string ⟨#[38, 38]⟩, .string ⟨#[124, 124]⟩, .string ⟨#[61, 61]⟩, .string ⟨#[33, 61]⟩, .string ⟨#[60, 61]⟩, .string ⟨#[62, 61]⟩] 9)
  generalize w1.alloc _ = w2 at hA hbl ⊢
  obtain ⟨d0, d1, d2, d3⟩ := bx4 (HBX.out.below hbl (by omega))
  have HB2 := Lib.hid (HB.out.trans (hbl.mono (by omega)))
  have f0 := (hbl.frozen (p := ⟨w.heap.size, 0, none⟩) (by show w.heap.size < _; omega)).trans (HF.out 0)
  have f1 := (hbl.frozen (p := ⟨w.heap.size, 1, none⟩) (by show w.heap.size < _; omega)).trans (HF.out 1)
  have f2 := (hbl.frozen (p := ⟨w.heap.size, 2, none⟩) (by show w.heap.size < _; omega)).trans (HF.out 2)
  have f3 := (hbl.frozen (p := ⟨w.heap.size, 3, none⟩) (by show w.heap.size < _; omega)).trans (HF.out 3)
  have D0 := Lib.hid d0
  have D1 := Lib.hid d1
  have D2 := Lib.hid d2
  have D3 := Lib.hid d3
  have HB := HB2
  have HA : Hid (∀ (j : Nat) (t : ByteArray), dblB[j]? = some t → w2.cell? ⟨w1.heap.size, j, none⟩ = some (.string t)) := Lib.hid (fun j t h => hA j _ (by
    have h1 : (dblB.map Value.string)[j]? = some (.string t) := by rw [List.getElem?_map, h]; rfl
    exact h1))
  generalize w1.heap.size = b1 at HA ⊢
  clear hA hbl HB2 HBX HF hsz1
  go_loopw [10] (fun jv wr => wr = w2 ∧ ∃ j : Nat, jv = .int .i64 (j : Nat) ∧ j ≤ 6 ∧ Hid (∀ (m : Nat) (t : ByteArray), m < j → dblB[m]? = some t → Lib.hasPrefix (s.data.toList.drop i) t.data.toList = false)) (fun jv _ => 6 - (intOf jv).toNat)
  case atStart => exact ⟨rfl, 0, rfl, by omega, Lib.hid (fun m t h => absurd h (by omega))⟩
  case round =>
    obtain ⟨rfl, j, rfl, hj, HNJ⟩ := hrel
    have hj0 : (0 : Int) ≤ (j : Int) := by omega
    have hwj : IntKind.i64.wrap ((j : Int) + 1) = (j : Int) + 1 := by rw [IntKind.wrap_i64]; omega
    by_cases hlt : j < 6
    · have g1 : decide ((j : Int) < 6) = true := decide_eq_true (by omega)
      have g2 : decide (j < 6) = true := decide_eq_true hlt
      have g3 : (j : Int) < 6 := by omega
      obtain ⟨t, ht⟩ : ∃ t, dblB[j]? = some t := ⟨dblB[j]'hlt, List.getElem?_eq_getElem hlt⟩
      have hcl := HA.out j t ht
      have HT := Lib.hid ht
      have HPT := Lib.hid (HP.out t)
      have HDT := Lib.hid (HD.out j t ht)
      cases hp : Lib.hasPrefix (s.data.toList.drop i) t.data.toList with
      | true =>
        have HV := Lib.hid (HDT.out hp).1
        have HX := Lib.hid (HDT.out hp).2
        have HTX : Hid (tokV s i (.ok 3 2 0) = .tuple #[.agg #[.int .i64 3, .string t, .int .i64 0, .int .i64 (i : Nat)], .int .i64 0]) := Lib.hid (by show Value.tuple #[.agg #[.int .i64 3, .string (subB s i 2), .int .i64 0, .int .i64 (i : Nat)], .int .i64 0] = _; rw [HX.out])
        rw [hp] at HPT
        clear ht hp hlt
        go_wp2_with (go_at_call 102; refine (HPT.out _).mono ?_; rintro e W5 ⟨rfl, hw⟩; obtain rfl : wr = W5 := hw.symm)
        obtain ⟨q0, q1, q2, q3⟩ := set4 D0.out D1.out D2.out D3.out (.int .i64 3) (.string t) (.int .i64 0) (.int .i64 (i : Nat))
        have hby := set4_below HB.out (Nat.le_refl _) (.int .i64 3) (.string t) (.int .i64 0) (.int .i64 (i : Nat))
        generalize World.setCell _ _ _ = w6 at q0 q1 q2 q3 hby ⊢
        refine bodyPost_ret (v := .tuple #[.agg #[.int .i64 3, .string t, .int .i64 0, .int .i64 (i : Nat)], .int .i64 0]) (by rw [results_cell_tmp rfl]; go_simp) rfl ⟨by rw [HV.out, HTX.out], hby⟩
      | false =>
        rw [hp] at HPT
        have HNN : Hid (∀ (m : Nat) (t : ByteArray), m < j + 1 → dblB[m]? = some t → Lib.hasPrefix (s.data.toList.drop i) t.data.toList = false) := Lib.hid (fun m t' h h' => by
          by_cases hm : m < j
          · exact HNJ.out m t' hm h'
          · obtain rfl : m = j := by omega
            rw [HT.out] at h'
            cases h'
            exact hp)
        clear ht hp hlt
        go_wp2_with (go_at_call 102; refine (HPT.out _).mono ?_; rintro e W5 ⟨rfl, hw⟩; obtain rfl : wr = W5 := hw.symm)
        exact ⟨⟨by first | rfl | exact True.intro, j + 1, by go_num, by omega, HNN⟩, by simp [intOf]; omega⟩
    · obtain rfl : j = 6 := by omega
      have g1 : decide (((6 : Nat) : Int) < 6) = false := rfl
      have HR : Hid (R = if sg = true then .ok 3 1 0 else .er 3) := Lib.hid (HN.out (fun m t h => by
        by_cases hm : m < 6
        · exact HNJ.out m t hm h
        · rw [List.getElem?_eq_none (by show 6 ≤ m; omega)] at h; cases h))
      have HCO : Hid (∀ W, Calls Tryz.prog 103 #[.string ⟨#[60, 62, 43, 45, 42, 47, 37, 33, 61, 40, 41, 123, 125, 44, 59]⟩, .string ⟨#[ci]⟩] W fun e w' => e = .returned (.bool sg) ∧ w' = W) := Lib.hid (fun W => by
        have h := HQ.out W
        rw [← HSG.out]
        exact h)
      clear HQ HSG HNJ hlt
      cases sg with
      | true =>
        have HV : Hid (R = .ok 3 1 0) := Lib.hid (by rw [HR.out]; rfl)
        have HTX : Hid (tokV s i (.ok 3 1 0) = .tuple #[.agg #[.int .i64 3, .string ⟨#[ci]⟩, .int .i64 0, .int .i64 (i : Nat)], .int .i64 0]) := Lib.hid (by show Value.tuple #[.agg #[.int .i64 3, .string (subB s i 1), .int .i64 0, .int .i64 (i : Nat)], .int .i64 0] = _; rw [hX1.out])
        go_wp2_with (go_at_call 103; refine (HCO.out _).mono ?_; rintro e W5 ⟨rfl, hw⟩; obtain rfl : wr = W5 := hw.symm)
        obtain ⟨q0, q1, q2, q3⟩ := set4 D0.out D1.out D2.out D3.out (.int .i64 3) (.string ⟨#[ci]⟩) (.int .i64 0) (.int .i64 (i : Nat))
        have hby := set4_below HB.out (Nat.le_refl _) (.int .i64 3) (.string ⟨#[ci]⟩) (.int .i64 0) (.int .i64 (i : Nat))
        generalize World.setCell _ _ _ = w6 at q0 q1 q2 q3 hby ⊢
        refine bodyPost_ret (v := .tuple #[.agg #[.int .i64 3, .string ⟨#[ci]⟩, .int .i64 0, .int .i64 (i : Nat)], .int .i64 0]) (by rw [results_cell_tmp rfl]; go_simp) rfl ⟨by rw [HV.out, HTX.out], hby⟩
      | false =>
        have HV : Hid (R = .er 3) := Lib.hid (by rw [HR.out]; rfl)
        go_wp2_with (go_at_call 103; refine (HCO.out _).mono ?_; rintro e W5 ⟨rfl, hw⟩; obtain rfl : wr = W5 := hw.symm)
        obtain ⟨q0, q1, q2, q3⟩ := set4 D0.out D1.out D2.out D3.out (.int .i64 0) (.string ⟨#[]⟩) (.int .i64 0) (.int .i64 0)
        have hby := set4_below HB.out (Nat.le_refl _) (.int .i64 0) (.string ⟨#[]⟩) (.int .i64 0) (.int .i64 0)
        generalize World.setCell _ _ _ = w6 at q0 q1 q2 q3 hby ⊢
        refine bodyPost_ret (v := .tuple #[.agg #[.int .i64 0, .string ⟨#[]⟩, .int .i64 0, .int .i64 0], .int .i64 3]) (by rw [results_cell_tmp rfl]; go_simp) rfl ⟨by rw [HV.out]; rfl, hby⟩
end Go.Proofs.YtkiilaajomjinaaGreatDoor
