/- ref32.Text, walked. Conditions: the slice reads as a list of choices of int64 numbers, not too long. -/
import Derived.Test.YtaficbkaofhjeaaDoorDecim
namespace Go.Proofs.YtaficbkaofhjeaaDoor
open Go.RowKit
theorem textB_take (l : List Ch) {k : Nat} (hk : k < l.length) : textB (l.take (k + 1)) = textB (l.take k) ++ ((if 0 < k then [32] else []) ++ (whoB l[k].1 ++ caseB l[k].2)) := by
  rw [List.take_succ_eq_append_getElem hk]
  by_cases h0 : k = 0
  · subst h0; simp [textB_nil, textB_one, wordB]
  · have hne : l.take k ≠ [] := fun e => by
      have := congrArg List.length e
      rw [List.length_take, Nat.min_eq_left (by omega)] at this
      exact h0 this
    rw [textB_snoc _ hne, if_pos (by omega)]
    rfl
set_option maxRecDepth 100000 in
set_option maxHeartbeats 3200000 in
theorem refText_any (A : Option Addr) (c : Nat) (l : List Ch) (w : World) (h : Chs w w.heap.size A l) (hl : l.length ≤ 3000000000000) (hin : ∀ x ∈ l, in64 x.1 ∧ in64 x.2) :
    Calls Tryd.prog 17 #[.slice A l.length c] w (Ret (.string ⟨(textB l).toArray⟩) w) := by
  go_enter Tryd.func17, Tryd.ntmps17
  go_wp2
  go_loopw [3, 4] (fun v i wr => ∃ (k : Nat) (X : List UInt8), i = .int .i64 k ∧ v = .string ⟨X.toArray⟩ ∧ k ≤ l.length ∧ Hid (X = textB (l.take k)) ∧ Below w.heap.size w wr) (fun _ i _ => l.length - (intOf i).toNat)
  case atStart => exact ⟨0, [], rfl, rfl, by omega, Lib.hid (by simp [textB_nil]), Below.refl _ _⟩
  case round =>
    obtain ⟨k, X, rfl, rfl, hk, hX, hb⟩ := hrel
    by_cases hlt : k < l.length
    · obtain ⟨b, off, rfl, hbb, hc0, hc1⟩ := (h.below hb).at_ hlt
      have hd1 : decide ((k : Int) < (l.length : Int)) = true := decide_eq_true (by omega)
      have hd2 : decide (k < l.length) = true := decide_eq_true hlt
      obtain ⟨t, htt⟩ : ∃ t, t = l[k].1 := ⟨_, rfl⟩
      obtain ⟨d, hdd⟩ : ∃ d, d = l[k].2 := ⟨_, rfl⟩
      have hin1 := hin l[k] (List.getElem_mem _)
      rw [← htt] at hc0
      rw [← htt, ← hdd] at hin1
      rw [← hdd] at hc1
      have HN := Lib.hid (show textB (l.take (k + 1)) = X ++ ((if 0 < k then [32] else []) ++ (whoB t ++ caseB d)) from by rw [textB_take l hlt, hX.out, ← htt, ← hdd])
      clear htt hdd
      have hXl : X.length ≤ 44 * l.length := by
        have h1 := textB_len (l := l.take k) (fun x hx => hin x (List.mem_of_mem_take hx))
        rw [← hX.out, List.length_take, Nat.min_eq_left hk] at h1
        omega
      have hwr1 : IntKind.i64.wrap ((k : Int) + 1) = (k : Int) + 1 := by rw [IntKind.wrap_i64]; omega
      have hk0 : (0 : Int) ≤ (k : Int) := by omega
      have fin : ∀ (Y : List UInt8) (u : Value) W, u = .string ⟨Y.toArray⟩ → Y = X ++ ((if 0 < k then [32] else []) ++ (whoB t ++ caseB d)) → Below w.heap.size w W →
          (∃ (k1 : Nat) (X1 : List UInt8), Value.int .i64 ((k : Int) + 1) = .int .i64 k1 ∧ u = .string ⟨X1.toArray⟩ ∧ k1 ≤ l.length ∧ Hid (X1 = textB (l.take k1)) ∧ Below w.heap.size w W) ∧
          l.length - (intOf (Value.int .i64 ((k : Int) + 1))).toNat < l.length - (intOf (Value.int .i64 k)).toNat := fun Y u W h1 h2 h3 =>
        ⟨⟨k + 1, Y, by go_num, h1, by omega, Lib.hid (h2.trans HN.out.symm), h3⟩, by simp [intOf]; omega⟩
      have HF := Lib.hid fin
      have il1 := Lib.itoa_length_le t hin1.1.1 hin1.1.2
      have il2 := Lib.itoa_length_le d hin1.2.1 hin1.2.2
      clear fin HN hX
      by_cases hkz : k = 0
      · have e1 : decide (0 < k) = false := by simp [hkz]
        have e2 : decide ((0 : Int) < (k : Int)) = false := by simp [hkz]
        have hs0 : (if 0 < k then [32] else ([] : List UInt8)) = [] := if_neg (by omega)
        rw [hs0] at HF
        obtain ⟨X1, hX1⟩ : ∃ X1 : List UInt8, X1 = X := ⟨_, rfl⟩
        have hl1 : X1.length ≤ 44 * l.length + 1 := by rw [hX1]; omega
        have HX1 := Lib.hid (show X ++ [] = X1 from by rw [hX1, List.append_nil])
        rw [← hX1]
        clear hX1 hs0 hkz
        by_cases ht1 : t = -1
        · have w1 : whoB t = [99, 108, 111, 99, 107] := by rw [whoB, if_pos ht1]
          have e3 : (t == -1) = true := by simp [ht1]
          have hw0 : (99 :: 108 :: 111 :: 99 :: 107 :: []).length ≤ 21 := by simp
          rw [w1] at HF
          obtain ⟨X2, hX2⟩ : ∃ X2 : List UInt8, X2 = X1 ++ [99, 108, 111, 99, 107] := ⟨_, rfl⟩
          have add2 : ∀ W, (Op.stringOp .add ⟨X1.toArray⟩ ⟨#[99, 108, 111, 99, 107]⟩).run Tryd.prog W = .ok (.string ⟨X2.toArray⟩) W := fun W => hX2 ▸ run_cat X1 [99, 108, 111, 99, 107] (by simp; omega) W
          have hl2 : X2.length ≤ 44 * l.length + 22 := by rw [hX2]; simp; omega
          have HX2 := Lib.hid hX2
          clear hX2 w1
          by_cases hd0 : d = 0
          · have e4 : (d != 0) = false := by simp [hd0]
            have w2 : caseB d = [] := by rw [caseB, if_pos hd0]
            rw [w2] at HF
            clear w2 il1 il2 hl1 hl2 hXl
            go_wp2_with fail
            exact HF.out X2 _ _ rfl (by rw [HX2.out, ← HX1.out]; simp) hb
          · have e4 : (d != 0) = true := by simpa using hd0
            have w2 : caseB d = 46 :: Lib.itoa d := by rw [caseB, if_neg hd0]
            rw [w2] at HF
            have add3 : ∀ W, (Op.stringOp .add ⟨#[46]⟩ ⟨(Lib.itoa d).toArray⟩).run Tryd.prog W = .ok (.string ⟨(46 :: Lib.itoa d).toArray⟩) W := fun W => run_cat [46] (Lib.itoa d) (by simp; omega) W
            have add4 : ∀ W, (Op.stringOp .add ⟨X2.toArray⟩ ⟨(46 :: Lib.itoa d).toArray⟩).run Tryd.prog W = .ok (.string ⟨(X2 ++ (46 :: Lib.itoa d)).toArray⟩) W := fun W => run_cat X2 (46 :: Lib.itoa d) (by simp; omega) W
            clear w2 il1 il2 hl1 hl2 hXl
            go_wp2_with fail
            refine (dec13_any d hin1.2 _).mono ?_
            rintro e w1 ⟨rfl, hb1⟩
            go_wp2_with fail
            exact HF.out _ _ _ rfl (by rw [HX2.out, ← HX1.out]; simp) (hb.trans (hb1.mono hb.size))
        · have w1 : whoB t = Lib.itoa t := by rw [whoB, if_neg ht1]
          have e3 : (t == -1) = false := by simpa using ht1
          rw [w1] at HF
          obtain ⟨X2, hX2⟩ : ∃ X2 : List UInt8, X2 = X1 ++ Lib.itoa t := ⟨_, rfl⟩
          have add2 : ∀ W, (Op.stringOp .add ⟨X1.toArray⟩ ⟨(Lib.itoa t).toArray⟩).run Tryd.prog W = .ok (.string ⟨X2.toArray⟩) W := fun W => hX2 ▸ run_cat X1 (Lib.itoa t) (by omega) W
          have hl2 : X2.length ≤ 44 * l.length + 22 := by rw [hX2]; simp; omega
          have HX2 := Lib.hid hX2
          clear hX2 w1
          by_cases hd0 : d = 0
          · have e4 : (d != 0) = false := by simp [hd0]
            have w2 : caseB d = [] := by rw [caseB, if_pos hd0]
            rw [w2] at HF
            clear w2 il1 il2 hl1 hl2 hXl
            go_wp2_with fail
            refine (dec13_any t hin1.1 _).mono ?_
            rintro e w1 ⟨rfl, hb1⟩
            have hc1' := (hb1.cell (p := ⟨b, off + k * 2 + 1, none⟩) (by have := hb.size; show b < _; omega)).trans hc1
            go_wp2_with fail
            exact HF.out X2 _ _ rfl (by rw [HX2.out, ← HX1.out]; simp) (hb.trans (hb1.mono hb.size))
          · have e4 : (d != 0) = true := by simpa using hd0
            have w2 : caseB d = 46 :: Lib.itoa d := by rw [caseB, if_neg hd0]
            rw [w2] at HF
            have add3 : ∀ W, (Op.stringOp .add ⟨#[46]⟩ ⟨(Lib.itoa d).toArray⟩).run Tryd.prog W = .ok (.string ⟨(46 :: Lib.itoa d).toArray⟩) W := fun W => run_cat [46] (Lib.itoa d) (by simp; omega) W
            have add4 : ∀ W, (Op.stringOp .add ⟨X2.toArray⟩ ⟨(46 :: Lib.itoa d).toArray⟩).run Tryd.prog W = .ok (.string ⟨(X2 ++ (46 :: Lib.itoa d)).toArray⟩) W := fun W => run_cat X2 (46 :: Lib.itoa d) (by simp; omega) W
            clear w2 il1 il2 hl1 hl2 hXl
            go_wp2_with fail
            refine (dec13_any t hin1.1 _).mono ?_
            rintro e w1 ⟨rfl, hb1⟩
            have hb1' := hb.trans (hb1.mono hb.size)
            have hc1' := (hb1.cell (p := ⟨b, off + k * 2 + 1, none⟩) (by have := hb.size; show b < _; omega)).trans hc1
            go_wp2_with fail
            refine (dec13_any d hin1.2 _).mono ?_
            rintro e w2 ⟨rfl, hb2⟩
            go_wp2_with fail
            exact HF.out _ _ _ rfl (by rw [HX2.out, ← HX1.out]; simp) (hb1'.trans (hb2.mono hb1'.size))
      · have e1 : decide (0 < k) = true := by simp; omega
        have e2 : decide ((0 : Int) < (k : Int)) = true := by simp; omega
        have hs0 : (if 0 < k then [32] else ([] : List UInt8)) = [32] := if_pos (by omega)
        rw [hs0] at HF
        obtain ⟨X1, hX1⟩ : ∃ X1 : List UInt8, X1 = X ++ [32] := ⟨_, rfl⟩
        have hl1 : X1.length ≤ 44 * l.length + 1 := by rw [hX1]; simp; omega
        have HX1 := Lib.hid hX1.symm
        have add1 : ∀ W, (Op.stringOp .add ⟨X.toArray⟩ ⟨#[32]⟩).run Tryd.prog W = .ok (.string ⟨X1.toArray⟩) W := fun W => hX1 ▸ run_cat X [32] (by simp; omega) W
        clear hX1 hs0
        by_cases ht1 : t = -1
        · have w1 : whoB t = [99, 108, 111, 99, 107] := by rw [whoB, if_pos ht1]
          have e3 : (t == -1) = true := by simp [ht1]
          have hw0 : (99 :: 108 :: 111 :: 99 :: 107 :: []).length ≤ 21 := by simp
          rw [w1] at HF
          obtain ⟨X2, hX2⟩ : ∃ X2 : List UInt8, X2 = X1 ++ [99, 108, 111, 99, 107] := ⟨_, rfl⟩
          have add2 : ∀ W, (Op.stringOp .add ⟨X1.toArray⟩ ⟨#[99, 108, 111, 99, 107]⟩).run Tryd.prog W = .ok (.string ⟨X2.toArray⟩) W := fun W => hX2 ▸ run_cat X1 [99, 108, 111, 99, 107] (by simp; omega) W
          have hl2 : X2.length ≤ 44 * l.length + 22 := by rw [hX2]; simp; omega
          have HX2 := Lib.hid hX2
          clear hX2 w1
          by_cases hd0 : d = 0
          · have e4 : (d != 0) = false := by simp [hd0]
            have w2 : caseB d = [] := by rw [caseB, if_pos hd0]
            rw [w2] at HF
            clear w2 il1 il2 hl1 hl2 hXl
            go_wp2_with fail
            exact HF.out X2 _ _ rfl (by rw [HX2.out, ← HX1.out]; simp) hb
          · have e4 : (d != 0) = true := by simpa using hd0
            have w2 : caseB d = 46 :: Lib.itoa d := by rw [caseB, if_neg hd0]
            rw [w2] at HF
            have add3 : ∀ W, (Op.stringOp .add ⟨#[46]⟩ ⟨(Lib.itoa d).toArray⟩).run Tryd.prog W = .ok (.string ⟨(46 :: Lib.itoa d).toArray⟩) W := fun W => run_cat [46] (Lib.itoa d) (by simp; omega) W
            have add4 : ∀ W, (Op.stringOp .add ⟨X2.toArray⟩ ⟨(46 :: Lib.itoa d).toArray⟩).run Tryd.prog W = .ok (.string ⟨(X2 ++ (46 :: Lib.itoa d)).toArray⟩) W := fun W => run_cat X2 (46 :: Lib.itoa d) (by simp; omega) W
            clear w2 il1 il2 hl1 hl2 hXl
            go_wp2_with fail
            refine (dec13_any d hin1.2 _).mono ?_
            rintro e w1 ⟨rfl, hb1⟩
            go_wp2_with fail
            exact HF.out _ _ _ rfl (by rw [HX2.out, ← HX1.out]; simp) (hb.trans (hb1.mono hb.size))
        · have w1 : whoB t = Lib.itoa t := by rw [whoB, if_neg ht1]
          have e3 : (t == -1) = false := by simpa using ht1
          rw [w1] at HF
          obtain ⟨X2, hX2⟩ : ∃ X2 : List UInt8, X2 = X1 ++ Lib.itoa t := ⟨_, rfl⟩
          have add2 : ∀ W, (Op.stringOp .add ⟨X1.toArray⟩ ⟨(Lib.itoa t).toArray⟩).run Tryd.prog W = .ok (.string ⟨X2.toArray⟩) W := fun W => hX2 ▸ run_cat X1 (Lib.itoa t) (by omega) W
          have hl2 : X2.length ≤ 44 * l.length + 22 := by rw [hX2]; simp; omega
          have HX2 := Lib.hid hX2
          clear hX2 w1
          by_cases hd0 : d = 0
          · have e4 : (d != 0) = false := by simp [hd0]
            have w2 : caseB d = [] := by rw [caseB, if_pos hd0]
            rw [w2] at HF
            clear w2 il1 il2 hl1 hl2 hXl
            go_wp2_with fail
            refine (dec13_any t hin1.1 _).mono ?_
            rintro e w1 ⟨rfl, hb1⟩
            have hc1' := (hb1.cell (p := ⟨b, off + k * 2 + 1, none⟩) (by have := hb.size; show b < _; omega)).trans hc1
            go_wp2_with fail
            exact HF.out X2 _ _ rfl (by rw [HX2.out, ← HX1.out]; simp) (hb.trans (hb1.mono hb.size))
          · have e4 : (d != 0) = true := by simpa using hd0
            have w2 : caseB d = 46 :: Lib.itoa d := by rw [caseB, if_neg hd0]
            rw [w2] at HF
            have add3 : ∀ W, (Op.stringOp .add ⟨#[46]⟩ ⟨(Lib.itoa d).toArray⟩).run Tryd.prog W = .ok (.string ⟨(46 :: Lib.itoa d).toArray⟩) W := fun W => run_cat [46] (Lib.itoa d) (by simp; omega) W
            have add4 : ∀ W, (Op.stringOp .add ⟨X2.toArray⟩ ⟨(46 :: Lib.itoa d).toArray⟩).run Tryd.prog W = .ok (.string ⟨(X2 ++ (46 :: Lib.itoa d)).toArray⟩) W := fun W => run_cat X2 (46 :: Lib.itoa d) (by simp; omega) W
            clear w2 il1 il2 hl1 hl2 hXl
            go_wp2_with fail
            refine (dec13_any t hin1.1 _).mono ?_
            rintro e w1 ⟨rfl, hb1⟩
            have hb1' := hb.trans (hb1.mono hb.size)
            have hc1' := (hb1.cell (p := ⟨b, off + k * 2 + 1, none⟩) (by have := hb.size; show b < _; omega)).trans hc1
            go_wp2_with fail
            refine (dec13_any d hin1.2 _).mono ?_
            rintro e w2 ⟨rfl, hb2⟩
            go_wp2_with fail
            exact HF.out _ _ _ rfl (by rw [HX2.out, ← HX1.out]; simp) (hb1'.trans (hb2.mono hb1'.size))
    · have hd1 : decide ((k : Int) < (l.length : Int)) = false := decide_eq_false (by omega)
      have hd2 : decide (k < l.length) = false := decide_eq_false hlt
      obtain rfl : k = l.length := by omega
      go_wp2_with fail
      go_ret
      exact ⟨by rw [show textB l = X from by rw [hX.out, List.take_length]]; rfl, hb⟩
end Go.Proofs.YtaficbkaofhjeaaDoor
