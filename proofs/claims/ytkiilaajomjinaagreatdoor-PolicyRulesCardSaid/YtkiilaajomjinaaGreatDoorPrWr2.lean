/- expr.argument, walked, given write. Conditions: the expression is valid and lies below the builder. -/
import Derived.Test.YtkiilaajomjinaaGreatDoorPrWr1
import Derived.Test.YtkiilaajomjinaaGreatDoorShelf
import Derived.Test.YtkiilaajomjinaaGreatDoorPrTyE
import Derived.Test.YtkiilaajomjinaaGreatDoorPrOps
import Derived.Test.YtkiilaajomjinaaGreatDoorPrLexM
import Derived.Laws.RangeAny
import Derived.Lib.IndexBytes
namespace Go.Proofs.YtkiilaajomjinaaGreatDoor
open Go.Shelf Go.RowKit
/-- Builder b holds those bytes. -/
def Bld (B b : Nat) (l : List UInt8) (W : World) : Prop := Lib.IsBuilder 67 5 B b (Lib.byteCells l) W
theorem byteCells_app (l m : List UInt8) : Lib.byteCells (l ++ m) = Lib.byteCells l ++ Lib.byteCells m := by simp [Lib.byteCells]
theorem byteCells_len (l : List UInt8) : (Lib.byteCells l).length = l.length := by simp [Lib.byteCells]
theorem Bld.parts {B b : Nat} {l : List UInt8} {W : World} (h : Bld B b l W) : ∃ p v, B ≤ b ∧ W.heap[b]? = some (.cells #[p, v] 67 (0, 0)) ∧ W.ownsRow B 5 1 v (Lib.byteCells l).length (Lib.byteCells l) ∧ v.ownBlock ≠ some b ∧ (p = .pointer none ∨ p = .pointer (some ⟨b, 0, none⟩)) := by
  rcases h with ⟨h1, v, h2, h3, h4⟩ | ⟨h1, v, h2, h3, h4⟩
  · exact ⟨_, v, h1, h2, h3, h4, .inl rfl⟩
  · exact ⟨_, v, h1, h2, h3, h4, .inr rfl⟩
theorem Bld.lt {B b : Nat} {l : List UInt8} {W : World} (h : Bld B b l W) : b < W.heap.size := by
  obtain ⟨p, v, h1, h2, -⟩ := h.parts
  exact (Array.getElem?_eq_some_iff.1 h2).1
theorem Bld.old {B b : Nat} {l : List UInt8} {w W : World} (h : Bld B b l w) (hb : Below w.heap.size w W) : Bld B b l W := by
  have hlt := h.lt
  obtain ⟨p, v, h1, h2, h3, h4, h5⟩ := h.parts
  have h6 := (hb.block b hlt).trans h2
  have h7 := own_next h3 hb
  rcases h5 with rfl | rfl
  · exact .inl ⟨h1, v, h6, h7, h4⟩
  · exact .inr ⟨h1, v, h6, h7, h4⟩
theorem Bld.apart {B b : Nat} {l : List UInt8} {w W : World} (h : Bld B b l w) (hb : Below w.heap.size w W) {X : Nat} (h1 : w.heap.size ≤ X) (h2 : X < W.heap.size) : Apart b W X := by
  have hlt := h.lt
  obtain ⟨p, v, -, hk, ho, -, -⟩ := h.parts
  refine ⟨h2, by omega, fun q u T fz hh => ?_⟩
  rw [hb.block b hlt, hk] at hh
  injection hh with hh
  injection hh with hh
  have h3 : v = u := by simp at hh; exact hh.2
  subst h3
  intro e
  have := (ho.lt X e).2
  omega
theorem Bld.put {B b : Nat} {l m : List UInt8} {cs : List Value} {W : World} (h : Lib.BuilderAt 67 5 B b (.pointer (some ⟨b, 0, none⟩)) (Lib.byteCells l ++ cs) W) (hc : cs = Lib.byteCells m) : Bld B b (l ++ m) W := by
  subst hc
  unfold Bld
  rw [byteCells_app]
  exact .inr h
/-- What write and argument give: the text is put behind what the builder holds. -/
def WrP (B b : Nat) (l t : List UInt8) (w : World) : Ending → World → Prop := fun e W => e = .returned (.tuple #[]) ∧ Bld B b (l ++ t) W ∧ Wrote B b w W
/-- The library's table of powers, in all that a call may make of a world. -/
def TabK (B : Nat) (w : World) : Prop := ∀ W, Below B w W → Lib.TabIs Tryz.prog W "internal/strconv.uint64pow10" .u64 Lib.pow10Tab
theorem TabK.next {B : Nat} {w W : World} (h : TabK B w) (hb : Below B w W) : TabK B W := fun W' hb' => h W' (hb.trans hb')
/-- write, of one expression. -/
def WrC (e : Ex) : Prop := ∀ (lo : Nat) (vs : List Value) (B b : Nat) (l : List UInt8) (w : World), Good e → LiesE w lo vs e → lo ≤ B → B ≤ w.heap.size → Bld B b l w → TabK B w → l.length + (wrE e).length ≤ 140737488355328 →
  Calls Tryz.prog 62 #[.pointer (some ⟨b, 0, none⟩), .agg vs.toArray] w (WrP B b l (wrE e) w)
set_option maxRecDepth 100000 in
set_option maxHeartbeats 3200000 in
theorem arg_of (e : Ex) (hW : WrC e) (lo : Nat) (vs : List Value) (B b : Nat) (l : List UInt8) (w : World) (lim : Nat) (hg : Good e) (h : LiesE w lo vs e) (hlo : lo ≤ B) (hB : B ≤ w.heap.size) (hbd : Bld B b l w) (hT : TabK B w)
    (hlen : l.length + (parB lim (precE e, wrE e)).length ≤ 140737488355328) : Calls Tryz.prog 94 #[.pointer (some ⟨b, 0, none⟩), .agg vs.toArray, .int .i64 (lim : Nat)] w (WrP B b l (parB lim (precE e, wrE e)) w) := by
  have hbin : e.kind = 4 → 3 ≤ e.op ∧ e.op ≤ 15 := by
    intro hk
    cases form_of hg with
    | num v h => cases hk
    | name n h => cases hk
    | un o a h => cases hk
    | bin o a c h2 => exact h2
  obtain ⟨A, c, -, e1, -⟩ := h.form
  unfold exC at e1
  have HW := Lib.hid (fun (W : World) (l' : List UInt8) (hb : Below B w W) (hbd : Bld B b l' W) hl => hW lo vs B b l' W hg (h.below' hb hlo) hlo (Nat.le_trans hB hb.size) hbd (hT.next hb) hl)
  have HP := Lib.hid (fun W => prec_any e.kind e.op e.name e.val A e.args.length c hbin W)
  have hlt := hbd.lt
  unfold WrP at HW ⊢
  unfold Ret at HP
  have HPR : Hid (parB lim (precE e, wrE e) = if precE e < lim then 40 :: (wrE e ++ [41]) else wrE e) := Lib.hid rfl
  change Hid (∀ W, Calls Tryz.prog 140 #[.agg #[.int .i64 e.kind, .int .i64 e.op, .string e.name, .int .i64 e.val, .slice A e.args.length c]] W fun e' W' => e' = .returned (.int .i64 (precE e : Nat)) ∧ Below W.heap.size W W') at HP
  generalize parB lim (precE e, wrE e) = T at HPR hlen ⊢
  generalize precE e = pr at HP HPR
  rw [e1] at HW ⊢
  have hO := one_new w #[.int .i64 e.kind, .int .i64 e.op, .string e.name, .int .i64 e.val, .slice A e.args.length c] 51
  generalize e.kind = k at HP HW hO ⊢
  generalize e.op = o at HP HW hO ⊢
  generalize e.name = n at HP HW hO ⊢
  generalize e.val = v at HP HW hO ⊢
  generalize e.args.length = m at HP HW hO ⊢
  generalize wrE e = t at HW HPR
  clear hW h hbin e1 hg hT
  have HBD := Lib.hid hbd
  have HBS : Hid (B ≤ w.heap.size) := Lib.hid hB
  clear hbd
  by_cases hpr : pr < lim
  · have g1 : decide ((pr : Int) < (lim : Int)) = true := decide_eq_true (by omega)
    have g2 : decide (pr < lim) = true := decide_eq_true hpr
    have HV : Hid (T = 40 :: (t ++ [41])) := Lib.hid (by rw [HPR.out, if_pos hpr])
    have HL : Hid (l.length + (t.length + 2) ≤ 140737488355328) := Lib.hid (by rw [HV.out] at hlen; simp at hlen; omega)
    clear hpr HPR hlen
    go_enter_defers Tryz.func94, Tryz.ntmps94
    go_upto_region 1 with fail
    have hz1 := hO.size
    generalize w.alloc _ = w1 at hO hz1 ⊢
    obtain ⟨X, hX⟩ : ∃ X, X = w.heap.size := ⟨_, rfl⟩
    have HX := Lib.hid hX
    have hbx := hO.fst
    have HB1 := Lib.hid hO.below
    rw [← hX] at hbx hz1 ⊢
    clear hX hO
    have HBX := Lib.hid hbx
    obtain ⟨d0, d1, d2, d3, d4⟩ := bx5 hbx
    clear hbx
    have HCA : Hid (∀ W2, Below w1.heap.size w1 W2 → Bld B b l W2 ∧ Apart b W2 X ∧ Below w.heap.size w W2 ∧ Bx W2 X [.int .i64 k, .int .i64 o, .string n, .int .i64 v, .slice A m c]) := Lib.hid (fun W2 hb => by
      have hb2 := HB1.out.trans (hb.mono HB1.out.size)
      exact ⟨HBD.out.old hb2, HBD.out.apart hb2 (by rw [HX.out]; exact Nat.le_refl _) (by have := hb.size; omega), hb2, HBX.out.below hb (by omega)⟩)
    go_wp2_with (go_at_call 140; refine (HP.out _).mono ?_; rintro e' W2 ⟨rfl, hb2⟩)
    obtain ⟨hbd2, hap2, hbw2, hbx2⟩ := HCA.out W2 hb2
    have hb2s : B ≤ W2.heap.size := Nat.le_trans HBS.out hbw2.size
    have HL1 : Hid ((Lib.byteCells l).length + 1 ≤ 140737488355328) := Lib.hid (by rw [byteCells_len]; have := HL.out; omega)
    refine (wByte B b (Lib.byteCells l) 40 W2 hbd2 HL1.out hb2s).mono ?_
    rintro e2 W3 ⟨rfl, hbd3, hw3⟩
    have HB3 := Lib.hid (Bld.put (m := [40]) hbd3 rfl)
    have hbx3 : Bx W3 X [.int .i64 k, .int .i64 o, .string n, .int .i64 v, .slice A m c] := fun j u hu => (cell_block (hw3.apart X hap2).1).trans (hbx2 j u hu)
    obtain ⟨y0, y1, y2, y3, y4⟩ := bx5 hbx3
    have HW3 : Hid (Wrote B b w W3) := Lib.hid ((Wrote.old hbw2 HBS.out hlt).trans hw3)
    clear d0 d1 d2 d3 d4 hbx2 hbx3 hbd2 hbd3 hap2 hb2 hbw2 hb2s hw3 HCA HL1
    have HL3 : Hid ((l ++ [40]).length + t.length ≤ 140737488355328) := Lib.hid (by rw [List.length_append]; have := HL.out; show l.length + 1 + t.length ≤ _; omega)
    go_wp2_with (go_at_call 62; refine (HW.out W3 (l ++ [40]) HW3.out.below HB3.out HL3.out).mono ?_; rintro e3 W4 ⟨rfl, hbd4, hw4⟩)
    have hW4 := HW3.out.trans hw4
    refine leaves_cons (f := 141) (args := #[.pointer (some ⟨b, 0, none⟩), .int .u8 41]) (by simp) (by simp [go_sem]) ?_
    refine (wByteD B b (Lib.byteCells (l ++ [40] ++ t)) 41 .returning W4 hbd4 (by rw [byteCells_len]; have := HL.out; simp; omega) (Nat.le_trans HBS.out hW4.below.size)).mono ?_
    rintro e4 u4 W5 ⟨rfl, rfl, hbd5, hw5⟩
    refine ⟨_, results_none rfl _ _ _, rfl, ?_, hW4.trans hw5⟩
    have h5 := Bld.put (m := [41]) hbd5 rfl
    rw [HV.out]
    have e5 : l ++ 40 :: (t ++ [41]) = l ++ [40] ++ t ++ [41] := by simp
    rw [e5]
    exact h5
  · have g1 : decide ((pr : Int) < (lim : Int)) = false := decide_eq_false (by omega)
    have g2 : decide (pr < lim) = false := decide_eq_false hpr
    have HV : Hid (T = t) := Lib.hid (by rw [HPR.out, if_neg hpr])
    have HL : Hid (l.length + t.length ≤ 140737488355328) := Lib.hid (by rw [HV.out] at hlen; exact hlen)
    clear hpr HPR hlen
    go_enter_defers Tryz.func94, Tryz.ntmps94
    go_upto_region 1 with fail
    have hz1 := hO.size
    generalize w.alloc _ = w1 at hO hz1 ⊢
    obtain ⟨X, hX⟩ : ∃ X, X = w.heap.size := ⟨_, rfl⟩
    have hbx := hO.fst
    have HB1 := Lib.hid hO.below
    rw [← hX] at hbx hz1 ⊢
    clear hX hO
    have HBX := Lib.hid hbx
    obtain ⟨d0, d1, d2, d3, d4⟩ := bx5 hbx
    clear hbx
    have HCA : Hid (∀ W2, Below w1.heap.size w1 W2 → Bld B b l W2 ∧ Below w.heap.size w W2 ∧ Bx W2 X [.int .i64 k, .int .i64 o, .string n, .int .i64 v, .slice A m c]) := Lib.hid (fun W2 hb => by
      have hb2 := HB1.out.trans (hb.mono HB1.out.size)
      exact ⟨HBD.out.old hb2, hb2, HBX.out.below hb (by omega)⟩)
    go_wp2_with (first | (go_at_call 140; refine (HP.out _).mono ?_; rintro e' W2 ⟨rfl, hb2⟩; have y0 := bx5 (HCA.out W2 hb2).2.2) | (go_at_call 62; refine (HW.out W2 l ((HCA.out W2 hb2).2.1.mono HBS.out) (HCA.out W2 hb2).1 HL.out).mono ?_; rintro e3 W4 ⟨rfl, hbd4, hw4⟩))
    refine ⟨_, results_none rfl _ _ _, rfl, by rw [HV.out]; exact hbd4, (Wrote.old (HCA.out W2 hb2).2.1 HBS.out hlt).trans hw4⟩
end Go.Proofs.YtkiilaajomjinaaGreatDoor

/- lexer.letter, digit, name$1 and end, walked. Conditions: none. -/
namespace Go.Proofs.YtkiilaajomjinaaGreatDoor
open Go.RowKit
set_option maxRecDepth 100000 in
theorem ltr_any (c : UInt8) (w : World) : Calls Tryz.prog 68 #[.int .u8 (c.toNat : Nat)] w (RetP (.bool (letB c)) w) := by
  have HL : Hid (letB c = (decide (97 ≤ c.toNat) && decide (c.toNat ≤ 122))) := Lib.hid rfl
  generalize letB c = b at HL ⊢
  generalize c.toNat = n at HL ⊢
  unfold RetP
  by_cases h1 : 97 ≤ n
  · have e1 : decide ((97 : Int) ≤ (n : Int)) = true := decide_eq_true (by omega)
    have e1b : decide ((n : Int) ≥ (97 : Int)) = true := decide_eq_true (by omega)
    have e2 : decide (97 ≤ n) = true := decide_eq_true h1
    by_cases h2 : n ≤ 122
    · have e3 : decide ((n : Int) ≤ (122 : Int)) = true := decide_eq_true (by omega)
      have e4 : decide (n ≤ 122) = true := decide_eq_true h2
      have HV : Hid (b = true) := Lib.hid (by rw [HL.out, e2, e4]; rfl)
      clear h1 h2 HL
      go_enter Tryz.func68, Tryz.ntmps68
      go_wp2_with fail
      go_ret
      exact ⟨by rw [HV.out]; rfl, rfl⟩
    · have e3 : decide ((n : Int) ≤ (122 : Int)) = false := decide_eq_false (by omega)
      have e4 : decide (n ≤ 122) = false := decide_eq_false h2
      have HV : Hid (b = false) := Lib.hid (by rw [HL.out, e2, e4]; rfl)
      clear h1 h2 HL
      go_enter Tryz.func68, Tryz.ntmps68
      go_wp2_with fail
      go_ret
      exact ⟨by rw [HV.out]; rfl, rfl⟩
  · have e1 : decide ((97 : Int) ≤ (n : Int)) = false := decide_eq_false (by omega)
    have e1b : decide ((n : Int) ≥ (97 : Int)) = false := decide_eq_false (by omega)
    have e2 : decide (97 ≤ n) = false := decide_eq_false h1
    have HV : Hid (b = false) := Lib.hid (by rw [HL.out, e2]; rfl)
    clear h1 HL
    go_enter Tryz.func68, Tryz.ntmps68
    go_wp2_with fail
    go_ret
    exact ⟨by rw [HV.out]; rfl, rfl⟩
set_option maxRecDepth 100000 in
theorem dig_any (c : UInt8) (w : World) : Calls Tryz.prog 70 #[.int .u8 (c.toNat : Nat)] w (RetP (.bool (digB c)) w) := by
  have HL : Hid (digB c = (decide (48 ≤ c.toNat) && decide (c.toNat ≤ 57))) := Lib.hid rfl
  generalize digB c = b at HL ⊢
  generalize c.toNat = n at HL ⊢
  unfold RetP
  by_cases h1 : 48 ≤ n
  · have e1 : decide ((48 : Int) ≤ (n : Int)) = true := decide_eq_true (by omega)
    have e1b : decide ((n : Int) ≥ (48 : Int)) = true := decide_eq_true (by omega)
    have e2 : decide (48 ≤ n) = true := decide_eq_true h1
    by_cases h2 : n ≤ 57
    · have e3 : decide ((n : Int) ≤ (57 : Int)) = true := decide_eq_true (by omega)
      have e4 : decide (n ≤ 57) = true := decide_eq_true h2
      have HV : Hid (b = true) := Lib.hid (by rw [HL.out, e2, e4]; rfl)
      clear h1 h2 HL
      go_enter Tryz.func70, Tryz.ntmps70
      go_wp2_with fail
      go_ret
      exact ⟨by rw [HV.out]; rfl, rfl⟩
    · have e3 : decide ((n : Int) ≤ (57 : Int)) = false := decide_eq_false (by omega)
      have e4 : decide (n ≤ 57) = false := decide_eq_false h2
      have HV : Hid (b = false) := Lib.hid (by rw [HL.out, e2, e4]; rfl)
      clear h1 h2 HL
      go_enter Tryz.func70, Tryz.ntmps70
      go_wp2_with fail
      go_ret
      exact ⟨by rw [HV.out]; rfl, rfl⟩
  · have e1 : decide ((48 : Int) ≤ (n : Int)) = false := decide_eq_false (by omega)
    have e1b : decide ((n : Int) ≥ (48 : Int)) = false := decide_eq_false (by omega)
    have e2 : decide (48 ≤ n) = false := decide_eq_false h1
    have HV : Hid (b = false) := Lib.hid (by rw [HL.out, e2]; rfl)
    clear h1 HL
    go_enter Tryz.func70, Tryz.ntmps70
    go_wp2_with fail
    go_ret
    exact ⟨by rw [HV.out]; rfl, rfl⟩
set_option maxRecDepth 100000 in
theorem in_any (c : UInt8) (w : World) : Calls Tryz.prog 105 #[.int .u8 (c.toNat : Nat)] w (RetP (.bool (inB c)) w) := by
  have HI : Hid (inB c = (letB c || digB c || c.toNat == 95)) := Lib.hid rfl
  have HA := Lib.hid (fun W => ltr_any c W)
  have HB := Lib.hid (fun W => dig_any c W)
  generalize inB c = b at HI ⊢
  generalize letB c = l at HI HA
  generalize digB c = d at HI HB
  generalize c.toNat = n at HI HA HB ⊢
  unfold RetP at HA HB ⊢
  cases l with
  | true =>
    have HV : Hid (b = true) := Lib.hid (by rw [HI.out]; rfl)
    clear HI
    go_enter Tryz.func105, Tryz.ntmps105
    go_wp2_with (go_at_call 68; refine (HA.out _).mono ?_; rintro e W5 ⟨rfl, hw⟩; obtain rfl : w = W5 := hw.symm)
    go_ret
    exact ⟨by rw [HV.out]; rfl, rfl⟩
  | false =>
    cases d with
    | true =>
      have HV : Hid (b = true) := Lib.hid (by rw [HI.out]; rfl)
      clear HI
      go_enter Tryz.func105, Tryz.ntmps105
      go_wp2_with (first | (go_at_call 68; refine (HA.out _).mono ?_; rintro e W5 ⟨rfl, hw⟩; obtain rfl : w = W5 := hw.symm) | (go_at_call 70; refine (HB.out _).mono ?_; rintro e W5 ⟨rfl, hw⟩; obtain rfl : w = W5 := hw.symm))
      go_ret
      exact ⟨by rw [HV.out]; rfl, rfl⟩
    | false =>
      by_cases h95 : n = 95
      · have e1 : ((n : Int) == 95) = true := by simpa using (by omega : (n : Int) = 95)
        have e2 : (n == 95) = true := by simpa using h95
        have HV : Hid (b = true) := Lib.hid (by rw [HI.out, e2]; rfl)
        clear HI h95
        go_enter Tryz.func105, Tryz.ntmps105
        go_wp2_with (first | (go_at_call 68; refine (HA.out _).mono ?_; rintro e W5 ⟨rfl, hw⟩; obtain rfl : w = W5 := hw.symm) | (go_at_call 70; refine (HB.out _).mono ?_; rintro e W5 ⟨rfl, hw⟩; obtain rfl : w = W5 := hw.symm))
        go_ret
        exact ⟨by rw [HV.out]; rfl, rfl⟩
      · have e1 : ((n : Int) == 95) = false := by simpa using (by omega : ¬ (n : Int) = 95)
        have e2 : (n == 95) = false := by simpa using h95
        have HV : Hid (b = false) := Lib.hid (by rw [HI.out, e2]; rfl)
        clear HI h95
        go_enter Tryz.func105, Tryz.ntmps105
        go_wp2_with (first | (go_at_call 68; refine (HA.out _).mono ?_; rintro e W5 ⟨rfl, hw⟩; obtain rfl : w = W5 := hw.symm) | (go_at_call 70; refine (HB.out _).mono ?_; rintro e W5 ⟨rfl, hw⟩; obtain rfl : w = W5 := hw.symm))
        go_ret
        exact ⟨by rw [HV.out]; rfl, rfl⟩
theorem run_at (s : ByteArray) (k : Nat) (h : k < s.size) : s.data.toList.drop k = s[k] :: s.data.toList.drop (k + 1) := by
  have hl : k < s.data.toList.length := by rw [Array.length_toList]; exact h
  rw [List.drop_eq_getElem_cons hl]
  rfl
set_option maxRecDepth 100000 in
set_option maxHeartbeats 1600000 in
theorem end_any (F : Nat) (p : UInt8 → Bool) (eg : ∀ (args : Array Value) (W : World), (callFunc F args).run Tryz.prog W = .ok (.enter F args) W) (hF : ∀ c W, Calls Tryz.prog F #[.int .u8 ((c : UInt8).toNat : Nat)] W (RetP (.bool (p c)) W))
    (s : ByteArray) (at_ : Nat) (ha : at_ ≤ s.size) (hs : s.size ≤ 140737488355328) (w : World) :
    Calls Tryz.prog 104 #[.string s, .int .i64 (at_ : Nat), .func (.func F) #[] #[]] w (RetP (.int .i64 (at_ + runN p (s.data.toList.drop at_) : Nat)) w) := by
  obtain ⟨R, hR⟩ : ∃ R, R = at_ + runN p (s.data.toList.drop at_) := ⟨_, rfl⟩
  have HF := Lib.hid hF
  have HR0 := Lib.hid hR
  rw [← hR]
  unfold RetP at HF ⊢
  clear hF hR
  go_enter Tryz.func104, Tryz.ntmps104
  go_wp2_with fail
  go_loopw [1] (fun i wr => wr = w ∧ ∃ k : Nat, i = .int .i64 (k : Nat) ∧ k ≤ s.size ∧ Hid (R = k + runN p (s.data.toList.drop k))) (fun i _ => s.size - (intOf i).toNat)
  case atStart => exact ⟨rfl, at_, rfl, ha, HR0⟩
  case round =>
    obtain ⟨rfl, k, rfl, hk, hrn⟩ := hrel
    have hk0 : (0 : Int) ≤ (k : Int) := by omega
    have hwr1 : IntKind.i64.wrap ((k : Int) + 1) = (k : Int) + 1 := by rw [IntKind.wrap_i64]; omega
    by_cases hlt : k < s.size
    · have hd1 : decide ((k : Int) < (s.size : Int)) = true := decide_eq_true (by omega)
      have hd2 : decide (k < s.size) = true := decide_eq_true hlt
      have hkl : (k : Int) < (s.size : Int) := by omega
      have HP := Lib.hid (HF.out s[k])
      have HRN : Hid (R = k + (if p s[k] then runN p (s.data.toList.drop (k + 1)) + 1 else 0)) := Lib.hid (by rw [hrn.out, run_at s k hlt, runN])
      generalize p s[k] = b at HP HRN
      clear hrn
      cases b with
      | true =>
        have HR2 : Hid (R = (k + 1) + runN p (s.data.toList.drop (k + 1))) := Lib.hid (by rw [HRN.out, if_pos rfl]; omega)
        clear HRN
        go_wp2_with fail
        refine (HP.out _).mono ?_
        rintro e W5 ⟨rfl, hw⟩
        obtain rfl : wr = W5 := hw.symm
        go_wp2_with fail
        exact ⟨⟨by first | rfl | exact True.intro, k + 1, by go_num, by omega, HR2⟩, by simp [intOf]; omega⟩
      | false =>
        have HR2 : Hid (R = k) := Lib.hid (by rw [HRN.out]; simp)
        clear HRN
        go_wp2_with fail
        refine (HP.out _).mono ?_
        rintro e W5 ⟨rfl, hw⟩
        obtain rfl : wr = W5 := hw.symm
        go_wp2_with fail
        go_ret
        exact ⟨by rw [HR2.out]; rfl, rfl⟩
    · have hd1 : decide ((k : Int) < (s.size : Int)) = false := decide_eq_false (by omega)
      have hd2 : decide (k < s.size) = false := decide_eq_false hlt
      have HR2 : Hid (R = k) := Lib.hid (by rw [hrn.out, List.drop_of_length_le (by rw [Array.length_toList]; show s.size ≤ k; omega)]; rfl)
      clear hrn
      go_wp2_with fail
      go_ret
      exact ⟨by rw [HR2.out]; rfl, rfl⟩
end Go.Proofs.YtkiilaajomjinaaGreatDoor

/- lexer.blank, walked. Conditions: none. -/
namespace Go.Proofs.YtkiilaajomjinaaGreatDoor
open Go.RowKit
theorem get_in (s : ByteArray) (k : Nat) (h : k < s.size) : s.get! k = s[k]'h := by
  simp [ByteArray.get!, getElem!_pos, h]
  rfl
/-- What one letter that is no ASCII letter takes are bytes that are none. -/
theorem decode_all (s : ByteArray) (pos : Nat) (h : pos < s.size) (ha : 128 ≤ (s[pos]'h).toNat) : pos + (Utf8.decode s pos).2 ≤ s.size ∧ ∀ j, j < (Utf8.decode s pos).2 → ∀ (hj : pos + j < s.size), 128 ≤ (s[pos + j]'hj).toNat := by
  have hn : ¬ (s[pos]'h).toNat < 128 := by omega
  have h0 : ∀ (hj : pos + 0 < s.size), 128 ≤ (s[pos + 0]'hj).toNat := fun _ => ha
  have hk : ∀ k, (decide (pos + k < s.size) && (s.get! (pos + k)).toNat / 64 == 2) = true → pos + k < s.size ∧ ∀ (hj : pos + k < s.size), 128 ≤ (s[pos + k]'hj).toNat := by
    intro k hk
    simp only [Bool.and_eq_true, decide_eq_true_eq, beq_iff_eq] at hk
    refine ⟨hk.1, fun hj => ?_⟩
    rw [get_in s (pos + k) hj] at hk
    omega
  simp only [Utf8.decode, get_at s pos h, hn, if_false]
  have h1 := hk 1
  have h2 := hk 2
  have h3 := hk 3
  have one : pos + 1 ≤ s.size ∧ ∀ j, j < 1 → ∀ (hj : pos + j < s.size), 128 ≤ (s[pos + j]'hj).toNat := ⟨by omega, fun j hj hp => by
    obtain rfl : j = 0 := by omega
    exact h0 hp⟩
  split
  · next hc =>
    rw [Bool.and_eq_true] at hc
    obtain ⟨q1, p1⟩ := h1 hc.2
    split
    · refine ⟨by show pos + 2 ≤ s.size; omega, fun j (hj : j < 2) hp => ?_⟩
      have : j = 0 ∨ j = 1 := by omega
      rcases this with rfl | rfl
      · exact h0 hp
      · exact p1 hp
    · exact one
  · split
    · next hc =>
      rw [Bool.and_eq_true, Bool.and_eq_true] at hc
      obtain ⟨q1, p1⟩ := h1 hc.1.2
      obtain ⟨q2, p2⟩ := h2 hc.2
      split
      · refine ⟨by show pos + 3 ≤ s.size; omega, fun j (hj : j < 3) hp => ?_⟩
        have : j = 0 ∨ j = 1 ∨ j = 2 := by omega
        rcases this with rfl | rfl | rfl
        · exact h0 hp
        · exact p1 hp
        · exact p2 hp
      · exact one
    · split
      · next hc =>
        rw [Bool.and_eq_true, Bool.and_eq_true, Bool.and_eq_true] at hc
        obtain ⟨q1, p1⟩ := h1 hc.1.1.2
        obtain ⟨q2, p2⟩ := h2 hc.1.2
        obtain ⟨q3, p3⟩ := h3 hc.2
        split
        · refine ⟨by show pos + 4 ≤ s.size; omega, fun j (hj : j < 4) hp => ?_⟩
          have : j = 0 ∨ j = 1 ∨ j = 2 ∨ j = 3 := by omega
          rcases this with rfl | rfl | rfl | rfl
          · exact h0 hp
          · exact p1 hp
          · exact p2 hp
          · exact p3 hp
        · exact one
      · exact one
/-- In a comment such bytes are passed. -/
theorem skip_high (s : ByteArray) : ∀ (n pos : Nat), pos + n ≤ s.size → (∀ j, j < n → ∀ (hj : pos + j < s.size), 128 ≤ (s[pos + j]'hj).toNat) → skipN true (s.data.toList.drop pos) = n + skipN true (s.data.toList.drop (pos + n))
  | 0, pos, _, _ => by simp
  | n + 1, pos, h, hb => by
    have hlt : pos < s.size := by omega
    have h0 : 128 ≤ (s[pos]'hlt).toNat := hb 0 (by omega) hlt
    rw [run_at s pos hlt, skipN, if_neg (by omega), if_pos rfl, skip_high s n (pos + 1) (by omega) (fun j hj hp => by
      have e : pos + 1 + j = pos + (j + 1) := by omega
      have := hb (j + 1) (by omega) (by omega)
      simpa only [e] using this)]
    rw [show pos + 1 + n = pos + (n + 1) from by omega]
    omega
set_option maxRecDepth 100000 in
set_option maxHeartbeats 3200000 in
theorem blank_any (s : ByteArray) (at_ : Nat) (ha : at_ ≤ s.size) (hs : s.size ≤ 140737488355328) (w : World) : Calls Tryz.prog 66 #[.string s, .int .i64 (at_ : Nat)] w (Ret (.int .i64 (at_ + skipN false (s.data.toList.drop at_) : Nat)) w) := by
  obtain ⟨R, hR⟩ : ∃ R, R = at_ + skipN false (s.data.toList.drop at_) := ⟨_, rfl⟩
  have HR := Lib.hid hR
  rw [← hR]
  clear hR
  have ha0 : (0 : Int) ≤ (at_ : Int) := by omega
  have ha1 : (at_ : Int) ≤ (s.size : Int) := by omega
  have HSZ : Hid ((s.extract at_ s.size).size = s.size - at_) := Lib.hid (by simp)
  have HDT : Hid ((s.extract at_ s.size).data.toList = s.data.toList.drop at_) := Lib.hid (Lib.extract_to_end s at_)
  unfold Ret
  go_enter Tryz.func66, Tryz.ntmps66
  go_wp2_with fail
  go_step3
  go_wp2_with fail
  go_step3
  go_wp2_with fail
  generalize s.extract at_ s.size = s2 at HSZ HDT ⊢
  have hbw : ∀ p : Nat, Below w.heap.size w (w.iter s2 p) := fun p => below_alloc w _
  have HBW := Lib.hid hbw
  clear hbw
  go_loopw [4, 5] (fun r5 cmv wr => r5 = .int .i64 0 ∧ ∃ (cm : Bool) (pos : Nat), cmv = .bool cm ∧ wr = w.iter s2 pos ∧ pos ≤ s2.size ∧ Hid (R = at_ + pos + skipN cm (s2.data.toList.drop pos))) (fun _ _ wr => s2.size - wr.iterPos w.heap.size)
  case atStart => exact ⟨rfl, false, 0, rfl, rfl, Nat.zero_le _, Lib.hid (by rw [HR.out, HDT.out]; simp)⟩
  case round =>
    obtain ⟨rfl, cm, pos, rfl, rfl, hp, HS⟩ := hrel
    by_cases hlt : pos < s2.size
    · have HPL : Hid (at_ + pos < at_ + s2.size ∧ at_ + s2.size ≤ s.size) := Lib.hid (by have := HSZ.out; omega)
      by_cases hc : (s2[pos]'hlt).toNat < 128
      · have hnx := fun ty => run_next_ascii (P := Tryz.prog) w s2 pos ty hlt hc
        have HST : Hid (skipN cm (s2.data.toList.drop pos) = if (s2[pos]'hlt).toNat = 10 then skipN false (s2.data.toList.drop (pos + 1)) + 1 else if cm then skipN true (s2.data.toList.drop (pos + 1)) + 1 else if (s2[pos]'hlt).toNat = 35 then skipN true (s2.data.toList.drop (pos + 1)) + 1 else if (s2[pos]'hlt).toNat = 32 ∨ (s2[pos]'hlt).toNat = 9 then skipN false (s2.data.toList.drop (pos + 1)) + 1 else 0) := Lib.hid (by rw [run_at s2 pos hlt, skipN])
        generalize (s2[pos]'hlt).toNat = c at hc hnx HST
        have HBD : Hid (at_ + pos ≤ 140737488355328) := Lib.hid (by have := HPL.out; omega)
        have hbd := HBD.out
        by_cases c10 : c = 10
        · have e1 : ((c : Int) == 10) = true := by simpa using (by omega : (c : Int) = 10)
          have e2 : (c == 10) = true := by simpa using c10
          have HN : Hid (R = at_ + (pos + 1) + skipN false (s2.data.toList.drop (pos + 1))) := Lib.hid (by rw [HS.out, HST.out, if_pos c10]; omega)
          clear HST c10 HS
          go_wp2_with fail
          exact ⟨⟨rfl, false, pos + 1, rfl, rfl, by omega, HN⟩, by simp; omega⟩
        · have e1 : ((c : Int) == 10) = false := by simpa using (by omega : ¬ (c : Int) = 10)
          have e2 : (c == 10) = false := by simpa using c10
          cases cm with
          | true =>
            have HN : Hid (R = at_ + (pos + 1) + skipN true (s2.data.toList.drop (pos + 1))) := Lib.hid (by rw [HS.out, HST.out, if_neg c10, if_pos rfl]; omega)
            clear HST c10 HS
            go_wp2_with fail
            exact ⟨⟨rfl, true, pos + 1, rfl, rfl, by omega, HN⟩, by simp; omega⟩
          | false =>
            by_cases c35 : c = 35
            · have f1 : ((c : Int) == 35) = true := by simpa using (by omega : (c : Int) = 35)
              have f2 : (c == 35) = true := by simpa using c35
              have HN : Hid (R = at_ + (pos + 1) + skipN true (s2.data.toList.drop (pos + 1))) := Lib.hid (by rw [HS.out, HST.out, if_neg c10, if_neg (by simp), if_pos c35]; omega)
              clear HST c10 c35 HS
              go_wp2_with fail
              exact ⟨⟨rfl, true, pos + 1, rfl, rfl, by omega, HN⟩, by simp; omega⟩
            · have f1 : ((c : Int) == 35) = false := by simpa using (by omega : ¬ (c : Int) = 35)
              have f2 : (c == 35) = false := by simpa using c35
              by_cases c32 : c = 32
              · have g1 : ((c : Int) != 32) = false := by simpa using (by omega : (c : Int) = 32)
                have g2 : (c != 32) = false := by simpa using c32
                have HN : Hid (R = at_ + (pos + 1) + skipN false (s2.data.toList.drop (pos + 1))) := Lib.hid (by rw [HS.out, HST.out, if_neg c10, if_neg (by simp), if_neg c35, if_pos (.inl c32)]; omega)
                clear HST c10 c35 c32 HS
                go_wp2_with fail
                exact ⟨⟨rfl, false, pos + 1, rfl, rfl, by omega, HN⟩, by simp; omega⟩
              · have g1 : ((c : Int) != 32) = true := by simpa using (by omega : ¬ (c : Int) = 32)
                have g2 : (c != 32) = true := by simpa using c32
                by_cases c9 : c = 9
                · have h1 : ((c : Int) != 9) = false := by simpa using (by omega : (c : Int) = 9)
                  have h2 : (c != 9) = false := by simpa using c9
                  have HN : Hid (R = at_ + (pos + 1) + skipN false (s2.data.toList.drop (pos + 1))) := Lib.hid (by rw [HS.out, HST.out, if_neg c10, if_neg (by simp), if_neg c35, if_pos (.inr c9)]; omega)
                  clear HST c10 c35 c32 c9 HS
                  go_wp2_with fail
                  exact ⟨⟨rfl, false, pos + 1, rfl, rfl, by omega, HN⟩, by simp; omega⟩
                · have h1 : ((c : Int) != 9) = true := by simpa using (by omega : ¬ (c : Int) = 9)
                  have h2 : (c != 9) = true := by simpa using c9
                  have HN : Hid (R = at_ + pos) := Lib.hid (by rw [HS.out, HST.out, if_neg c10, if_neg (by simp), if_neg c35, if_neg (by omega)]; omega)
                  clear HST c10 c35 c32 c9 HS
                  go_wp2_with fail
                  (try rw [Exit.noGoto_ret])
                  go_ret
                  exact ⟨by rw [HN.out]; rfl, HBW.out _⟩
      · have hnx := fun ty => run_next_any (P := Tryz.prog) w s2 pos ty hlt
        obtain ⟨hr, hw⟩ := decode_high s2 pos hlt (by omega)
        obtain ⟨hdl, hda⟩ := decode_all s2 pos hlt (by omega)
        have HSK : Hid (skipN true (s2.data.toList.drop pos) = (Utf8.decode s2 pos).2 + skipN true (s2.data.toList.drop (pos + (Utf8.decode s2 pos).2))) := Lib.hid (skip_high s2 _ pos hdl hda)
        have HSF : Hid (skipN false (s2.data.toList.drop pos) = 0) := Lib.hid (by rw [run_at s2 pos hlt, skipN, if_neg (by omega), if_neg (by simp), if_neg (by omega), if_neg (by omega)])
        have hbd : at_ + pos ≤ 140737488355328 := by have := HPL.out; omega
        clear hda
        generalize (Utf8.decode s2 pos).2 = wd at hnx hw HSK hdl
        generalize (Utf8.decode s2 pos).1 = c at hnx hr
        have e1 : ((c : Int) == 10) = false := by simpa using (by omega : ¬ (c : Int) = 10)
        have e2 : (c == 10) = false := by simpa using (by omega : ¬ c = 10)
        cases cm with
        | true =>
          have HN : Hid (R = at_ + (pos + wd) + skipN true (s2.data.toList.drop (pos + wd))) := Lib.hid (by rw [HS.out, HSK.out]; omega)
          clear HS HSK HSF hr
          go_wp2_with fail
          exact ⟨⟨rfl, true, pos + wd, rfl, rfl, hdl, HN⟩, by simp; omega⟩
        | false =>
          have f1 : ((c : Int) == 35) = false := by simpa using (by omega : ¬ (c : Int) = 35)
          have f2 : (c == 35) = false := by simpa using (by omega : ¬ c = 35)
          have g1 : ((c : Int) != 32) = true := by simpa using (by omega : ¬ (c : Int) = 32)
          have g2 : (c != 32) = true := by simpa using (by omega : ¬ c = 32)
          have h1 : ((c : Int) != 9) = true := by simpa using (by omega : ¬ (c : Int) = 9)
          have h2 : (c != 9) = true := by simpa using (by omega : ¬ c = 9)
          have HN : Hid (R = at_ + pos) := Lib.hid (by rw [HS.out, HSF.out]; rfl)
          clear HS HSK HSF hr
          go_wp2_with fail
          (try rw [Exit.noGoto_ret])
          go_ret
          exact ⟨by rw [HN.out]; rfl, HBW.out _⟩
    · have hnx := fun ty => run_next_end (P := Tryz.prog) w s2 pos ty (by omega)
      have HN : Hid (R = s.size) := Lib.hid (by
        rw [HS.out, List.drop_of_length_le (by rw [Array.length_toList]; show s2.size ≤ pos; omega)]
        have h1 := HSZ.out
        cases cm <;> simp only [skipN] <;> omega)
      clear HS
      go_wp2_with fail
      (try rw [Exit.noGoto_ret])
      go_ret
      exact ⟨by rw [HN.out]; rfl, HBW.out _⟩
end Go.Proofs.YtkiilaajomjinaaGreatDoor
