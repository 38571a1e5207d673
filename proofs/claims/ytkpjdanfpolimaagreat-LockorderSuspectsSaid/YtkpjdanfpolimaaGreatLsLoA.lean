/- lockorder's analyze, walked, from what begin leaves. Conditions: the program lies in memory, it is valid. -/
import Derived.Test.YtkpjdanfpolimaaGreatLsLoT
import Derived.Deep.LoopGhost
set_option maxRecDepth 100000
set_option maxHeartbeats 6400000
namespace Go.Proofs.YtkpjdanfpolimaaGreat
open Go.RowKit Go.Shelf
/-- What begin leaves. -/
def Begun (p : Prg) (w : World) : Ending → World → Prop := fun e W => ∃ L : Lay, e = .returned (.pointer (some ⟨L.A, 0, none⟩)) ∧ Mem p L W (startM p) ∧ w.heap.size ≤ L.lo ∧ Below w.heap.size w W
/-- What analyze leaves. -/
def Analyzed (p : Prg) (w : World) : Ending → World → Prop := fun e W => ∃ L : Lay, e = .returned (.tuple #[.pointer (some ⟨L.A, 0, none⟩), .bool true]) ∧ Mem p L W (analysis p) ∧ w.heap.size ≤ L.lo ∧ Below w.heap.size w W
/-- The first j functions of a round. -/
def S.roundTo (p : Prg) (s : S) (j : Nat) : S := (List.range j).foldl (S.roundF p) s
theorem S.roundTo_succ (p : Prg) (s : S) (j : Nat) : s.roundTo p (j + 1) = (s.roundTo p j).roundF p j := by unfold S.roundTo; rw [List.range_succ, List.foldl_append]; rfl
/-- The first k instructions of a function, in a round. -/
def S.codeTo (p : Prg) (f : Nat) (s : S) (k : Nat) : S := (List.range k).foldl (fun s k => if (s.get (.at_ f k)).1 then s.instruction p f k else s) s
theorem S.codeTo_succ (p : Prg) (f : Nat) (s : S) (k : Nat) : s.codeTo p f (k + 1) = if ((s.codeTo p f k).get (.at_ f k)).1 then (s.codeTo p f k).instruction p f k else s.codeTo p f k := by unfold S.codeTo; rw [List.range_succ, List.foldl_append]; rfl
/-- A function's header, in whatever world the analysis has come to. -/
theorem fn_at {p : Prg} {w : World} {lo hi : Nat} (h : Lies w lo p) {b off f : Nat} (hA : p.funA = some ⟨b, off, none⟩) (hf : f < p.funs.length) {W : World} (ht : Turn lo hi w W) :
  W.cell? ⟨b, off + f * 6, none⟩ = some (.string (p.fn f).name) ∧ W.cell? ⟨b, off + f * 6 + 1, none⟩ = some (.int .i64 (p.fn f).params) ∧ W.cell? ⟨b, off + f * 6 + 2, none⟩ = some (.int .i64 (p.fn f).regs) ∧ W.cell? ⟨b, off + f * 6 + 3, none⟩ = some (.int .i64 (p.fn f).prio) ∧
  W.cell? ⟨b, off + f * 6 + 4, none⟩ = some (.bool (p.fn f).clean) ∧ W.cell? ⟨b, off + f * 6 + 5, none⟩ = some (.slice (p.fn f).codeA (p.len f) (p.fn f).codeC) := by
 obtain ⟨b', off', hA', hb', c0, c1, c2, c3, c4, c5⟩ := h.fn hf
 rw [hA] at hA'
 injection hA' with e
 injection e with e1 e2
 subst e1; subst e2
 have hl : p.funs[f].code.length = p.len f := by rw [Prg.len, fn_eq hf]
 rw [hl] at c5
 rw [← fn_eq hf] at c0 c1 c2 c3 c4 c5
 exact ⟨ht.cell c0 (.inl hb'), ht.cell c1 (.inl hb'), ht.cell c2 (.inl hb'), ht.cell c3 (.inl hb'), ht.cell c4 (.inl hb'), ht.cell c5 (.inl hb')⟩
theorem analyze_of (p : Prg) (hfit : Fits p) (hv : prgOk p) (hbeg : ∀ W, Lies W W.heap.size p → Calls Tryz.prog 66 #[p.val] W (Begun p W)) (w : World) (h : Lies w w.heap.size p) :
  Calls Tryz.prog 45 #[p.val] w (Analyzed p w) := by
 have hW := wf_of hv
 have hn := hW.funs
 have HCH := Lib.hid (fun (W : World) (hb : Below w.heap.size w W) => check_ok p hfit hv W (h.next hb))
 have HBG := Lib.hid (fun (W : World) (hb : Below w.heap.size w W) => hbeg W (h.next hb))
 obtain ⟨b, off, hA, hbl, -⟩ := h.fn hn.1
 unfold Prg.val at HCH HBG ⊢
 rw [hA] at HCH HBG ⊢
 have HA := Lib.hid hA
 clear hbeg h hA
 have hT := one_new w #[.slice (some ⟨b, off, none⟩) p.funs.length p.funC, .slice p.obA p.obs.length p.obC, .slice p.vrA p.vrs.length p.vrC] 26
 go_enter Tryz.func45, Tryz.ntmps45
 go_upto_region 1 with fail
 generalize w.alloc _ = w1 at hT ⊢
 obtain ⟨x0, x1, x2⟩ := bx3 hT.fst
 go_wp2_with fail
 refine (HCH.out _ hT.below).mono ?_
 rintro e w2 ⟨rfl, hb2⟩
 have hT2 := hT.next hb2
 clear x0 x1 x2 hT hb2
 obtain ⟨x0, x1, x2⟩ := bx3 hT2.fst
 go_wp2_with fail
 refine (HBG.out _ hT2.below).mono ?_
 rintro e w3 ⟨L, rfl, hm3, hlo, hb3⟩
 have hT3 := hT2.next hb3
 have hz2 := hT2.size
 have HEN0 : Hid (∀ (W : World) (_ : Mem p L W (startM p)), Calls Tryz.prog 67 #[.pointer (some ⟨L.A, 0, none⟩), .int .i64 0, .int .u32 0] W (Left p L W ((startM p).enter p 0 0) (.tuple #[]))) := Lib.hid (fun W hm => enter_any p L W (startM p) hm 0 hn.1 0)
 have HINS := Lib.hid (fun (W : World) (s : S) (hm : Mem p L W s) (f k : Nat) (hf : f < p.funs.length) (hk : k < p.len f) => lois_any p hfit hv L s f k hf hk W hm)
 have HLV := Lib.hid (fun (W : World) (s : S) (hm : Mem p L W s) (f : Nat) (hf : f < p.funs.length) => leave_any p hW L W s hm f hf)
 have HLN := Lib.hid hW.len
 have hll := hm3.hi.1
 clear x0 x1 x2 hT2 hb3
 go_wp2_with fail
 refine (HEN0.out _ hm3).mono ?_
 rintro e w4 ⟨rfl, hm4, ht4⟩
 have hlo1 : w.heap.size + 1 ≤ L.lo := Nat.le_trans hz2 hlo
 have HFN := Lib.hid (fun (W : World) (ht : Turn L.lo L.hi w3 W) (f : Nat) (hf : f < p.funs.length) => fn_at hm3.prog HA.out hf ht)
 have HPB : Hid (∀ W, Turn L.lo L.hi w3 W → Bx W w.heap.size [.slice (some ⟨b, off, none⟩) p.funs.length p.funC, .slice p.obA p.obs.length p.obC, .slice p.vrA p.vrs.length p.vrC]) := Lib.hid (fun W ht j v hv => ht.cell (hT3.fst j v hv) (.inl (by show w.heap.size < L.lo; omega)))
 have HBW : Hid (∀ W, Turn L.lo L.hi w3 W → Below w.heap.size w W) := Lib.hid (fun W ht => hT3.below.trans ((ht.below (Nat.le_trans hm3.hi.1 hm3.hi.2)).mono (by omega)))
 have HI3 := Lib.hid hm3.hi
 have HRB := Lib.hid hm3.ok
 clear hm3 hT3 hll HEN0 HCH HBG
 have c11 := hm4.c11
 have hfz := hm4.hdF 11
 go_upto_region 6 with fail
 have hm5 := hm4.flag true
 have ht5 := ht4.setCell (a := ⟨L.A, 11, none⟩) (HRB.out.rng L.A (by simp)) (.bool true)
 generalize World.setCell w4 _ _ = w5 at hm5 ht5 ⊢
 clear c11 hfz hm4 ht4
 go_loopg [] p.fuel (fun g wr => ∃ cur : S, Going p g cur ∧ Mem p L wr cur ∧ Turn L.lo L.hi w3 wr)
 case atStart => exact ⟨_, Going.start hW, hm5, ht5⟩
 case round =>
  obtain ⟨cur, hG, hm, ht⟩ := hrel
  have c11 := hm.c11
  cases hch : cur.ch with
  | false =>
   rw [hch] at c11
   have HD := Lib.hid (hG.done hch)
   clear hch
   go_wp2_with fail
   go_ret2
   exact ⟨L, rfl, by rw [← HD.out]; exact hm, by omega, HBW.out _ ht⟩
  | true =>
   obtain ⟨g', hg', hGo⟩ := hG.next hW hch
   have HGO := Lib.hid hGo
   rw [hch] at c11
   have hfz := hm.hdF 11
   clear hch hG hGo
   go_upto_region 8 with fail
   have hm6 := hm.flag false
   have ht6 := ht.setCell (a := ⟨L.A, 11, none⟩) (HRB.out.rng L.A (by simp)) (.bool false)
   generalize World.setCell wr _ _ = w6 at hm6 ht6 ⊢
   clear c11 hfz hm ht
   obtain ⟨x0, x1, x2⟩ := bx3 (HPB.out _ ht6)
   go_upto_region 9 with fail
   clear x0 x1 x2
   go_loopw [28] (fun i wr => ∃ j : Nat, i = .int .i64 j ∧ j ≤ p.funs.length ∧ Mem p L wr (S.roundTo p { cur with ch := false } j) ∧ Turn L.lo L.hi w3 wr) (fun i _ => p.funs.length - (intOf i).toNat)
   case atStart => exact ⟨0, rfl, by omega, hm6, ht6⟩
   case round =>
    obtain ⟨f, rfl, hf, hm, ht⟩ := hrel
    have hf0 : (0 : Int) ≤ (f : Int) := by omega
    have hwr1 : IntKind.i64.wrap ((f : Int) + 1) = (f : Int) + 1 := by rw [IntKind.wrap_i64]; omega
    by_cases hlt : f < p.funs.length
    ·have hd1 : decide ((f : Int) < (p.funs.length : Int)) = true := decide_eq_true (by omega)
     have hd2 : decide (f < p.funs.length) = true := decide_eq_true hlt
     have hjl : (f : Int) < (p.funs.length : Int) := by omega
     obtain ⟨q0, q1, q2, q3, q4, q5⟩ := HFN.out wr ht f hlt
     go_upto_region 11 with fail
     have hF := bx_new wr #[.string (p.fn f).name, .int .i64 (p.fn f).params, .int .i64 (p.fn f).regs, .int .i64 (p.fn f).prio, .bool (p.fn f).clean, .slice (p.fn f).codeA (p.len f) (p.fn f).codeC] 60
     have hba := below_alloc wr (.cells #[.string (p.fn f).name, .int .i64 (p.fn f).params, .int .i64 (p.fn f).regs, .int .i64 (p.fn f).prio, .bool (p.fn f).clean, .slice (p.fn f).codeA (p.len f) (p.fn f).codeC] 60)
     have hma := hm.below hba
     have hta := ht.trans (Turn.of_below hba)
     have hzG : L.hi ≤ wr.heap.size := hm.hi.2
     have hZ1 : wr.heap.size < (World.alloc wr (.cells #[.string (p.fn f).name, .int .i64 (p.fn f).params, .int .i64 (p.fn f).regs, .int .i64 (p.fn f).prio, .bool (p.fn f).clean, .slice (p.fn f).codeA (p.len f) (p.fn f).codeC] 60)).heap.size := by simp
     generalize World.alloc wr _ = wa at hF hma hta hZ1 ⊢
     clear q0 q1 q2 q3 q4 q5 hm ht hba
     generalize wr.heap.size = G at hF hzG hZ1 ⊢
     obtain ⟨y0, y1, y2, y3, y4, y5⟩ := bx6 hF
     go_upto_region 12 with fail
     clear y0 y1 y2 y3 y4 y5
     have hlen := HLN.out f hlt
     have hl0 : (0 : Int) ≤ (p.len f : Int) := by omega
     have HSU := Lib.hid (S.roundTo_succ p { cur with ch := false } f)
     have HC0 : Hid (∀ s : S, s.codeTo p f 0 = s) := Lib.hid (fun _ => rfl)
     have HCS : Hid (∀ (s : S) k, _) := Lib.hid (fun (s : S) k => s.codeTo_succ p f k)
     have HRF : Hid (∀ s : S, s.roundF p f = (s.codeTo p f (p.len f)).leave p f) := Lib.hid (fun _ => rfl)
     go_loopw [36] (fun i wr => ∃ k : Nat, i = .int .i64 k ∧ k ≤ p.len f ∧ Mem p L wr ((S.roundTo p { cur with ch := false } f).codeTo p f k) ∧ Turn L.lo L.hi w3 wr) (fun i _ => p.len f - (intOf i).toNat)
     case atStart => exact ⟨0, rfl, by omega, hma, hta⟩
     case round =>
      clear hma hta hF hZ1
      obtain ⟨k, rfl, hk, hm, ht⟩ := hrel
      have hk0 : (0 : Int) ≤ (k : Int) := by omega
      have hwr2 : IntKind.i64.wrap ((k : Int) + 1) = (k : Int) + 1 := by rw [IntKind.wrap_i64]; omega
      by_cases hltk : k < p.len f
      ·have hd3 : decide ((k : Int) < (p.len f : Int)) = true := decide_eq_true (by omega)
       have hd4 : decide (k < p.len f) = true := decide_eq_true hltk
       have hkl : (k : Int) < (p.len f : Int) := by omega
       have c9 := hm.c9
       have cr := hm.outR f hlt
       have cs := (hm.slot (.at_ f k) ⟨hlt, hltk⟩).1.1
       unfold Lay.kA at cs
       dsimp only at cs
       cases hg : (((S.roundTo p { cur with ch := false } f).codeTo p f k).get (.at_ f k)).1 with
       | false =>
        rw [hg] at cs
        have HE := Lib.hid (show (S.roundTo p { cur with ch := false } f).codeTo p f (k + 1) = (S.roundTo p { cur with ch := false } f).codeTo p f k from by rw [HCS.out, hg]; rfl)
        clear hg
        go_wp2_with fail
        go_round
        case rel => exact ⟨k + 1, rfl, by omega, by rw [HE.out]; exact hm, ht⟩
        case measure => show p.len f - (intOf (Value.int IntKind.i64 ((k : Int) + 1))).toNat < p.len f - (intOf (Value.int IntKind.i64 (k : Int))).toNat; simp only [intOf]; omega
       | true =>
        rw [hg] at cs
        have HE := Lib.hid (show (S.roundTo p { cur with ch := false } f).codeTo p f (k + 1) = ((S.roundTo p { cur with ch := false } f).codeTo p f k).instruction p f k from by rw [HCS.out, hg]; rfl)
        clear hg
        go_wp2_with fail
        refine (HINS.out _ _ hm f k hlt hltk).mono ?_
        rintro e wi ⟨rfl, hmi, hti⟩
        have hti := ht.trans hti
        clear c9 cr cs hm ht
        go_wp2_with fail
        go_round
        case rel => exact ⟨k + 1, rfl, by omega, by rw [HE.out]; exact hmi, hti⟩
        case measure => show p.len f - (intOf (Value.int IntKind.i64 ((k : Int) + 1))).toNat < p.len f - (intOf (Value.int IntKind.i64 (k : Int))).toNat; simp only [intOf]; omega
      ·obtain rfl : k = p.len f := by omega
       have hd3 : decide ((p.len f : Int) < (p.len f : Int)) = false := decide_eq_false (by omega)
       have hd4 : decide (p.len f < p.len f) = false := decide_eq_false (by omega)
       go_wp2_with fail
       refine (HLV.out _ _ hm f hlt).mono ?_
       rintro e wi ⟨rfl, hmi, hti⟩
       have hti := ht.trans hti
       clear hm ht
       go_wp2_with fail
       go_round
       case rel => exact ⟨f + 1, rfl, by omega, by rw [HSU.out, HRF.out]; exact hmi, hti⟩
       case measure => show p.funs.length - (intOf (Value.int IntKind.i64 ((f : Int) + 1))).toNat < p.funs.length - (intOf (Value.int IntKind.i64 (f : Int))).toNat; simp only [intOf]; omega
    ·obtain rfl : f = p.funs.length := by omega
     have hd1 : decide ((p.funs.length : Int) < (p.funs.length : Int)) = false := decide_eq_false (by omega)
     have hd2 : decide (p.funs.length < p.funs.length) = false := decide_eq_false (by omega)
     go_wp2_with fail
     go_roundg g'
     case measure => omega
     case rel => exact ⟨_, HGO.out, hm, ht⟩
end Go.Proofs.YtkpjdanfpolimaaGreat
