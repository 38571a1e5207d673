/- The reference's Great and the laws' fine, walked. Conditions: the program lies in memory. · The laws' example programs, built. No conditions. · lockorder's Suspects, walked. Conditions: the program lies in memory, it is valid. -/
import Derived.Test.YtkpjdanfpolimaaGreatLgDgS
import Derived.Test.YtkpjdanfpolimaaGreatLgDg9
import Derived.Test.YtkpjdanfpolimaaGreatLgDg8
set_option maxRecDepth 100000
set_option maxHeartbeats 6400000
namespace Go.Proofs.YtkpjdanfpolimaaGreat
section
open Go.RowKit Go.Shelf Go.Sort
def RetB (w : World) : Ending → World → Prop := fun e W => ∃ b : Bool, e = .returned (.bool b) ∧ Below w.heap.size w W
theorem greatInstr_any (i : Ins) (w : World) : Calls Tryz.prog 30 #[.agg i.cells.toArray] w (RetB w) := by
 have hb := below_alloc w (.cells #[.int .i64 i.op, .int .i64 i.a, .int .i64 i.b, .int .i64 i.c, .slice i.argA i.args.length i.argC] 63);unfold Ins.cells;go_enter Tryz.func30, Tryz.ntmps30;go_wp2_with fail;go_ret;exact ⟨_, rfl, hb⟩
theorem great_any (p : Prg) (w : World) (h : Lies w w.heap.size p) : Calls Tryz.prog 7 #[p.val] w (RetB w) := by
 have hn1 := h.funN;have hn2 := h.obN;have hn3 := h.vrN;unfold maxLen at hn1 hn2 hn3;have HFN := hid (fun (W : World) (hb : Below w.heap.size w W) (k : Nat) (hk : k < p.funs.length) => (h.next hb).fn hk);have HCN := hid (fun (k : Nat) (hk : k < p.funs.length) => h.codeN _ (List.getElem_mem hk));have HIN := hid (fun (W : World) (hb : Below w.heap.size w W) (f : Fn) (hf : f ∈ p.funs) (k : Nat) (hk : k < f.code.length) => (h.next hb).ins hf hk);have HOB := hid (fun (W : World) (hb : Below w.heap.size w W) (k : Nat) (hk : k < p.obs.length) => (h.next hb).ob hk);have HVR := hid (fun (W : World) (hb : Below w.heap.size w W) (k : Nat) (hk : k < p.vrs.length) => (h.next hb).vr hk);unfold Prg.val;clear h;generalize p.funA = fa at HFN ⊢;generalize p.obA = oa at HOB ⊢;generalize p.vrA = va at HVR ⊢;go_enter Tryz.func7, Tryz.ntmps7;go_upto_region 1 with fail
 have hT := one_new w #[.slice fa p.funs.length p.funC, .slice oa p.obs.length p.obC, .slice va p.vrs.length p.vrC] 26;generalize w.alloc _ = w1 at hT ⊢;obtain ⟨x0, x1, x2⟩ := bx3 hT.fst
 cases hc1 : decide ((34 : Int) < (p.funs.length : Int)) with
 | true =>
  go_wp2_with fail;go_ret;exact ⟨_, rfl, hT.below⟩
 | false =>
  cases hc2 : decide ((18 : Int) < (p.obs.length : Int)) with
  | true =>
   go_wp2_with fail;go_ret;exact ⟨_, rfl, hT.below⟩
  | false =>
   cases hc3 : decide ((18 : Int) < (p.vrs.length : Int)) with
   | true =>
    go_wp2_with fail;go_ret;exact ⟨_, rfl, hT.below⟩
   | false =>
    have hl1 : p.funs.length ≤ 34 := by have := of_decide_eq_false hc1; omega
    have hl2 : p.obs.length ≤ 18 := by have := of_decide_eq_false hc2; omega
    have hl3 : p.vrs.length ≤ 18 := by have := of_decide_eq_false hc3; omega
    go_upto_region 5 with fail;clear x0 x1 x2 hc1 hc2 hc3;go_loopw [3, 4] (fun nn i wr => ∃ (m : Int) (j : Nat), nn = .int .i64 m ∧ i = .int .i64 (j : Nat) ∧ j ≤ p.funs.length ∧ One w wr [.slice fa p.funs.length p.funC, .slice oa p.obs.length p.obC, .slice va p.vrs.length p.vrC]) (fun _ i _ => p.funs.length - (intOf i).toNat)
    case atStart => exact ⟨0, 0, rfl, rfl, by omega, hT⟩
    case round =>
     clear hT;obtain ⟨m, j, rfl, rfl, hj, hT⟩ := hrel;obtain ⟨x0, x1, x2⟩ := bx3 hT.fst;have hj0 := zi j;have hwr := Wi j (by omega);by_cases hlt : j < p.funs.length
     ·have hd1 := Dt (show (j : Int) < p.funs.length by omega)
      have hd2 := Dt hlt;have hjl : (j : Int) < (p.funs.length : Int) := by omega
      obtain ⟨fb, fo, rfl, -, q0, q1, q2, q3, q4, q5⟩ := HFN.out wr hT.below j hlt;obtain ⟨hcl, hnl, -⟩ := HCN.out j hlt;have HMF := hid (List.getElem_mem hlt)
      have HF5 := hid (fun (W : World) (hb : Below w.heap.size w W) => (show W.cell? ⟨fb, fo + j * 6 + 5, none⟩ = some (.slice p.funs[j].codeA p.funs[j].code.length p.funs[j].codeC) from by
       obtain ⟨b', o', e, -, -, -, -, -, -, q⟩ := HFN.out W hb j hlt;injection e with e;injection e with e1 e2;subst e1; subst e2;exact q))
      generalize p.funs[j] = f at q0 q1 q2 q3 q4 q5 hcl hnl HMF HF5;unfold maxLen at hcl hnl;obtain ⟨z, hz⟩ : ∃ z, IntKind.i64.wrap (m + (f.code.length : Int)) = z := ⟨_, rfl⟩
      cases hc4 : decide ((250 : Int) < z) with
      | true =>
       go_wp2_with fail;go_ret;exact ⟨_, rfl, hT.below⟩
      | false =>
       cases hc5 : decide ((40 : Int) < (f.name.size : Int)) with
       | true =>
        go_wp2_with fail;go_ret;exact ⟨_, rfl, hT.below⟩
       | false =>
        have HII := hid (fun (W : World) (hb : Below w.heap.size w W) (k : Nat) (hk : k < f.code.length) => HIN.out W hb f HMF.out k hk);clear HMF;generalize f.codeA = ca at q5 HII HF5;go_upto_region 11 with fail;clear x0 x1 x2 q0 q1 q2 q3 q4 q5 hz hc4 hc5;go_loopw [5] (fun i wr => ∃ (k : Nat), i = .int .i64 (k : Nat) ∧ k ≤ f.code.length ∧ One w wr [.slice (some ⟨fb, fo, none⟩) p.funs.length p.funC, .slice oa p.obs.length p.obC, .slice va p.vrs.length p.vrC]) (fun i _ => f.code.length - (intOf i).toNat)
        case atStart => exact ⟨0, rfl, by omega, hT⟩
        case round =>
         clear hT;obtain ⟨k, rfl, hk, hT⟩ := hrel;obtain ⟨x0, x1, x2⟩ := bx3 hT.fst;have q5 := HF5.out _ hT.below;have hk0 := zi k;by_cases hkl : k < f.code.length
         ·have hwk := Wi k (by omega)
          have hd3 := Dt (show (k : Int) < f.code.length by omega);have hd4 := Dt hkl;have hki : (k : Int) < (f.code.length : Int) := by omega
          obtain ⟨ib, io, rfl, -, i0, i1, i2, i3, i4⟩ := HII.out _ hT.below k hkl;have HG := hid (greatInstr_any f.code[k]);unfold Ins.cells at HG;generalize f.code[k] = ik at i0 i1 i2 i3 i4 HG;have HG3 := hid (HG.out wr);clear HG;go_wp2_with fail;refine HG3.out.mono ?_;rintro e w5 ⟨b5, rfl, hb5⟩;have hT5 := hT.next hb5;clear x0 x1 x2 q5 i0 i1 i2 i3 i4 hT HG3
          cases b5 with
          | true =>
           go_wp2_with fail;go_ret;exact ⟨_, rfl, hT5.below⟩
          | false =>
           go_wp2_with fail;go_round
           case rel => exact ⟨k + 1, rfl, by omega, hT5⟩
           case measure => exact ms (by omega)
         ·have hd3 := Df (show ¬ (k : Int) < f.code.length by omega)
          have hd4 := Df hkl;go_wp2_with fail;go_round
          case rel => exact ⟨z, j + 1, rfl, rfl, by omega, hT⟩
          case measure => exact ms (by omega)
     ·have hd1 := Df (show ¬ (j : Int) < p.funs.length by omega)
      have hd2 := Df hlt;go_upto_region 16 with fail;clear x0 x1 x2;go_loopw [6] (fun i wr => ∃ (q : Nat), i = .int .i64 (q : Nat) ∧ q ≤ p.obs.length ∧ One w wr [.slice fa p.funs.length p.funC, .slice oa p.obs.length p.obC, .slice va p.vrs.length p.vrC]) (fun i _ => p.obs.length - (intOf i).toNat)
      case atStart => exact ⟨0, rfl, by omega, hT⟩
      case round =>
       clear hT;obtain ⟨q, rfl, hq, hT⟩ := hrel;obtain ⟨x0, x1, x2⟩ := bx3 hT.fst;have hq0 := zi q;have hwq := Wi q (by omega);by_cases hql : q < p.obs.length
       ·have hd3 := Dt (show (q : Int) < p.obs.length by omega)
        have hd4 := Dt hql;have hqi : (q : Int) < (p.obs.length : Int) := by omega
        obtain ⟨ob, oo, rfl, -, q0, q1, q2, q3⟩ := HOB.out wr hT.below q hql;generalize p.obs[q] = o at q0 q1 q2 q3
        cases hc5 : decide ((40 : Int) < (o.name.size : Int)) with
        | true =>
         go_wp2_with fail;go_ret;exact ⟨_, rfl, hT.below⟩
        | false =>
         go_wp2_with fail;go_round
         case rel => exact ⟨q + 1, rfl, by omega, hT⟩
         case measure => exact ms (by omega)
       ·have hd3 := Df (show ¬ (q : Int) < p.obs.length by omega)
        have hd4 := Df hql;go_upto_region 21 with fail;clear x0 x1 x2;go_loopw [7] (fun i wr => ∃ (q : Nat), i = .int .i64 (q : Nat) ∧ q ≤ p.vrs.length ∧ One w wr [.slice fa p.funs.length p.funC, .slice oa p.obs.length p.obC, .slice va p.vrs.length p.vrC]) (fun i _ => p.vrs.length - (intOf i).toNat)
        case atStart => exact ⟨0, rfl, by omega, hT⟩
        case round =>
         clear hT;obtain ⟨q, rfl, hq, hT⟩ := hrel;obtain ⟨x0, x1, x2⟩ := bx3 hT.fst;have hq0 := zi q;have hwq := Wi q (by omega);by_cases hql : q < p.vrs.length
         ·have hd5 := Dt (show (q : Int) < p.vrs.length by omega)
          have hd6 := Dt hql;have hqi : (q : Int) < (p.vrs.length : Int) := by omega
          obtain ⟨ob, oo, rfl, -, q0, q1, q2⟩ := HVR.out wr hT.below q hql;generalize p.vrs[q] = o at q0 q1 q2
          cases hc5 : decide ((40 : Int) < (o.name.size : Int)) with
          | true =>
           go_wp2_with fail;go_ret;exact ⟨_, rfl, hT.below⟩
          | false =>
           go_wp2_with fail;go_round
           case rel => exact ⟨q + 1, rfl, by omega, hT⟩
           case measure => exact ms (by omega)
         ·have hd5 := Df (show ¬ (q : Int) < p.vrs.length by omega)
          have hd6 := Df hql;go_wp2_with fail;go_ret;exact ⟨_, rfl, hT.below⟩
end
section
open Go.RowKit Go.Shelf
theorem rd_block {W : World} {b s n : Nat} {c : Array Value} {t : TypeId} {fr : Nat × Nat} {xs : List Value} (h : W.heap[b]? = some (.cells c t fr)) (hx : c.toList = xs) (hn : xs.length = n * s) : Rd W W.heap.size s (some ⟨b, 0, none⟩) n xs :=
 ⟨hn, .inr ⟨b, 0, rfl, (Array.getElem?_eq_some_iff.1 h).1, fun j u hu => by
  subst hx;simp only [World.cell?, h, Nat.zero_add];simpa using hu⟩⟩
theorem exLock_any (a b : Int) (w : World) : Calls Tryz.prog 56 #[.int .i64 a, .int .i64 b] w fun e W => e = .returned (.slice (some ⟨w.heap.size, 0, none⟩) 4 4) ∧ W = w.alloc (.cells ((exLock a b).flatMap Ins.cells).toArray 63) := by
 go_enter Tryz.func56, Tryz.ntmps56;go_wp2_with fail;go_ret;exact ⟨rfl, rfl⟩
theorem example_any (a b : Int) (w : World) : Calls Tryz.prog 31 #[.int .i64 a, .int .i64 b] w fun e W => ∃ M A B F O, e = .returned (exP M A B F O a b).val ∧ Lies W W.heap.size (exP M A B F O a b) ∧ Below w.heap.size w W := by
 go_enter Tryz.func31, Tryz.ntmps31;go_upto_region 3 with fail;have hR := (heap_alloc_old (w.alloc (.cells #[.slice none 0 0, .slice none 0 0, .slice none 0 0] 26)) (.cells (exMain.flatMap Ins.cells).toArray 63) (by simp)).trans (heap_alloc_new w (.cells #[.slice none 0 0, .slice none 0 0, .slice none 0 0] 26));have hM := heap_alloc_new (w.alloc (.cells #[.slice none 0 0, .slice none 0 0, .slice none 0 0] 26)) (.cells (exMain.flatMap Ins.cells).toArray 63);have hb : Below w.heap.size w ((w.alloc (.cells #[.slice none 0 0, .slice none 0 0, .slice none 0 0] 26)).alloc (.cells (exMain.flatMap Ins.cells).toArray 63)) := (below_alloc _ _).trans (below_alloc2 (by simp) _);have hz : ((w.alloc (.cells #[.slice none 0 0, .slice none 0 0, .slice none 0 0] 26)).alloc (.cells (exMain.flatMap Ins.cells).toArray 63)).heap.size = w.heap.size + 2 := by simp
 rw [World.size_alloc] at hM;change Code.wp _ _ _ _ ((w.alloc (.cells #[.slice none 0 0, .slice none 0 0, .slice none 0 0] 26)).alloc (.cells (exMain.flatMap Ins.cells).toArray 63));generalize (w.alloc (.cells #[.slice none 0 0, .slice none 0 0, .slice none 0 0] 26)).alloc (.cells (exMain.flatMap Ins.cells).toArray 63) = w2 at hR hM hb hz ⊢;go_wp2_with fail;refine (exLock_any 0 1 w2).mono ?_;rintro e w3 ⟨rfl, rfl⟩;have hA := heap_alloc_new w2 (.cells ((exLock 0 1).flatMap Ins.cells).toArray 63);have hbA := below_alloc w2 (.cells ((exLock 0 1).flatMap Ins.cells).toArray 63);have hR3 := (hbA.block _ (by omega)).trans hR;have hM3 := (hbA.block _ (by omega)).trans hM;have hb3 := hb.trans (hbA.mono hb.size);have hz3 : (w2.alloc (.cells ((exLock 0 1).flatMap Ins.cells).toArray 63)).heap.size = w.heap.size + 3 := by simp [hz]
 rw [hz] at hA ⊢;clear hR hM hb hbA hz;generalize w2.alloc _ = w3 at hA hR3 hM3 hb3 hz3 ⊢;go_wp2_with fail;refine (exLock_any a b w3).mono ?_;rintro e w4 ⟨rfl, rfl⟩;have hB := heap_alloc_new w3 (.cells ((exLock a b).flatMap Ins.cells).toArray 63);have hbB := below_alloc w3 (.cells ((exLock a b).flatMap Ins.cells).toArray 63);have hR4 := (hbB.block _ (by omega)).trans hR3;have hM4 := (hbB.block _ (by omega)).trans hM3;have hA4 := (hbB.block _ (by omega)).trans hA;have hb4 := hb3.trans (hbB.mono hb3.size);have hz4 : (w3.alloc (.cells ((exLock a b).flatMap Ins.cells).toArray 63)).heap.size = w.heap.size + 4 := by simp [hz3]
 rw [hz3] at hB ⊢;clear hA hR3 hM3 hb3 hbB hz3;generalize w3.alloc _ = w4 at hB hA4 hR4 hM4 hb4 hz4 ⊢;have r0 : w4.cell? ⟨w.heap.size, 0, none⟩ = some (.slice none 0 0) := by simp [World.cell?, hR4]
 have r1 : w4.cell? ⟨w.heap.size, 1, none⟩ = some (.slice none 0 0) := by simp [World.cell?, hR4]
 have r2 : w4.cell? ⟨w.heap.size, 2, none⟩ = some (.slice none 0 0) := by simp [World.cell?, hR4]
 have f0 : w4.frozen? ⟨w.heap.size, 0, none⟩ = false := by simp [World.frozen?, hR4]
 have f1 : w4.frozen? ⟨w.heap.size, 1, none⟩ = false := by simp [World.frozen?, hR4]
 have f2 : w4.frozen? ⟨w.heap.size, 2, none⟩ = false := by simp [World.frozen?, hR4]
 go_wp2_with fail;obtain ⟨w5, hw5⟩ : ∃ w5, w5 = ((w4.setCell ⟨w.heap.size, 0, none⟩ (.slice (some ⟨w.heap.size + 4, 0, none⟩) 3 3)).setCell ⟨w.heap.size, 1, none⟩ (.slice (some ⟨w.heap.size + 4 + 1, 0, none⟩) 2 2)).setCell ⟨w.heap.size, 2, none⟩ (.slice none 0 0) := ⟨_, rfl⟩
 have hz5 : w5.heap.size = w.heap.size + 4 := by rw [hw5]; simpa using hz4
 have hR5 : w5.heap[w.heap.size]? = some (.cells #[.slice (some ⟨w.heap.size + 4, 0, none⟩) 3 3, .slice (some ⟨w.heap.size + 4 + 1, 0, none⟩) 2 2, .slice none 0 0] 26 (0, 0)) := by
  rw [hw5]; simp [World.setCell, Array.getElem?_modify, hR4]
 have hk5 : ∀ k, k ≠ w.heap.size → w5.heap[k]? = w4.heap[k]? := fun k hk => by
  rw [hw5];exact ((heap_setCell_other _ _ _ _ hk).trans (heap_setCell_other _ _ _ _ hk)).trans (heap_setCell_other _ _ _ _ hk)
 have hb5 : Below w.heap.size w w5 := by
  rw [hw5];exact ((hb4.setCell (p := ⟨w.heap.size, 0, none⟩) (Nat.le_refl _) _).setCell (p := ⟨w.heap.size, 1, none⟩) (Nat.le_refl _) _).setCell (p := ⟨w.heap.size, 2, none⟩) (Nat.le_refl _) _
 rw [← hw5];have hM5 := (hk5 _ (by omega)).trans hM4;have hA5 := (hk5 _ (by omega)).trans hA4;have hB5 := (hk5 _ (by omega)).trans hB;clear r0 r1 r2 f0 f1 f2 hw5 hk5 hM4 hA4 hB hR4 hb4 hz4;generalize w.heap.size = R at *;have hF := heap_alloc_new w5 (.cells ((exP (R + 1) (R + 2) (R + 3) (R + 4) (R + 4 + 1) a b).funs.flatMap Fn.cells).toArray 60);have hbF := below_alloc w5 (.cells ((exP (R + 1) (R + 2) (R + 3) (R + 4) (R + 4 + 1) a b).funs.flatMap Fn.cells).toArray 60);have hzF : (w5.alloc (.cells ((exP (R + 1) (R + 2) (R + 3) (R + 4) (R + 4 + 1) a b).funs.flatMap Fn.cells).toArray 60)).heap.size = R + 4 + 1 := by simp [hz5]
 rw [hz5] at hF;change bodyPost _ _ _ _ _ ((w5.alloc (.cells ((exP (R + 1) (R + 2) (R + 3) (R + 4) (R + 4 + 1) a b).funs.flatMap Fn.cells).toArray 60)).alloc (.cells ((exP (R + 1) (R + 2) (R + 3) (R + 4) (R + 4 + 1) a b).obs.flatMap Ob.cells).toArray 65));generalize w5.alloc _ = w6 at hF hbF hzF ⊢;have hO := heap_alloc_new w6 (.cells ((exP (R + 1) (R + 2) (R + 3) (R + 4) (R + 4 + 1) a b).obs.flatMap Ob.cells).toArray 65);have hbO := below_alloc w6 (.cells ((exP (R + 1) (R + 2) (R + 3) (R + 4) (R + 4 + 1) a b).obs.flatMap Ob.cells).toArray 65);rw [hzF] at hO;generalize w6.alloc _ = w7 at hO hbO ⊢;have hk7 : ∀ k, k < R + 4 → w7.heap[k]? = w5.heap[k]? := fun k hk => (hbO.block k (by omega)).trans (hbF.block k (by omega))
 have hF7 := (hbO.block (R + 4) (by omega)).trans hF;have hM7 := (hk7 _ (by omega)).trans hM5;have hA7 := (hk7 _ (by omega)).trans hA5;have hB7 := (hk7 _ (by omega)).trans hB5;have hR7 := (hk7 _ (by omega)).trans hR5;have hb7 : Below R w w7 := (hb5.trans (hbF.mono (by omega))).trans (hbO.mono (by omega));have hcs : ∀ f ∈ (exP (R + 1) (R + 2) (R + 3) (R + 4) (R + 4 + 1) a b).funs, f = exFn ⟨#[109, 97, 105, 110]⟩ exMain (R + 1) ∨ f = exFn ⟨#[97]⟩ (exLock 0 1) (R + 2) ∨ f = exFn ⟨#[98]⟩ (exLock a b) (R + 3) := fun f hf => by simpa [exP] using hf
 have hia : ∀ f ∈ (exP (R + 1) (R + 2) (R + 3) (R + 4) (R + 4 + 1) a b).funs, ∀ i ∈ f.code, i.args = [] ∧ i.argC = 0 := fun f hf i hi => by
  rcases hcs f hf with rfl | rfl | rfl
  ·have : i = exIns 35 (-1) (-1) 3 ∨ i = exIns 34 0 1 0 ∨ i = exIns 34 0 2 0 ∨ i = exIns 36 0 0 0 := by simpa [exFn, exMain] using hi
   rcases this with rfl | rfl | rfl | rfl <;> exact ⟨rfl, rfl⟩
  ·have : i = exIns 50 0 0 0 ∨ i = exIns 50 1 0 0 ∨ i = exIns 52 1 0 0 ∨ i = exIns 52 0 0 0 := by simpa [exFn, exLock] using hi
   rcases this with rfl | rfl | rfl | rfl <;> exact ⟨rfl, rfl⟩
  ·have : i = exIns 50 a 0 0 ∨ i = exIns 50 b 0 0 ∨ i = exIns 52 b 0 0 ∨ i = exIns 52 a 0 0 := by simpa [exFn, exLock] using hi
   rcases this with rfl | rfl | rfl | rfl <;> exact ⟨rfl, rfl⟩
 refine bodyPost_ret (results_cell1 rfl rfl (run_loadVar_row (P := Tryz.prog) _ R 26 26 #[.slice (some ⟨R + 4, 0, none⟩) 3 3, .slice (some ⟨R + 4 + 1, 0, none⟩) 2 2, .slice none 0 0] (0, 0) _ hR7 Tryz.underlying26 rfl (by kernel_rfl))) rfl ?_;refine ⟨R + 1, R + 2, R + 3, R + 4, R + 4 + 1, rfl, ?_, hb7⟩;refine ⟨rd_block hF7 rfl rfl, rd_block hO rfl rfl, Rd.nil_, fun f hf => ?_, fun f hf i hi => ?_, by show 3 ≤ maxLen; decide, by show 2 ≤ maxLen; decide, by show 0 ≤ maxLen; decide, fun f hf => ?_, ⟨Nat.le_refl _, Nat.le_refl _, Nat.le_refl _⟩, fun f hf i hi => ?_, fun o ho => ?_, fun v hv => (by cases hv)⟩
 ·rcases hcs f hf with rfl | rfl | rfl
  ·exact rd_block hM7 rfl rfl
  ·exact rd_block hA7 rfl rfl
  ·exact rd_block hB7 rfl rfl
 ·rw [(hia f hf i hi).1]; exact Rd.nil_
 ·rcases hcs f hf with rfl | rfl | rfl
  ·exact ⟨by show 4 ≤ maxLen; decide, by show 4 ≤ maxLen; decide, Nat.le_refl _⟩
  ·exact ⟨by show 4 ≤ maxLen; decide, by show 1 ≤ maxLen; decide, Nat.le_refl _⟩
  ·exact ⟨by show 4 ≤ maxLen; decide, by show 1 ≤ maxLen; decide, Nat.le_refl _⟩
 ·rw [(hia f hf i hi).1, (hia f hf i hi).2]; exact ⟨Nat.zero_le _, Nat.le_refl _⟩
 ·have : o = ⟨⟨#[109]⟩, 1, 0, 0⟩ ∨ o = ⟨⟨#[110]⟩, 1, 0, 0⟩ := by simpa [exP] using ho
  rcases this with rfl | rfl
  ·show 1 ≤ maxLen; decide
  ·show 1 ≤ maxLen; decide
end
section
open Go.RowKit Go.Shelf
theorem comp_form {n : Nat} {l : List (Nat × Nat)} {c : List Nat} (h : c ∈ compsTo n l n) : ∃ u r, c = u :: r ∧ u < n := by
 obtain ⟨u, h1, h2, rfl⟩ := mem_comps.1 h;obtain ⟨r, e, -⟩ := class_head h1 h2;exact ⟨u, r, e, h1⟩
theorem suspects_any (p : Prg) (hfit : Fits p) (hv : prgOk p) (w : World) (h : Lies w w.heap.size p) : Calls Tryz.prog 11 #[p.val] w fun e W => ∃ v, e = .returned (.tuple #[v, .int .i64 0]) ∧ OwnLL W w.heap.size v (suspects p.obs.length (graphOf p)) ∧ Below w.heap.size w W := by
 obtain ⟨i1, hi1, hz⟩ := Option.map_eq_some_iff.1 listInfo;have hy0 : i1.zero = some (.slice none 0 0) := congrArg (fun t => t.1) hz;have hy1 : i1.size = 1 := congrArg (fun t => t.2.1) hz;have hy2 : i1.bytes = 24 := congrArg (fun t => t.2.2) hz;clear hz;have hW := wf_of hv;have hob := hW.obs;have hgl := graph_len hob;have HGR := hid (fun (W : World) (hb : Below w.heap.size w W) => graph_any p hfit hv W (h.next hb));have HCO := hid (fun (A : Option Addr) (c : Nat) (W : World) (hE : Eds W W.heap.size A (graphOf p)) => comps_any p.obs.length A c (graphOf p) (by omega) (by omega) (graph_range hW) (graph_strict p) W hE);have HCT := hid (fun (A : Option Addr) (c : Nat) (e : Nat × Nat) (W : World) (hE : Eds W W.heap.size A (graphOf p)) => edContains_any A c (graphOf p) e (by omega) W hE);have hcl := comps_len p.obs.length (graphOf p) p.obs.length
 have HFO := hid (fun c (hc : c ∈ compsTo p.obs.length (graphOf p) p.obs.length) => comp_form hc);unfold suspects;unfold Prg.val at HGR ⊢;generalize compsTo p.obs.length (graphOf p) p.obs.length = cs at HCO hcl HFO ⊢;generalize graphOf p = gr at HGR HCO HCT hgl ⊢;clear h hfit hv hW;go_enter Tryz.func11, Tryz.ntmps11;go_upto_region 1 with fail;have hT1 := one_new w #[.slice p.funA p.funs.length p.funC, .slice p.obA p.obs.length p.obC, .slice p.vrA p.vrs.length p.vrC] 26;generalize w.alloc _ = w1 at hT1 ⊢;obtain ⟨x0, x1, x2⟩ := bx3 hT1.fst;have HG1 := hid (HGR.out w1 hT1.below);go_wp2_with fail;refine HG1.out.mono ?_;rintro e w2 ⟨gv, rfl, hE, hb2⟩;obtain ⟨Ag, Cg, rfl, hE2⟩ := own_eds hE;have hT2 := hT1.next hb2;clear x0 x1 x2 hE HG1 hT1 hb2 HGR;obtain ⟨x0, x1, x2⟩ := bx3 hT2.fst;have HC1 := hid (HCO.out Ag Cg w2 hE2);clear HCO;go_wp2_with fail
 refine HC1.out.mono ?_;rintro e w3 ⟨cv, rfl, hLL, hb3⟩;have hb := hT2.below.trans (hb3.mono hT2.below.size);have hE3 : Eds w3 w3.heap.size Ag gr := Rd.more (hE2.below hb3) hb3.size;have hw2 := hT2.below.size;clear x0 x1 x2 hT2 hE2 HC1;obtain ⟨vs, hcv, hvs⟩ := hLL;obtain ⟨Ac, Cc, rfl⟩ := own_form hcv;have hrd := Rd.of_own hcv;have hvl : vs.length = cs.length := by have := hcv.1; omega
 have hz3 := hb3.size;clear hcv hb3;go_upto_region 6 with fail;go_loopw [6, 8, 23] (fun out _ i wr => ∃ k : Nat, i = .int .i64 (k : Nat) ∧ k ≤ cs.length ∧ OwnLL wr w.heap.size out ((cs.take k).filter (susp gr)) ∧ (∀ q, out.ownBlock = some q → w3.heap.size ≤ q) ∧ Below w3.heap.size w3 wr) (fun _ _ i _ => cs.length - (intOf i).toNat)
 case atStart => exact ⟨0, rfl, by omega, OwnLL.nil _ _, fun q e => (by cases e), Below.refl _ _⟩
 case round =>
  obtain ⟨k, rfl, hk, hO, hob6, hbr⟩ := hrel;have hk0 := zi k;have hwr := Wi k (by omega);by_cases hlt : k < cs.length
  ·have hd1 := Dt (show (k : Int) < cs.length by omega)
   have hd2 := Dt hlt;have hjl : (k : Int) < (cs.length : Int) := by omega
   obtain ⟨cb, co, rfl, hcb, hcc⟩ := Rd.addr hrd (by omega);have hck : cs[k]? = some cs[k] := List.getElem?_eq_getElem hlt;obtain ⟨g, cap, hvk, hgb, hgz, -, hgc⟩ := hvs k _ hck;have c0 := (hbr.cell (p := ⟨cb, co + k, none⟩) hcb).trans (hcc k _ hvk);have hge := hbr.size;obtain ⟨u, r, hur, hun⟩ := HFO.out _ (List.getElem_mem hlt)
   have HTK := hid (show (cs.take (k + 1)).filter (susp gr) = if susp gr cs[k] = true then (cs.take k).filter (susp gr) ++ [cs[k]] else (cs.take k).filter (susp gr) by
    rw [List.take_add_one, hck];simp only [Option.toList_some, List.filter_append, List.filter_cons, List.filter_nil];split <;> simp)
   have hgc2 : ∀ q (hq : q < (cs[k]).length), wr.cell? ⟨g, q, none⟩ = some (.int .i64 (cs[k])[q]) := fun q hq => (hbr.cell (p := ⟨g, q, none⟩) hgz).trans (hgc q hq)
   have HLL := hid hO;have hfl : ((cs.take k).filter (susp gr)).length ≤ 16 := Nat.le_trans (List.length_filter_le _ _) (by rw [List.length_take]; omega);clear hO hck hvk hgc;generalize cs[k] = cl at c0 hur HTK hgc2;subst hur;have g0 := hgc2 0 (by simp);obtain ⟨m, hm⟩ : ∃ m, m = (u :: r).length := ⟨_, rfl⟩
   rw [← hm] at c0;have HM := hid hm;have hm0 : (0 : Int) < (m : Int) := by rw [hm]; simp
   have hm00 : 0 < m := by omega
   by_cases hr0 : r = []
   ·subst hr0
    have hm1 : m = 1 := hm;have hd3 := Df (show ¬ (1 : Int) < m by omega);have hd4 := Df (show ¬ (1 < m) by omega);have HC := hid (HCT.out Ag Cg (u, u) wr.drew (Rd.more (hE3.below (hbr.trans ⟨rfl, rfl, rfl, Nat.le_refl _, fun _ _ => rfl⟩)) hbr.size));unfold edV at HC;simp only [List.getElem_cons_zero] at g0;clear hm hm1;go_wp2_with fail;go_still_tail 12, (by kernel_rfl)
    change wpList _ _ _ _ _ wr.drew;have hbr2 := hbr.drew;have hO2 := HLL.out.below (below_drews wr.heap.size wr 1);change OwnLL wr.drew _ _ _ at hO2;have hgc3 : ∀ q (hq : q < [u].length), wr.drew.cell? ⟨g, q, none⟩ = some (.int .i64 [u][q]) := hgc2;clear c0 g0 hgc2 HLL hbr hge;generalize wr.drew = wd at HC hbr2 hO2 hgc3 ⊢;go_wp2_with fail;refine HC.out.mono ?_;rintro e w4 ⟨rfl, hb4⟩;have HO4 := hO2.below hb4;have hbr4 := hbr2.trans (hb4.mono hbr2.size);have hgc4 : ∀ q (hq : q < [u].length), w4.cell? ⟨g, q, none⟩ = some (.int .i64 [u][q]) := fun q hq => (hb4.cell (p := ⟨g, q, none⟩) (by have := hbr2.size; show g < _; omega)).trans (hgc3 q hq)
    clear hO2 hbr2 hgc3 hb4 HC;by_cases hin : (u, u) ∈ gr
    ·rw [decide_eq_true hin]
     have HSU : Hid (susp gr [u] = true) := hid (by simp [susp, hin]);clear hin;have hba := below_alloc w4 (.cells #[.slice (some ⟨g, 0, none⟩) m cap] 27);obtain ⟨vs2, h1, h2⟩ := HO4.below hba;have hug : u6.ownBlock ≠ some g := fun e => by have := hob6 g e; omega
     have hge4 := hbr4.size;go_upto_region 10 with (at_builtin; refine wpList_append_own_at _ rfl (.tmp 41) (.tmp 43) _ rfl w.heap.size 27 i1 (.slice none 0 0) 1 24 Tryz.underlying35 hi1 hy0 hy1 hy2 rfl (by omega) _ _ _ rfl h1 ⟨w4.heap.size, 0, none⟩ 1 1 [.slice (some ⟨g, 0, none⟩) m cap] rfl rfl (cell_one_new _ _ _) (by simp [Value.oneCell']) (by unfold maxLen; omega) (by omega) (by simp; omega) ?_; intro v6 w6 hown6 hg6 _ hob7)
     rw [HM.out] at hown6;have hO7 := OwnLL.push h1 h2 hown6 hg6 hob7 (by omega) (by simp; omega) hug (fun q hq => (hba.cell (p := ⟨g, q, none⟩) (by show g < _; omega)).trans (hgc4 q hq));have hO8 : OwnLL w6 w.heap.size v6 ((cs.take (k + 1)).filter (susp gr)) := by rw [HTK.out, if_pos HSU.out]; exact hO7
     have hob8 : ∀ q, v6.ownBlock = some q → w3.heap.size ≤ q := fun q e => by
      rcases hob7 with z | z
      ·exact hob6 q (z ▸ e)
      ·rw [z] at e; injection e with e; simp at e; omega
     have hbr8 : Below w3.heap.size w3 w6 := (hbr4.trans (hba.mono hge4)).grown hg6 (by simp; omega) hob6;clear HO4 h1 h2 hown6 hg6 hob7 hba hO7 hbr4 hgc4;go_wp2_with fail;go_round
     case rel => exact ⟨k + 1, rfl, by omega, hO8, hob8, hbr8⟩
     case measure => exact ms (by omega)
    ·rw [decide_eq_false hin]
     have HSU : Hid (susp gr [u] = false) := hid (by simp [susp, hin]);clear hin;have hO8 : OwnLL w4 w.heap.size u6 ((cs.take (k + 1)).filter (susp gr)) := by rw [HTK.out, if_neg (by rw [HSU.out]; decide)]; exact HO4
     clear HO4 hgc4;go_wp2_with fail;go_round
     case rel => exact ⟨k + 1, rfl, by omega, hO8, hob6, hbr4⟩
     case measure => exact ms (by omega)
   ·have hm1 : 1 < m := by
     have := List.length_pos_iff.2 hr0;rw [hm, List.length_cons]; omega
    have hd3 := Dt (show (1 : Int) < m by omega);have hd4 := Dt hm1;have HSU : Hid (susp gr (u :: r) = true) := hid (by simp [susp, List.length_pos_iff.2 hr0]);clear hm hr0;go_wp2_with fail;go_quiet (fail);have hbr4 := hbr.trans (below_drews w3.heap.size wr nq);have HO4 := HLL.out.below (below_drews wr.heap.size wr nq);have hgc4 : ∀ q (hq : q < (u :: r).length), (wr.drewN nq).cell? ⟨g, q, none⟩ = some (.int .i64 (u :: r)[q]) := hgc2;clear c0 g0 hgc2 HLL hbr hge;generalize wr.drewN nq = w4 at hbr4 HO4 hgc4 ⊢;have hba := below_alloc w4 (.cells #[.slice (some ⟨g, 0, none⟩) m cap] 27);obtain ⟨vs2, h1, h2⟩ := HO4.below hba;have hug : u6.ownBlock ≠ some g := fun e => by have := hob6 g e; omega
    have hge4 := hbr4.size;go_upto_region 10 with (at_builtin; refine wpList_append_own_at _ rfl (.tmp 41) (.tmp 43) _ rfl w.heap.size 27 i1 (.slice none 0 0) 1 24 Tryz.underlying35 hi1 hy0 hy1 hy2 rfl (by omega) _ _ _ rfl h1 ⟨w4.heap.size, 0, none⟩ 1 1 [.slice (some ⟨g, 0, none⟩) m cap] rfl rfl (cell_one_new _ _ _) (by simp [Value.oneCell']) (by unfold maxLen; omega) (by omega) (by simp; omega) ?_; intro v6 w6 hown6 hg6 _ hob7)
    rw [HM.out] at hown6;have hO7 := OwnLL.push h1 h2 hown6 hg6 hob7 (by omega) (by simp; omega) hug (fun q hq => (hba.cell (p := ⟨g, q, none⟩) (by show g < _; omega)).trans (hgc4 q hq));have hO8 : OwnLL w6 w.heap.size v6 ((cs.take (k + 1)).filter (susp gr)) := by rw [HTK.out, if_pos HSU.out]; exact hO7
    have hob8 : ∀ q, v6.ownBlock = some q → w3.heap.size ≤ q := fun q e => by
     rcases hob7 with z | z
     ·exact hob6 q (z ▸ e)
     ·rw [z] at e; injection e with e; simp at e; omega
    have hbr8 : Below w3.heap.size w3 w6 := (hbr4.trans (hba.mono hge4)).grown hg6 (by simp; omega) hob6;clear HO4 h1 h2 hown6 hg6 hob7 hba hO7 hbr4 hgc4;go_wp2_with fail;go_round
    case rel => exact ⟨k + 1, rfl, by omega, hO8, hob8, hbr8⟩
    case measure => exact ms (by omega)
  ·have hd1 := Df (show ¬ (k : Int) < cs.length by omega)
   have hd2 := Df hlt;go_wp2_with fail;go_ret2;rw [List.take_of_length_le (by omega)] at hO;exact ⟨_, rfl, hO, hb.trans (hbr.mono (by omega))⟩
end
end Go.Proofs.YtkpjdanfpolimaaGreat
