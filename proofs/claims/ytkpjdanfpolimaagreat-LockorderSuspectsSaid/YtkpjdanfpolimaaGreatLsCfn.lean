/- program.checkFunc of a valid function, walked. Conditions: the program lies in memory, the function is valid. -/
import Derived.Test.YtkpjdanfpolimaaGreatLsInstr
import Derived.Test.YtkpjdanfpolimaaGreatLsRchk
set_option maxRecDepth 100000
set_option maxHeartbeats 6400000
namespace Go.Proofs.YtkpjdanfpolimaaGreat
open Go.RowKit Go.Shelf
/-- The numbers of a program's instructions are int64s. -/
def Fits (p : Prg) : Prop := ∀ f ∈ p.funs, ∀ i ∈ f.code, I64 i.a ∧ I64 i.b ∧ I64 i.c ∧ ∀ x ∈ i.args, I64 x
theorem chkFn_ok (p : Prg) (k : Nat) (hk : k < p.funs.length) (hfit : Fits p) (w : World) (h : Lies w w.heap.size p) (hv : fnOk p k p.funs[k]) : Calls Tryz.prog 83 #[p.val, .int .i64 k] w (Ret (.int .i64 0) w) := by
 have hn := h.funN
 unfold maxLen at hn
 obtain ⟨b, off, hA, hb, c0, c1, c2, c3, c4, c5⟩ := h.fn hk
 obtain ⟨hcN, hnm, hcc⟩ := h.codeN p.funs[k] (List.getElem_mem _)
 have hf : p.funs[k] ∈ p.funs := List.getElem_mem _
 obtain ⟨f, ho⟩ : ∃ f, p.funs[k] = f := ⟨_, rfl⟩
 rw [ho] at c0 c1 c2 c3 c4 c5 hnm hcN hcc hf hv
 unfold maxLen at hcN
 obtain ⟨v1, v2, v3, v4, v5, v6, v7, v8, v9⟩ := hv
 have hr : 0 ≤ f.regs ∧ f.regs ≤ 32 := by rw [inR2_iff] at v3 v4; omega
 have HIN := Lib.hid (show ∀ (j : Nat) (hj : j < f.code.length) (W : World), Below w.heap.size w W → Calls Tryz.prog 110 #[ckVal p f, f.code[j].val] W (Ret (.int .i64 0) W) from fun j hj W hb => by
  have hm : f.code[j] ∈ f.code := List.getElem_mem _
  have hI := hfit f hf _ hm
  exact instr_ok p f hf _ (h.argN f hf _ hm).1 (h.argN f hf _ hm).2 hr hI.1 hI.2.1 hI.2.2.1 hI.2.2.2 W (h.next hb) (((h.args f hf _ hm).below hb).more hb.size) (v9 _ hm))
 have HNM := Lib.hid (show ∀ W, Calls Tryz.prog 101 #[.string f.name] W (Ret (.bool true) W) from fun W => by have := isName_any f.name hnm W; rwa [v1] at this)
 have HW1 := Lib.hid (show ∀ W, Calls Tryz.prog 102 #[.int .i64 f.params, .int .i64 0, .int .i64 8] W (Ret (.bool true) W) from fun W => by have := within_any f.params 0 8 W; rwa [v3] at this)
 have HW2 := Lib.hid (show ∀ W, Calls Tryz.prog 102 #[.int .i64 f.regs, .int .i64 f.params, .int .i64 32] W (Ret (.bool true) W) from fun W => by have := within_any f.regs f.params 32 W; rwa [v4] at this)
 have HW3 := Lib.hid (show ∀ W, Calls Tryz.prog 102 #[.int .i64 f.prio, .int .i64 0, .int .i64 9] W (Ret (.bool true) W) from fun W => by have := within_any f.prio 0 9 W; rwa [v5] at this)
 have hlk : (p.funs.take k).length = k := by rw [List.length_take]; omega
 have hcon : ∀ (g : Nat) (W : World) (hb : Below w.heap.size w W), g < W.heap.size → W.cell? ⟨g, 0, none⟩ = some (.string f.name) → Calls Tryz.prog 108 #[.slice (some ⟨b, off, none⟩) k p.funC, .func (.func 109) #[] #[.pointer (some ⟨g, 0, none⟩)]] W (Ret (.bool false) W) := fun g W hb hg hc => by
  have hcall := hasFn1 (some ⟨b, off, none⟩) p.funC (p.funs.take k) f.name g W (by have h9 := RdL.take (RdL_next h.funs hb) (fun _ => rfl) (k := k) (by omega); rw [hA] at h9; exact h9) (by rw [hlk]; unfold maxLen; omega) hg hc
  rw [hlk] at hcall
  have he : (p.funs.take k).any (fun x => x.name == f.name) = false := (names_iff (nmOf := Fn.name) _ _).2 v2
  rwa [he] at hcall
 have HCON := Lib.hid hcon
 have hk0 : (0 : Int) ≤ (k : Int) := by omega
 have hk1 : (k : Int) < (p.funs.length : Int) := by omega
 have hkc : (k : Int) ≤ (p.funC : Int) := by have := h.caps.1; omega
 have hcl : ∀ (j : Nat) (hj : j < f.code.length), ∃ b off : Nat, f.codeA = some ⟨b, off, none⟩ ∧ b < w.heap.size ∧ w.cell? ⟨b, off + j * 5, none⟩ = some (.int .i64 f.code[j].op) ∧ w.cell? ⟨b, off + j * 5 + 1, none⟩ = some (.int .i64 f.code[j].a) ∧
  w.cell? ⟨b, off + j * 5 + 2, none⟩ = some (.int .i64 f.code[j].b) ∧ w.cell? ⟨b, off + j * 5 + 3, none⟩ = some (.int .i64 f.code[j].c) ∧ w.cell? ⟨b, off + j * 5 + 4, none⟩ = some (.slice f.code[j].argA f.code[j].args.length f.code[j].argC) := fun j hj => h.ins hf hj
 have HCD := Lib.hid hcl
 have g7a : decide ((200 : Int) < (f.code.length : Int)) = false := decide_eq_false (by omega)
 have g7b : decide (200 < f.code.length) = false := decide_eq_false (by omega)
 have hval : p.val = .agg #[.slice (some ⟨b, off, none⟩) p.funs.length p.funC, .slice p.obA p.obs.length p.obC, .slice p.vrA p.vrs.length p.vrC] := by rw [Prg.val, hA]
 rw [hval]
 have hT := one_new w #[.slice (some ⟨b, off, none⟩) p.funs.length p.funC, .slice p.obA p.obs.length p.obC, .slice p.vrA p.vrs.length p.vrC] 26
 unfold ckVal ckCells Ins.val Ins.cells at HIN
 rw [hA] at HIN
 have HV6 := Lib.hid v6
 have HV8 := Lib.hid v8
 clear hval hcl hcon hlk hr v1 v2 v3 v4 v5 v6 v8 v9 hfit hA h ho
 go_enter Tryz.func83, Tryz.ntmps83
 go_upto_region 1 with fail
 have c0 := (hT.below.cell (p := ⟨b, off + k * 6, none⟩) hb).trans c0
 have c1 := (hT.below.cell (p := ⟨b, off + k * 6 + 1, none⟩) hb).trans c1
 have c2 := (hT.below.cell (p := ⟨b, off + k * 6 + 2, none⟩) hb).trans c2
 have c3 := (hT.below.cell (p := ⟨b, off + k * 6 + 3, none⟩) hb).trans c3
 have c4 := (hT.below.cell (p := ⟨b, off + k * 6 + 4, none⟩) hb).trans c4
 have c5 := (hT.below.cell (p := ⟨b, off + k * 6 + 5, none⟩) hb).trans c5
 generalize World.alloc w _ = W0 at hT c0 c1 c2 c3 c4 c5 ⊢
 obtain ⟨x0, x1, x2⟩ := bx3 hT.fst
 go_upto_region 2 with fail
 have hF := bx_new W0 #[.string f.name, .int .i64 f.params, .int .i64 f.regs, .int .i64 f.prio, .bool f.clean, .slice f.codeA f.code.length f.codeC] 60
 have hT1 := hT.next (below_alloc W0 (.cells #[.string f.name, .int .i64 f.params, .int .i64 f.regs, .int .i64 f.prio, .bool f.clean, .slice f.codeA f.code.length f.codeC] 60))
 have hZ1 : W0.heap.size < (World.alloc W0 (.cells #[.string f.name, .int .i64 f.params, .int .i64 f.regs, .int .i64 f.prio, .bool f.clean, .slice f.codeA f.code.length f.codeC] 60)).heap.size := by simp
 generalize World.alloc W0 _ = W1 at hF hT1 hZ1 ⊢
 clear x0 x1 x2 c0 c1 c2 c3 c4 c5 hT
 generalize W0.heap.size = G at hF hZ1 ⊢
 obtain ⟨y0, y1, y2, y3, y4, y5⟩ := bx6 hF
 go_wp2_with fail
 refine (HNM.out _).mono ?_
 rintro e W2 ⟨rfl, hb2⟩
 have hT2 := hT1.next hb2
 have hF2 := hF.below hb2 hZ1
 have hZ2 : G < W2.heap.size := by have := hb2.size; omega
 clear y0 y1 y2 y3 y4 y5 hF hT1 hZ1
 obtain ⟨x0, x1, x2⟩ := bx3 hT2.fst
 obtain ⟨y0, y1, y2, y3, y4, y5⟩ := bx6 hF2
 go_wp2_with fail
 refine (HCON.out _ _ hT2.below hZ2 y0).mono ?_
 rintro e W3 ⟨rfl, hb3⟩
 have hT3 := hT2.next hb3
 have hF3 := hF2.below hb3 hZ2
 have hZ3 : G < W3.heap.size := by have := hb3.size; omega
 clear x0 x1 x2 y0 y1 y2 y3 y4 y5 hF2 hT2 hZ2
 obtain ⟨x0, x1, x2⟩ := bx3 hT3.fst
 obtain ⟨y0, y1, y2, y3, y4, y5⟩ := bx6 hF3
 go_wp2_with fail
 refine (HW1.out _).mono ?_
 rintro e W4 ⟨rfl, hb4⟩
 have hT4 := hT3.next hb4
 have hF4 := hF3.below hb4 hZ3
 have hZ4 : G < W4.heap.size := by have := hb4.size; omega
 clear x0 x1 x2 y0 y1 y2 y3 y4 y5 hF3 hT3 hZ3
 obtain ⟨x0, x1, x2⟩ := bx3 hT4.fst
 obtain ⟨y0, y1, y2, y3, y4, y5⟩ := bx6 hF4
 go_wp2_with fail
 refine (HW2.out _).mono ?_
 rintro e W5 ⟨rfl, hb5⟩
 have hT5 := hT4.next hb5
 have hF5 := hF4.below hb5 hZ4
 have hZ5 : G < W5.heap.size := by have := hb5.size; omega
 clear x0 x1 x2 y0 y1 y2 y3 y4 y5 hF4 hT4 hZ4
 obtain ⟨x0, x1, x2⟩ := bx3 hT5.fst
 obtain ⟨y0, y1, y2, y3, y4, y5⟩ := bx6 hF5
 go_wp2_with fail
 refine (HW3.out _).mono ?_
 rintro e W6 ⟨rfl, hb6⟩
 have hT6 := hT5.next hb6
 have hF6 := hF5.below hb6 hZ5
 have hZ6 : G < W6.heap.size := by have := hb6.size; omega
 clear x0 x1 x2 y0 y1 y2 y3 y4 y5 hF5 hT5 hZ5
 obtain ⟨x0, x1, x2⟩ := bx3 hT6.fst
 obtain ⟨y0, y1, y2, y3, y4, y5⟩ := bx6 hF6
 cases hcl : f.clean with
 | true =>
  have hk9 : ¬ k = 0 := fun e => by have := (HV8.out e).2; rw [hcl] at this; cases this
  have hp9 : f.prio = 0 := by
   have := HV6.out
   by_cases e : f.prio = 0
   ·exact e
   ·exact absurd ⟨hcl, e⟩ this
  have g1 : (f.prio != 0) = false := by rw [hp9]; rfl
  have g2 : ((k : Int) == 0) = false := by simp; omega
  have g3 : (k == 0) = false := by simp; omega
  rw [hcl] at y4 hF6
  have HCL := Lib.hid hcl
  clear hk9 hp9 hcl HV6 HV8
  go_upto_region 13 with fail
  have hK := bx_new W6 #[.slice (some ⟨b, off, none⟩) p.funs.length p.funC, .slice p.obA p.obs.length p.obC, .slice p.vrA p.vrs.length p.vrC, .string f.name, .int .i64 f.params, .int .i64 f.regs, .int .i64 f.prio, .bool true, .slice f.codeA f.code.length f.codeC] 144
  have hT7 := hT6.next (below_alloc W6 (.cells #[.slice (some ⟨b, off, none⟩) p.funs.length p.funC, .slice p.obA p.obs.length p.obC, .slice p.vrA p.vrs.length p.vrC, .string f.name, .int .i64 f.params, .int .i64 f.regs, .int .i64 f.prio, .bool true, .slice f.codeA f.code.length f.codeC] 144))
  have hF7 := hF6.below (below_alloc W6 (.cells #[.slice (some ⟨b, off, none⟩) p.funs.length p.funC, .slice p.obA p.obs.length p.obC, .slice p.vrA p.vrs.length p.vrC, .string f.name, .int .i64 f.params, .int .i64 f.regs, .int .i64 f.prio, .bool true, .slice f.codeA f.code.length f.codeC] 144)) hZ6
  have hZ7 : W6.heap.size < (World.alloc W6 (.cells #[.slice (some ⟨b, off, none⟩) p.funs.length p.funC, .slice p.obA p.obs.length p.obC, .slice p.vrA p.vrs.length p.vrC, .string f.name, .int .i64 f.params, .int .i64 f.regs, .int .i64 f.prio, .bool true, .slice f.codeA f.code.length f.codeC] 144)).heap.size := by simp
  generalize World.alloc W6 _ = W7 at hK hT7 hF7 hZ7 ⊢
  generalize W6.heap.size = Q at hK hZ6 hZ7 ⊢
  clear x0 x1 x2 y0 y1 y2 y3 y4 y5 hF6 hT6
  obtain ⟨y0, y1, y2, y3, y4, y5⟩ := bx6 hF7
  go_upto_region 14 with fail
  go_loopw [78] (fun k' wr => ∃ j : Nat, k' = .int .i64 j ∧ j ≤ f.code.length ∧ One w wr [.slice (some ⟨b, off, none⟩) p.funs.length p.funC, .slice p.obA p.obs.length p.obC, .slice p.vrA p.vrs.length p.vrC] ∧ Bx wr Q [.slice (some ⟨b, off, none⟩) p.funs.length p.funC, .slice p.obA p.obs.length p.obC, .slice p.vrA p.vrs.length p.vrC, .string f.name, .int .i64 f.params, .int .i64 f.regs, .int .i64 f.prio, .bool true, .slice f.codeA f.code.length f.codeC] ∧ Q < wr.heap.size) (fun k' _ => f.code.length - (intOf k').toNat)
  case atStart => exact ⟨0, rfl, by omega, hT7, hK, hZ7⟩
  case round =>
   obtain ⟨j, rfl, hj, hTr, hKr, hZr⟩ := hrel
   clear y0 y1 y2 y3 y4 y5
   obtain ⟨x0, x1, x2, x3, x4, x5, x6, x7, x8⟩ := bx9 hKr
   have hj0 : (0 : Int) ≤ (j : Int) := by omega
   have hwr1 : IntKind.i64.wrap ((j : Int) + 1) = (j : Int) + 1 := by rw [IntKind.wrap_i64]; omega
   by_cases hlt : j < f.code.length
   ·have hd1 : decide ((j : Int) < (f.code.length : Int)) = true := decide_eq_true (by omega)
    have hd2 : decide (j < f.code.length) = true := decide_eq_true hlt
    have hjl2 : (j : Int) < (f.code.length : Int) := by omega
    obtain ⟨b9, off9, hA9, hb9, d0, d1, d2, d3, d4⟩ := HCD.out j hlt
    have q0 := (hTr.below.cell (p := ⟨b9, off9 + j * 5, none⟩) hb9).trans d0
    have q1 := (hTr.below.cell (p := ⟨b9, off9 + j * 5 + 1, none⟩) hb9).trans d1
    have q2 := (hTr.below.cell (p := ⟨b9, off9 + j * 5 + 2, none⟩) hb9).trans d2
    have q3 := (hTr.below.cell (p := ⟨b9, off9 + j * 5 + 3, none⟩) hb9).trans d3
    have q4 := (hTr.below.cell (p := ⟨b9, off9 + j * 5 + 4, none⟩) hb9).trans d4
    have hcall := HIN.out j hlt
    rw [HCL.out] at hcall
    generalize f.code[j] = x at q0 q1 q2 q3 q4 hcall
    rw [hA9] at hcall hKr
    have HCALL := Lib.hid hcall
    clear hcall d0 d1 d2 d3 d4
    simp only [hA9]
    clear hA9 x8
    obtain ⟨-, -, -, -, -, -, -, -, x8⟩ := bx9 hKr
    go_upto_region 16 with fail
    have hB := bx_new wr #[.int .i64 x.op, .int .i64 x.a, .int .i64 x.b, .int .i64 x.c, .slice x.argA x.args.length x.argC] 63
    have hTb := hTr.next (below_alloc wr (.cells #[.int .i64 x.op, .int .i64 x.a, .int .i64 x.b, .int .i64 x.c, .slice x.argA x.args.length x.argC] 63))
    have hKb := hKr.below (below_alloc wr (.cells #[.int .i64 x.op, .int .i64 x.a, .int .i64 x.b, .int .i64 x.c, .slice x.argA x.args.length x.argC] 63)) hZr
    have hZb : wr.heap.size < (World.alloc wr (.cells #[.int .i64 x.op, .int .i64 x.a, .int .i64 x.b, .int .i64 x.c, .slice x.argA x.args.length x.argC] 63)).heap.size := by simp
    generalize World.alloc wr _ = Wb at hB hTb hKb hZb ⊢
    generalize wr.heap.size = V at hB hZb hZr ⊢
    clear x0 x1 x2 x3 x4 x5 x6 x7 x8 hTr hKr q0 q1 q2 q3 q4
    obtain ⟨x0, x1, x2, x3, x4, x5, x6, x7, x8⟩ := bx9 hKb
    obtain ⟨z0, z1, z2, z3, z4⟩ := bx5 hB
    go_wp2_with fail
    refine (HCALL.out _ hTb.below).mono ?_
    rintro e W9 ⟨rfl, hb9⟩
    have hT9 := hTb.next hb9
    have hK9 := hKb.below hb9 (by omega)
    have hZ9 : Q < W9.heap.size := by have := hb9.size; omega
    clear hb9
    go_wp2_with fail
    exact ⟨⟨j + 1, by go_num, by omega, hT9, hK9, hZ9⟩, by simp [intOf]; omega⟩
   ·have hd1 : decide ((j : Int) < (f.code.length : Int)) = false := decide_eq_false (by omega)
    have hd2 : decide (j < f.code.length) = false := decide_eq_false hlt
    clear hlt hj
    go_wp2_with fail
    go_ret
    exact ⟨rfl, hTr.below⟩
 | false =>
  rw [hcl] at y4 hF6
  have HCL := Lib.hid hcl
  by_cases hk9 : k = 0
  ·have hp9 := (HV8.out hk9).1
   have g1 : decide ((0 : Int) < f.params) = false := by rw [hp9]; rfl
   have g2 : ((k : Int) == 0) = true := by simp; omega
   have g3 : (k == 0) = true := by simp; omega
   clear hk9 hp9 hcl HV6 HV8
   go_upto_region 13 with fail
   have hK := bx_new W6 #[.slice (some ⟨b, off, none⟩) p.funs.length p.funC, .slice p.obA p.obs.length p.obC, .slice p.vrA p.vrs.length p.vrC, .string f.name, .int .i64 f.params, .int .i64 f.regs, .int .i64 f.prio, .bool false, .slice f.codeA f.code.length f.codeC] 144
   have hT7 := hT6.next (below_alloc W6 (.cells #[.slice (some ⟨b, off, none⟩) p.funs.length p.funC, .slice p.obA p.obs.length p.obC, .slice p.vrA p.vrs.length p.vrC, .string f.name, .int .i64 f.params, .int .i64 f.regs, .int .i64 f.prio, .bool false, .slice f.codeA f.code.length f.codeC] 144))
   have hF7 := hF6.below (below_alloc W6 (.cells #[.slice (some ⟨b, off, none⟩) p.funs.length p.funC, .slice p.obA p.obs.length p.obC, .slice p.vrA p.vrs.length p.vrC, .string f.name, .int .i64 f.params, .int .i64 f.regs, .int .i64 f.prio, .bool false, .slice f.codeA f.code.length f.codeC] 144)) hZ6
   have hZ7 : W6.heap.size < (World.alloc W6 (.cells #[.slice (some ⟨b, off, none⟩) p.funs.length p.funC, .slice p.obA p.obs.length p.obC, .slice p.vrA p.vrs.length p.vrC, .string f.name, .int .i64 f.params, .int .i64 f.regs, .int .i64 f.prio, .bool false, .slice f.codeA f.code.length f.codeC] 144)).heap.size := by simp
   generalize World.alloc W6 _ = W7 at hK hT7 hF7 hZ7 ⊢
   generalize W6.heap.size = Q at hK hZ6 hZ7 ⊢
   clear x0 x1 x2 y0 y1 y2 y3 y4 y5 hF6 hT6
   obtain ⟨y0, y1, y2, y3, y4, y5⟩ := bx6 hF7
   go_upto_region 14 with fail
   go_loopw [78] (fun k' wr => ∃ j : Nat, k' = .int .i64 j ∧ j ≤ f.code.length ∧ One w wr [.slice (some ⟨b, off, none⟩) p.funs.length p.funC, .slice p.obA p.obs.length p.obC, .slice p.vrA p.vrs.length p.vrC] ∧ Bx wr Q [.slice (some ⟨b, off, none⟩) p.funs.length p.funC, .slice p.obA p.obs.length p.obC, .slice p.vrA p.vrs.length p.vrC, .string f.name, .int .i64 f.params, .int .i64 f.regs, .int .i64 f.prio, .bool false, .slice f.codeA f.code.length f.codeC] ∧ Q < wr.heap.size) (fun k' _ => f.code.length - (intOf k').toNat)
   case atStart => exact ⟨0, rfl, by omega, hT7, hK, hZ7⟩
   case round =>
    obtain ⟨j, rfl, hj, hTr, hKr, hZr⟩ := hrel
    clear y0 y1 y2 y3 y4 y5
    obtain ⟨x0, x1, x2, x3, x4, x5, x6, x7, x8⟩ := bx9 hKr
    have hj0 : (0 : Int) ≤ (j : Int) := by omega
    have hwr1 : IntKind.i64.wrap ((j : Int) + 1) = (j : Int) + 1 := by rw [IntKind.wrap_i64]; omega
    by_cases hlt : j < f.code.length
    ·have hd1 : decide ((j : Int) < (f.code.length : Int)) = true := decide_eq_true (by omega)
     have hd2 : decide (j < f.code.length) = true := decide_eq_true hlt
     have hjl2 : (j : Int) < (f.code.length : Int) := by omega
     obtain ⟨b9, off9, hA9, hb9, d0, d1, d2, d3, d4⟩ := HCD.out j hlt
     have q0 := (hTr.below.cell (p := ⟨b9, off9 + j * 5, none⟩) hb9).trans d0
     have q1 := (hTr.below.cell (p := ⟨b9, off9 + j * 5 + 1, none⟩) hb9).trans d1
     have q2 := (hTr.below.cell (p := ⟨b9, off9 + j * 5 + 2, none⟩) hb9).trans d2
     have q3 := (hTr.below.cell (p := ⟨b9, off9 + j * 5 + 3, none⟩) hb9).trans d3
     have q4 := (hTr.below.cell (p := ⟨b9, off9 + j * 5 + 4, none⟩) hb9).trans d4
     have hcall := HIN.out j hlt
     rw [HCL.out] at hcall
     generalize f.code[j] = x at q0 q1 q2 q3 q4 hcall
     rw [hA9] at hcall hKr
     have HCALL := Lib.hid hcall
     clear hcall d0 d1 d2 d3 d4
     simp only [hA9]
     clear hA9 x8
     obtain ⟨-, -, -, -, -, -, -, -, x8⟩ := bx9 hKr
     go_upto_region 16 with fail
     have hB := bx_new wr #[.int .i64 x.op, .int .i64 x.a, .int .i64 x.b, .int .i64 x.c, .slice x.argA x.args.length x.argC] 63
     have hTb := hTr.next (below_alloc wr (.cells #[.int .i64 x.op, .int .i64 x.a, .int .i64 x.b, .int .i64 x.c, .slice x.argA x.args.length x.argC] 63))
     have hKb := hKr.below (below_alloc wr (.cells #[.int .i64 x.op, .int .i64 x.a, .int .i64 x.b, .int .i64 x.c, .slice x.argA x.args.length x.argC] 63)) hZr
     have hZb : wr.heap.size < (World.alloc wr (.cells #[.int .i64 x.op, .int .i64 x.a, .int .i64 x.b, .int .i64 x.c, .slice x.argA x.args.length x.argC] 63)).heap.size := by simp
     generalize World.alloc wr _ = Wb at hB hTb hKb hZb ⊢
     generalize wr.heap.size = V at hB hZb hZr ⊢
     clear x0 x1 x2 x3 x4 x5 x6 x7 x8 hTr hKr q0 q1 q2 q3 q4
     obtain ⟨x0, x1, x2, x3, x4, x5, x6, x7, x8⟩ := bx9 hKb
     obtain ⟨z0, z1, z2, z3, z4⟩ := bx5 hB
     go_wp2_with fail
     refine (HCALL.out _ hTb.below).mono ?_
     rintro e W9 ⟨rfl, hb9⟩
     have hT9 := hTb.next hb9
     have hK9 := hKb.below hb9 (by omega)
     have hZ9 : Q < W9.heap.size := by have := hb9.size; omega
     clear hb9
     go_wp2_with fail
     exact ⟨⟨j + 1, by go_num, by omega, hT9, hK9, hZ9⟩, by simp [intOf]; omega⟩
    ·have hd1 : decide ((j : Int) < (f.code.length : Int)) = false := decide_eq_false (by omega)
     have hd2 : decide (j < f.code.length) = false := decide_eq_false hlt
     clear hlt hj
     go_wp2_with fail
     go_ret
     exact ⟨rfl, hTr.below⟩
  ·have g2 : ((k : Int) == 0) = false := by simp; omega
   have g3 : (k == 0) = false := by simp; omega
   clear hk9 hcl HV6 HV8
   go_upto_region 13 with fail
   have hK := bx_new W6 #[.slice (some ⟨b, off, none⟩) p.funs.length p.funC, .slice p.obA p.obs.length p.obC, .slice p.vrA p.vrs.length p.vrC, .string f.name, .int .i64 f.params, .int .i64 f.regs, .int .i64 f.prio, .bool false, .slice f.codeA f.code.length f.codeC] 144
   have hT7 := hT6.next (below_alloc W6 (.cells #[.slice (some ⟨b, off, none⟩) p.funs.length p.funC, .slice p.obA p.obs.length p.obC, .slice p.vrA p.vrs.length p.vrC, .string f.name, .int .i64 f.params, .int .i64 f.regs, .int .i64 f.prio, .bool false, .slice f.codeA f.code.length f.codeC] 144))
   have hF7 := hF6.below (below_alloc W6 (.cells #[.slice (some ⟨b, off, none⟩) p.funs.length p.funC, .slice p.obA p.obs.length p.obC, .slice p.vrA p.vrs.length p.vrC, .string f.name, .int .i64 f.params, .int .i64 f.regs, .int .i64 f.prio, .bool false, .slice f.codeA f.code.length f.codeC] 144)) hZ6
   have hZ7 : W6.heap.size < (World.alloc W6 (.cells #[.slice (some ⟨b, off, none⟩) p.funs.length p.funC, .slice p.obA p.obs.length p.obC, .slice p.vrA p.vrs.length p.vrC, .string f.name, .int .i64 f.params, .int .i64 f.regs, .int .i64 f.prio, .bool false, .slice f.codeA f.code.length f.codeC] 144)).heap.size := by simp
   generalize World.alloc W6 _ = W7 at hK hT7 hF7 hZ7 ⊢
   generalize W6.heap.size = Q at hK hZ6 hZ7 ⊢
   clear x0 x1 x2 y0 y1 y2 y3 y4 y5 hF6 hT6
   obtain ⟨y0, y1, y2, y3, y4, y5⟩ := bx6 hF7
   go_upto_region 14 with fail
   go_loopw [78] (fun k' wr => ∃ j : Nat, k' = .int .i64 j ∧ j ≤ f.code.length ∧ One w wr [.slice (some ⟨b, off, none⟩) p.funs.length p.funC, .slice p.obA p.obs.length p.obC, .slice p.vrA p.vrs.length p.vrC] ∧ Bx wr Q [.slice (some ⟨b, off, none⟩) p.funs.length p.funC, .slice p.obA p.obs.length p.obC, .slice p.vrA p.vrs.length p.vrC, .string f.name, .int .i64 f.params, .int .i64 f.regs, .int .i64 f.prio, .bool false, .slice f.codeA f.code.length f.codeC] ∧ Q < wr.heap.size) (fun k' _ => f.code.length - (intOf k').toNat)
   case atStart => exact ⟨0, rfl, by omega, hT7, hK, hZ7⟩
   case round =>
    obtain ⟨j, rfl, hj, hTr, hKr, hZr⟩ := hrel
    clear y0 y1 y2 y3 y4 y5
    obtain ⟨x0, x1, x2, x3, x4, x5, x6, x7, x8⟩ := bx9 hKr
    have hj0 : (0 : Int) ≤ (j : Int) := by omega
    have hwr1 : IntKind.i64.wrap ((j : Int) + 1) = (j : Int) + 1 := by rw [IntKind.wrap_i64]; omega
    by_cases hlt : j < f.code.length
    ·have hd1 : decide ((j : Int) < (f.code.length : Int)) = true := decide_eq_true (by omega)
     have hd2 : decide (j < f.code.length) = true := decide_eq_true hlt
     have hjl2 : (j : Int) < (f.code.length : Int) := by omega
     obtain ⟨b9, off9, hA9, hb9, d0, d1, d2, d3, d4⟩ := HCD.out j hlt
     have q0 := (hTr.below.cell (p := ⟨b9, off9 + j * 5, none⟩) hb9).trans d0
     have q1 := (hTr.below.cell (p := ⟨b9, off9 + j * 5 + 1, none⟩) hb9).trans d1
     have q2 := (hTr.below.cell (p := ⟨b9, off9 + j * 5 + 2, none⟩) hb9).trans d2
     have q3 := (hTr.below.cell (p := ⟨b9, off9 + j * 5 + 3, none⟩) hb9).trans d3
     have q4 := (hTr.below.cell (p := ⟨b9, off9 + j * 5 + 4, none⟩) hb9).trans d4
     have hcall := HIN.out j hlt
     rw [HCL.out] at hcall
     generalize f.code[j] = x at q0 q1 q2 q3 q4 hcall
     rw [hA9] at hcall hKr
     have HCALL := Lib.hid hcall
     clear hcall d0 d1 d2 d3 d4
     simp only [hA9]
     clear hA9 x8
     obtain ⟨-, -, -, -, -, -, -, -, x8⟩ := bx9 hKr
     go_upto_region 16 with fail
     have hB := bx_new wr #[.int .i64 x.op, .int .i64 x.a, .int .i64 x.b, .int .i64 x.c, .slice x.argA x.args.length x.argC] 63
     have hTb := hTr.next (below_alloc wr (.cells #[.int .i64 x.op, .int .i64 x.a, .int .i64 x.b, .int .i64 x.c, .slice x.argA x.args.length x.argC] 63))
     have hKb := hKr.below (below_alloc wr (.cells #[.int .i64 x.op, .int .i64 x.a, .int .i64 x.b, .int .i64 x.c, .slice x.argA x.args.length x.argC] 63)) hZr
     have hZb : wr.heap.size < (World.alloc wr (.cells #[.int .i64 x.op, .int .i64 x.a, .int .i64 x.b, .int .i64 x.c, .slice x.argA x.args.length x.argC] 63)).heap.size := by simp
     generalize World.alloc wr _ = Wb at hB hTb hKb hZb ⊢
     generalize wr.heap.size = V at hB hZb hZr ⊢
     clear x0 x1 x2 x3 x4 x5 x6 x7 x8 hTr hKr q0 q1 q2 q3 q4
     obtain ⟨x0, x1, x2, x3, x4, x5, x6, x7, x8⟩ := bx9 hKb
     obtain ⟨z0, z1, z2, z3, z4⟩ := bx5 hB
     go_wp2_with fail
     refine (HCALL.out _ hTb.below).mono ?_
     rintro e W9 ⟨rfl, hb9⟩
     have hT9 := hTb.next hb9
     have hK9 := hKb.below hb9 (by omega)
     have hZ9 : Q < W9.heap.size := by have := hb9.size; omega
     clear hb9
     go_wp2_with fail
     exact ⟨⟨j + 1, by go_num, by omega, hT9, hK9, hZ9⟩, by simp [intOf]; omega⟩
    ·have hd1 : decide ((j : Int) < (f.code.length : Int)) = false := decide_eq_false (by omega)
     have hd2 : decide (j < f.code.length) = false := decide_eq_false hlt
     clear hlt hj
     go_wp2_with fail
     go_ret
     exact ⟨rfl, hTr.below⟩
end Go.Proofs.YtkpjdanfpolimaaGreat
