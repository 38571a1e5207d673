/- The checker's instr of a valid instruction, walked. Conditions: the program lies in memory, the instruction is valid. -/
import Derived.Test.YtkpjdanfpolimaaGreatLsRnd
import Derived.Test.YtkpjdanfpolimaaGreatLsRins
import Derived.Deep.CutRange
set_option linter.unusedSimpArgs false
set_option maxRecDepth 100000
set_option maxHeartbeats 6400000
namespace Go.Proofs.YtkpjdanfpolimaaGreat
open Go.RowKit Go.Shelf
/-- The number is an int64. -/
def I64 (n : Int) : Prop := -9223372036854775808 ≤ n ∧ n ≤ 9223372036854775807
theorem roleRel_le : ∀ x ∈ roleRel, x.2.1 ≤ 12 := by decide
theorem roleArg_le : ∀ x ∈ roleArg, x.2 ≤ 3 := by decide
/-- What a valid instruction is, in parts. -/
theorem insOk_parts {p : Prg} {f : Fn} {i : Ins} (h : insOk p f i) : ∃ (n0 n1 n2 g : Nat) (k0 k1 k2 : Int), shapeF i.op = some [(n0 : Int), k0, n1, k1, n2, k2, g] ∧ n0 ≤ 12 ∧ n1 ≤ 12 ∧ n2 ≤ 12 ∧ g ≤ 3 ∧ (f.clean = true → i.op ∉ forbL) ∧
  opOk p f n0 k0 i.a ∧ opOk p f n1 k1 i.b ∧ opOk p f n2 k2 i.c ∧ argsOk p f g i ∧ cflOk i ∧ (g = 1 → inR2 i.b 0 ((p.funs.length : Int) - 1) = true) := by
 obtain ⟨w0, k0, w1, k1, w2, k2, g, hs, hfo, o0, o1, o2, oa, oc⟩ := h
 have htab := tabOk_all i.op
 unfold tabOk at htab
 rw [hs] at htab
 match hl7 : roleF i.op, htab with
 | [r0, r1, r2, r3], htab =>
  simp only [Bool.and_eq_true, decide_eq_true_eq] at htab
  obtain ⟨⟨⟨⟨⟨⟨⟨⟨⟨t0, t1⟩, t2⟩, t3⟩, t4⟩, t5⟩, t6⟩, t7⟩, t8⟩, t9⟩ := htab
  refine ⟨w0.toNat, w1.toNat, w2.toNat, g.toNat, k0, k1, k2, ?_, roleRel_le _ t0, roleRel_le _ t1, roleRel_le _ t2, roleArg_le _ t3, hfo, o0, o1, o2, oa, oc, ?_⟩
  ·rw [hs, Int.toNat_of_nonneg t4, Int.toNat_of_nonneg t5, Int.toNat_of_nonneg t6, Int.toNat_of_nonneg t7]
  ·intro hg
   refine opOk_fun o1 ?_
   simp only [Bool.or_eq_true, Bool.not_eq_true', decide_eq_false_iff_not, decide_eq_true_eq] at t9
   omega
theorem bx7 {W : World} {g : Nat} {a b c d e f h : Value} (hb : Bx W g [a, b, c, d, e, f, h]) : W.cell? ⟨g, 0, none⟩ = some a ∧ W.cell? ⟨g, 1, none⟩ = some b ∧ W.cell? ⟨g, 2, none⟩ = some c ∧ W.cell? ⟨g, 3, none⟩ = some d ∧ W.cell? ⟨g, 4, none⟩ = some e ∧ W.cell? ⟨g, 5, none⟩ = some f ∧ W.cell? ⟨g, 6, none⟩ = some h :=
 ⟨hb 0 _ rfl, hb 1 _ rfl, hb 2 _ rfl, hb 3 _ rfl, hb 4 _ rfl, hb 5 _ rfl, hb 6 _ rfl⟩
/-- What a round of instr's loop keeps. -/
structure InR (w : World) (ck ins sh os bx : List Value) (G Q V : Nat) (W : World) : Prop where
 two : Two w W ck ins
 sh : Bx W G sh
 os : Bx W Q os
 bx : Bx W V bx
 le : G < Q ∧ Q < V ∧ V < W.heap.size
theorem InR.next {w : World} {ck ins sh os bx : List Value} {G Q V : Nat} {W W' : World} (h : InR w ck ins sh os bx G Q V W) (hb : Below W.heap.size W W') : InR w ck ins sh os bx G Q V W' :=
 ⟨h.two.next hb, h.sh.below hb (by have := h.le; omega), h.os.below hb (by have := h.le; omega), h.bx.below hb h.le.2.2, h.le.1, h.le.2.1, by have := h.le; have := hb.size; omega⟩
section
variable {p : Prg} {f : Fn} {w W W' : World} {cl : Bool} {op a b c n k : Int} {argA : Option Addr} {N argC : Nat} {sh os : List Value} {G Q V : Nat}
theorem inr_cells (h : InR w [.slice p.funA p.funs.length p.funC, .slice p.obA p.obs.length p.obC, .slice p.vrA p.vrs.length p.vrC, .string f.name, .int .i64 f.params, .int .i64 f.regs, .int .i64 f.prio, .bool cl, .slice f.codeA f.code.length f.codeC] [.int .i64 op, .int .i64 a, .int .i64 b, .int .i64 c, .slice argA N argC] sh os [.int .i64 n, .int .i64 k] G Q V W) : (W.cell? ⟨w.heap.size, 0, none⟩ = some (.slice p.funA p.funs.length p.funC) ∧ W.cell? ⟨w.heap.size, 1, none⟩ = some (.slice p.obA p.obs.length p.obC) ∧ W.cell? ⟨w.heap.size, 2, none⟩ = some (.slice p.vrA p.vrs.length p.vrC) ∧ W.cell? ⟨w.heap.size, 3, none⟩ = some (.string f.name) ∧ W.cell? ⟨w.heap.size, 4, none⟩ = some (.int .i64 f.params) ∧ W.cell? ⟨w.heap.size, 5, none⟩ = some (.int .i64 f.regs) ∧ W.cell? ⟨w.heap.size, 6, none⟩ = some (.int .i64 f.prio) ∧ W.cell? ⟨w.heap.size, 7, none⟩ = some (.bool cl) ∧ W.cell? ⟨w.heap.size, 8, none⟩ = some (.slice f.codeA f.code.length f.codeC) ∧ W.cell? ⟨w.heap.size + 1, 1, none⟩ = some (.int .i64 a) ∧ W.cell? ⟨w.heap.size + 1, 2, none⟩ = some (.int .i64 b) ∧ W.cell? ⟨w.heap.size + 1, 3, none⟩ = some (.int .i64 c) ∧ W.cell? ⟨V, 0, none⟩ = some (.int .i64 n) ∧ W.cell? ⟨V, 1, none⟩ = some (.int .i64 k)) ∧ InR w [.slice p.funA p.funs.length p.funC, .slice p.obA p.obs.length p.obC, .slice p.vrA p.vrs.length p.vrC, .string f.name, .int .i64 f.params, .int .i64 f.regs, .int .i64 f.prio, .bool cl, .slice f.codeA f.code.length f.codeC] [.int .i64 op, .int .i64 a, .int .i64 b, .int .i64 c, .slice argA N argC] sh os [.int .i64 n, .int .i64 k] G Q V W := by
 obtain ⟨x0, x1, x2, x3, x4, x5, x6, x7, x8⟩ := bx9 h.two.fst
 obtain ⟨z0, z1, z2, z3, z4⟩ := bx5 h.two.snd
 obtain ⟨b0, b1⟩ := bx2 h.bx
 exact ⟨⟨x0, x1, x2, x3, x4, x5, x6, x7, x8, z1, z2, z3, b0, b1⟩, h⟩
theorem inr_alloc (h : (W.cell? ⟨w.heap.size, 0, none⟩ = some (.slice p.funA p.funs.length p.funC) ∧ W.cell? ⟨w.heap.size, 1, none⟩ = some (.slice p.obA p.obs.length p.obC) ∧ W.cell? ⟨w.heap.size, 2, none⟩ = some (.slice p.vrA p.vrs.length p.vrC) ∧ W.cell? ⟨w.heap.size, 3, none⟩ = some (.string f.name) ∧ W.cell? ⟨w.heap.size, 4, none⟩ = some (.int .i64 f.params) ∧ W.cell? ⟨w.heap.size, 5, none⟩ = some (.int .i64 f.regs) ∧ W.cell? ⟨w.heap.size, 6, none⟩ = some (.int .i64 f.prio) ∧ W.cell? ⟨w.heap.size, 7, none⟩ = some (.bool cl) ∧ W.cell? ⟨w.heap.size, 8, none⟩ = some (.slice f.codeA f.code.length f.codeC) ∧ W.cell? ⟨w.heap.size + 1, 1, none⟩ = some (.int .i64 a) ∧ W.cell? ⟨w.heap.size + 1, 2, none⟩ = some (.int .i64 b) ∧ W.cell? ⟨w.heap.size + 1, 3, none⟩ = some (.int .i64 c) ∧ W.cell? ⟨V, 0, none⟩ = some (.int .i64 n) ∧ W.cell? ⟨V, 1, none⟩ = some (.int .i64 k)) ∧ InR w [.slice p.funA p.funs.length p.funC, .slice p.obA p.obs.length p.obC, .slice p.vrA p.vrs.length p.vrC, .string f.name, .int .i64 f.params, .int .i64 f.regs, .int .i64 f.prio, .bool cl, .slice f.codeA f.code.length f.codeC] [.int .i64 op, .int .i64 a, .int .i64 b, .int .i64 c, .slice argA N argC] sh os [.int .i64 n, .int .i64 k] G Q V W) (o : Obj) : ((W.alloc o).cell? ⟨w.heap.size, 0, none⟩ = some (.slice p.funA p.funs.length p.funC) ∧ (W.alloc o).cell? ⟨w.heap.size, 1, none⟩ = some (.slice p.obA p.obs.length p.obC) ∧ (W.alloc o).cell? ⟨w.heap.size, 2, none⟩ = some (.slice p.vrA p.vrs.length p.vrC) ∧ (W.alloc o).cell? ⟨w.heap.size, 3, none⟩ = some (.string f.name) ∧ (W.alloc o).cell? ⟨w.heap.size, 4, none⟩ = some (.int .i64 f.params) ∧ (W.alloc o).cell? ⟨w.heap.size, 5, none⟩ = some (.int .i64 f.regs) ∧ (W.alloc o).cell? ⟨w.heap.size, 6, none⟩ = some (.int .i64 f.prio) ∧ (W.alloc o).cell? ⟨w.heap.size, 7, none⟩ = some (.bool cl) ∧ (W.alloc o).cell? ⟨w.heap.size, 8, none⟩ = some (.slice f.codeA f.code.length f.codeC) ∧ (W.alloc o).cell? ⟨w.heap.size + 1, 1, none⟩ = some (.int .i64 a) ∧ (W.alloc o).cell? ⟨w.heap.size + 1, 2, none⟩ = some (.int .i64 b) ∧ (W.alloc o).cell? ⟨w.heap.size + 1, 3, none⟩ = some (.int .i64 c) ∧ (W.alloc o).cell? ⟨V, 0, none⟩ = some (.int .i64 n) ∧ (W.alloc o).cell? ⟨V, 1, none⟩ = some (.int .i64 k)) ∧ InR w [.slice p.funA p.funs.length p.funC, .slice p.obA p.obs.length p.obC, .slice p.vrA p.vrs.length p.vrC, .string f.name, .int .i64 f.params, .int .i64 f.regs, .int .i64 f.prio, .bool cl, .slice f.codeA f.code.length f.codeC] [.int .i64 op, .int .i64 a, .int .i64 b, .int .i64 c, .slice argA N argC] sh os [.int .i64 n, .int .i64 k] G Q V (W.alloc o) := inr_cells (h.2.next (below_alloc _ _))
theorem inr_below (h : (W.cell? ⟨w.heap.size, 0, none⟩ = some (.slice p.funA p.funs.length p.funC) ∧ W.cell? ⟨w.heap.size, 1, none⟩ = some (.slice p.obA p.obs.length p.obC) ∧ W.cell? ⟨w.heap.size, 2, none⟩ = some (.slice p.vrA p.vrs.length p.vrC) ∧ W.cell? ⟨w.heap.size, 3, none⟩ = some (.string f.name) ∧ W.cell? ⟨w.heap.size, 4, none⟩ = some (.int .i64 f.params) ∧ W.cell? ⟨w.heap.size, 5, none⟩ = some (.int .i64 f.regs) ∧ W.cell? ⟨w.heap.size, 6, none⟩ = some (.int .i64 f.prio) ∧ W.cell? ⟨w.heap.size, 7, none⟩ = some (.bool cl) ∧ W.cell? ⟨w.heap.size, 8, none⟩ = some (.slice f.codeA f.code.length f.codeC) ∧ W.cell? ⟨w.heap.size + 1, 1, none⟩ = some (.int .i64 a) ∧ W.cell? ⟨w.heap.size + 1, 2, none⟩ = some (.int .i64 b) ∧ W.cell? ⟨w.heap.size + 1, 3, none⟩ = some (.int .i64 c) ∧ W.cell? ⟨V, 0, none⟩ = some (.int .i64 n) ∧ W.cell? ⟨V, 1, none⟩ = some (.int .i64 k)) ∧ InR w [.slice p.funA p.funs.length p.funC, .slice p.obA p.obs.length p.obC, .slice p.vrA p.vrs.length p.vrC, .string f.name, .int .i64 f.params, .int .i64 f.regs, .int .i64 f.prio, .bool cl, .slice f.codeA f.code.length f.codeC] [.int .i64 op, .int .i64 a, .int .i64 b, .int .i64 c, .slice argA N argC] sh os [.int .i64 n, .int .i64 k] G Q V W) (hb : Below W.heap.size W W') : (W'.cell? ⟨w.heap.size, 0, none⟩ = some (.slice p.funA p.funs.length p.funC) ∧ W'.cell? ⟨w.heap.size, 1, none⟩ = some (.slice p.obA p.obs.length p.obC) ∧ W'.cell? ⟨w.heap.size, 2, none⟩ = some (.slice p.vrA p.vrs.length p.vrC) ∧ W'.cell? ⟨w.heap.size, 3, none⟩ = some (.string f.name) ∧ W'.cell? ⟨w.heap.size, 4, none⟩ = some (.int .i64 f.params) ∧ W'.cell? ⟨w.heap.size, 5, none⟩ = some (.int .i64 f.regs) ∧ W'.cell? ⟨w.heap.size, 6, none⟩ = some (.int .i64 f.prio) ∧ W'.cell? ⟨w.heap.size, 7, none⟩ = some (.bool cl) ∧ W'.cell? ⟨w.heap.size, 8, none⟩ = some (.slice f.codeA f.code.length f.codeC) ∧ W'.cell? ⟨w.heap.size + 1, 1, none⟩ = some (.int .i64 a) ∧ W'.cell? ⟨w.heap.size + 1, 2, none⟩ = some (.int .i64 b) ∧ W'.cell? ⟨w.heap.size + 1, 3, none⟩ = some (.int .i64 c) ∧ W'.cell? ⟨V, 0, none⟩ = some (.int .i64 n) ∧ W'.cell? ⟨V, 1, none⟩ = some (.int .i64 k)) ∧ InR w [.slice p.funA p.funs.length p.funC, .slice p.obA p.obs.length p.obC, .slice p.vrA p.vrs.length p.vrC, .string f.name, .int .i64 f.params, .int .i64 f.regs, .int .i64 f.prio, .bool cl, .slice f.codeA f.code.length f.codeC] [.int .i64 op, .int .i64 a, .int .i64 b, .int .i64 c, .slice argA N argC] sh os [.int .i64 n, .int .i64 k] G Q V W' := inr_cells (h.2.next hb)
end
theorem instr_ok (p : Prg) (f : Fn) (hf : f ∈ p.funs) (i : Ins) (hal : i.args.length ≤ maxLen) (hcap : i.args.length ≤ i.argC) (hr : 0 ≤ f.regs ∧ f.regs ≤ 32) (hia : I64 i.a) (hib : I64 i.b) (hic : I64 i.c) (hfit : ∀ x ∈ i.args, I64 x) (w : World) (h : Lies w w.heap.size p) (ha : Rd w w.heap.size 1 i.argA i.args.length (i64s i.args)) (hv : insOk p f i) :
  Calls Tryz.prog 110 #[ckVal p f, i.val] w (Ret (.int .i64 0) w) := by
 obtain ⟨n0, n1, n2, g, k0, k1, k2, hs, b0, b1, b2, bg, hfo, o0, o1, o2, oa, oc, og⟩ := insOk_parts hv
 have hsh : ∀ W, Calls Tryz.prog 124 #[.int .i64 i.op] W (Ret (.tuple #[.agg #[.int .i64 n0, .int .i64 k0, .int .i64 n1, .int .i64 k1, .int .i64 n2, .int .i64 k2, .int .i64 g], .bool true]) W) := fun W => by
  have := shape_any i.op W
  rw [hs] at this
  exact this
 have HSH := Lib.hid hsh
 have HO0 := Lib.hid (fun (W : World) (hb : Below w.heap.size w W) => (opd_any p f hf n0 b0 i.a k0 hia hr W (h.next hb)).mono fun e w' hh => hh.ok o0)
 have HO1 := Lib.hid (fun (W : World) (hb : Below w.heap.size w W) => (opd_any p f hf n1 b1 i.b k1 hib hr W (h.next hb)).mono fun e w' hh => hh.ok o1)
 have HO2 := Lib.hid (fun (W : World) (hb : Below w.heap.size w W) => (opd_any p f hf n2 b2 i.c k2 hic hr W (h.next hb)).mono fun e w' hh => hh.ok o2)
 have HAR := Lib.hid (fun (W : World) (hb : Below w.heap.size w W) => args_ok p f hf g bg i hal hcap hr hfit og W (h.next hb) ((ha.below hb).more hb.size) oa)
 have HCF := Lib.hid oc
 have HFO := Lib.hid hfo
 clear hsh hs b0 b1 b2 bg hfo o0 o1 o2 oa oc og hv hal hcap hr hia hib hic hfit h ha hf
 obtain ⟨op, a, b, c, args, argA, argC⟩ := i
 unfold ckVal ckCells Ins.val Ins.cells at *
 dsimp only at HO0 HO1 HO2 HAR HCF HFO HSH ⊢
 generalize args.length = N at HAR ⊢
 have hT := two_new w #[.slice p.funA p.funs.length p.funC, .slice p.obA p.obs.length p.obC, .slice p.vrA p.vrs.length p.vrC, .string f.name, .int .i64 f.params, .int .i64 f.regs, .int .i64 f.prio, .bool f.clean, .slice f.codeA f.code.length f.codeC] #[.int .i64 op, .int .i64 a, .int .i64 b, .int .i64 c, .slice argA N argC] 144 63
 go_enter Tryz.func110, Tryz.ntmps110
 go_wp2_with fail
 generalize World.alloc (World.alloc w _) _ = W1 at hT ⊢
 refine (HSH.out _).mono ?_
 rintro e W2 ⟨rfl, hb2⟩
 have hT2 := hT.next hb2
 go_upto_region 4 with fail
 have hF := bx_new W2 #[.int .i64 n0, .int .i64 k0, .int .i64 n1, .int .i64 k1, .int .i64 n2, .int .i64 k2, .int .i64 g] 162
 have hT3 := hT2.next (below_alloc W2 (.cells #[.int .i64 n0, .int .i64 k0, .int .i64 n1, .int .i64 k1, .int .i64 n2, .int .i64 k2, .int .i64 g] 162))
 have hZ3 : W2.heap.size < (World.alloc W2 (.cells #[.int .i64 n0, .int .i64 k0, .int .i64 n1, .int .i64 k1, .int .i64 n2, .int .i64 k2, .int .i64 g] 162)).heap.size := by simp
 have hZ2 := hT2.size
 generalize World.alloc W2 _ = W3 at hF hT3 hZ3 ⊢
 clear hT hT2
 generalize W2.heap.size = G at hF hZ3 hZ2 ⊢
 obtain ⟨x0, x1, x2, x3, x4, x5, x6, x7, x8⟩ := bx9 hT3.fst
 obtain ⟨z0, z1, z2, z3, z4⟩ := bx5 hT3.snd
 obtain ⟨s0, s1, s2, s3, s4, s5, s6⟩ := bx7 hF
 cases hcl : f.clean with
 | true =>
  rw [hcl] at x7 hT3
  have hfo := HFO.out hcl
  have HFB : Hid (∀ W, Calls Tryz.prog 125 #[.int .i64 op] W (Ret (.bool false) W)) := Lib.hid (fun W => by have := forb_any op W; rwa [decide_eq_false hfo] at this)
  have HCL := Lib.hid hcl
  rw [hcl] at HO0 HO1 HO2 HAR
  clear HFO hfo hcl
  go_upto_region 6 with fail
  refine (HFB.out _).mono ?_
  rintro e W4 ⟨rfl, hb4⟩
  have hT4 := hT3.next hb4
  have hF4 := hF.below hb4 hZ3
  have hZ4 : G < W4.heap.size := by have := hb4.size; omega
  clear hF hT3
  clear x0 x1 x2 x3 x4 x5 x6 x7 x8 z0 z1 z2 z3 z4 s0 s1 s2 s3 s4 s5 s6
  obtain ⟨s0, s1, s2, s3, s4, s5, s6⟩ := bx7 hF4
  go_upto_region 7 with fail
  have hO := bx_new W4 #[.int .i64 n0, .int .i64 k0, .int .i64 n1, .int .i64 k1, .int .i64 n2, .int .i64 k2] 160
  have hT5 := hT4.next (below_alloc W4 (.cells #[.int .i64 n0, .int .i64 k0, .int .i64 n1, .int .i64 k1, .int .i64 n2, .int .i64 k2] 160))
  have hF5 := hF4.below (below_alloc W4 (.cells #[.int .i64 n0, .int .i64 k0, .int .i64 n1, .int .i64 k1, .int .i64 n2, .int .i64 k2] 160)) hZ4
  have hZ5 : W4.heap.size < (World.alloc W4 (.cells #[.int .i64 n0, .int .i64 k0, .int .i64 n1, .int .i64 k1, .int .i64 n2, .int .i64 k2] 160)).heap.size := by simp
  generalize World.alloc W4 _ = W5 at hO hT5 hF5 hZ5 ⊢
  obtain ⟨Q, hQ⟩ : ∃ Q, W4.heap.size = Q := ⟨_, rfl⟩
  rw [hQ] at hO hZ5 hZ4 ⊢
  clear hT4 hF4 s0 s1 s2 s3 s4 s5 s6 hQ
  go_loopw [35] (fun k' wr => ∃ k : Nat, k' = .int .i64 k ∧ k ≤ 3 ∧ Two w wr [.slice p.funA p.funs.length p.funC, .slice p.obA p.obs.length p.obC, .slice p.vrA p.vrs.length p.vrC, .string f.name, .int .i64 f.params, .int .i64 f.regs, .int .i64 f.prio, .bool true, .slice f.codeA f.code.length f.codeC] [.int .i64 op, .int .i64 a, .int .i64 b, .int .i64 c, .slice argA N argC] ∧ Bx wr G [.int .i64 n0, .int .i64 k0, .int .i64 n1, .int .i64 k1, .int .i64 n2, .int .i64 k2, .int .i64 g] ∧ Bx wr Q [.int .i64 n0, .int .i64 k0, .int .i64 n1, .int .i64 k1, .int .i64 n2, .int .i64 k2] ∧ Q < wr.heap.size) (fun k' _ => 3 - (intOf k').toNat)
  case atStart => exact ⟨0, rfl, by omega, hT5, hF5, hO, hZ5⟩
  case round =>
   obtain ⟨k, rfl, hk, hTr, hFr, hOr, hZr⟩ := hrel
   obtain ⟨x0, x1, x2, x3, x4, x5, x6, x7, x8⟩ := bx9 hTr.fst
   obtain ⟨z0, z1, z2, z3, z4⟩ := bx5 hTr.snd
   obtain ⟨s0, s1, s2, s3, s4, s5, s6⟩ := bx7 hFr
   obtain ⟨o0, o1, o2, o3, o4, o5⟩ := bx6 hOr
   by_cases hlt : k < 3
   ·have hk3 : k = 0 ∨ k = 1 ∨ k = 2 := by omega
    clear hlt hk
    rcases hk3 with rfl | rfl | rfl
    ·go_upto_region 9 with fail
     have hB := bx_new wr #[.int .i64 n0, .int .i64 k0] 160
     have hTb := hTr.next (below_alloc wr (.cells #[.int .i64 n0, .int .i64 k0] 160))
     have hFb := hFr.below (below_alloc wr (.cells #[.int .i64 n0, .int .i64 k0] 160)) (by omega)
     have hOb := hOr.below (below_alloc wr (.cells #[.int .i64 n0, .int .i64 k0] 160)) hZr
     have hZb : wr.heap.size < (World.alloc wr (.cells #[.int .i64 n0, .int .i64 k0] 160)).heap.size := by simp
     generalize World.alloc wr _ = Wb at hB hTb hFb hOb hZb ⊢
     obtain ⟨V, hV⟩ : ∃ V, wr.heap.size = V := ⟨_, rfl⟩
     rw [hV] at hB hZb hZr ⊢
     clear hTr hFr hOr hV x0 x1 x2 x3 x4 x5 x6 x7 x8 z0 z1 z2 z3 z4 s0 s1 s2 s3 s4 s5 s6 o0 o1 o2 o3 o4 o5
     have hR := inr_cells (W := Wb) ⟨hTb, hFb, hOb, hB, hZ4, hZr, hZb⟩
     clear hB hTb hFb hOb hZb
     refine wp_region_held_drew (S := (fun w' => (w'.cell? ⟨w.heap.size, 0, none⟩ = some (.slice p.funA p.funs.length p.funC) ∧ w'.cell? ⟨w.heap.size, 1, none⟩ = some (.slice p.obA p.obs.length p.obC) ∧ w'.cell? ⟨w.heap.size, 2, none⟩ = some (.slice p.vrA p.vrs.length p.vrC) ∧ w'.cell? ⟨w.heap.size, 3, none⟩ = some (.string f.name) ∧ w'.cell? ⟨w.heap.size, 4, none⟩ = some (.int .i64 f.params) ∧ w'.cell? ⟨w.heap.size, 5, none⟩ = some (.int .i64 f.regs) ∧ w'.cell? ⟨w.heap.size, 6, none⟩ = some (.int .i64 f.prio) ∧ w'.cell? ⟨w.heap.size, 7, none⟩ = some (.bool true) ∧ w'.cell? ⟨w.heap.size, 8, none⟩ = some (.slice f.codeA f.code.length f.codeC) ∧ w'.cell? ⟨w.heap.size + 1, 1, none⟩ = some (.int .i64 a) ∧ w'.cell? ⟨w.heap.size + 1, 2, none⟩ = some (.int .i64 b) ∧ w'.cell? ⟨w.heap.size + 1, 3, none⟩ = some (.int .i64 c) ∧ w'.cell? ⟨V, 0, none⟩ = some (.int .i64 n0) ∧ w'.cell? ⟨V, 1, none⟩ = some (.int .i64 k0)) ∧ InR w [.slice p.funA p.funs.length p.funC, .slice p.obA p.obs.length p.obC, .slice p.vrA p.vrs.length p.vrC, .string f.name, .int .i64 f.params, .int .i64 f.regs, .int .i64 f.prio, .bool true, .slice f.codeA f.code.length f.codeC] [.int .i64 op, .int .i64 a, .int .i64 b, .int .i64 c, .slice argA N argC] [.int .i64 n0, .int .i64 k0, .int .i64 n1, .int .i64 k1, .int .i64 n2, .int .i64 k2, .int .i64 g] [.int .i64 n0, .int .i64 k0, .int .i64 n1, .int .i64 k1, .int .i64 n2, .int .i64 k2] [.int .i64 n0, .int .i64 k0] G Q V w')) (by kernel_rfl) (inr_below hR (below_drews _ _ 1)) (fun hHeld => ?_)
     have hRd := hHeld
     clear hR
     generalize Wb.drew = Wd at hRd hHeld ⊢
     refine tkH (i := 0) rfl (fun _ _ _ h => h) ?_
     try simp only [frS, Act.put]
     refine tkH (i := 1) rfl (fun _ _ _ h => h) ?_
     try simp only [frS, Act.put]
     refine tkH (i := 2) rfl (fun _ _ _ h => h) ?_
     try simp only [frS, Act.put]
     refine tkH (i := 3) rfl (fun _ _ _ h => h) ?_
     try simp only [frS, Act.put]
     refine tkH (i := 4) rfl (fun _ _ _ h => h) ?_
     try simp only [frS, Act.put]
     refine tkH (i := 5) rfl (fun _ _ _ h => h) ?_
     try simp only [frS, Act.put]
     refine tkH (i := 6) rfl (fun _ _ _ h => h) ?_
     try simp only [frS, Act.put]
     refine tkH (i := 7) rfl (fun _ _ _ h => h) ?_
     try simp only [frS, Act.put]
     refine tkH (i := 9) rfl (fun _ _ _ h => h) ?_
     try simp only [frS, Act.put]
     refine rdH (i := 8) rfl fun K hK => ?_
     go_simp
     refine hK.out _ _ ?_ (fun hHeld => ?_)
     ·exact inr_alloc hRd _
     clear hK K
     try simp only [frS, Act.put]
     refine tkH (i := 10) rfl (fun _ _ _ h => h) ?_
     try simp only [frS, Act.put]
     refine rdH (i := 11) rfl fun K hK => ?_
     go_simp
     refine hK.out _ _ ?_ (fun hHeld => ?_)
     ·assumption
     clear hK K
     try simp only [frS, Act.put]
     refine rdH (i := 12) rfl fun K hK => ?_
     go_simp
     refine (HO0.out _ (inr_alloc hRd _).2.two.below).mono ?_
     rintro e W6 ⟨rfl, hb6⟩
     try simp only []
     refine hK.out _ _ ?_ (fun hHeld => ?_)
     ·exact inr_below (inr_alloc hRd _) hb6
     clear hK K
     try simp only [frS, Act.put]
     refine tkH (i := 13) rfl (fun _ _ _ h => h) ?_
     try simp only [frS, Act.put]
     refine wpAnyH_done (by kernel_rfl) ?_ _
     have h9 := (inr_below (inr_alloc hRd _) hb6).2
     clear hb6 hRd hHeld
     go_wp2_with fail
     exact ⟨⟨1, rfl, by omega, h9.two, h9.sh, h9.os, by have := h9.le; omega⟩, by simp [intOf]⟩
    ·go_upto_region 9 with fail
     have hB := bx_new wr #[.int .i64 n1, .int .i64 k1] 160
     have hTb := hTr.next (below_alloc wr (.cells #[.int .i64 n1, .int .i64 k1] 160))
     have hFb := hFr.below (below_alloc wr (.cells #[.int .i64 n1, .int .i64 k1] 160)) (by omega)
     have hOb := hOr.below (below_alloc wr (.cells #[.int .i64 n1, .int .i64 k1] 160)) hZr
     have hZb : wr.heap.size < (World.alloc wr (.cells #[.int .i64 n1, .int .i64 k1] 160)).heap.size := by simp
     generalize World.alloc wr _ = Wb at hB hTb hFb hOb hZb ⊢
     obtain ⟨V, hV⟩ : ∃ V, wr.heap.size = V := ⟨_, rfl⟩
     rw [hV] at hB hZb hZr ⊢
     clear hTr hFr hOr hV x0 x1 x2 x3 x4 x5 x6 x7 x8 z0 z1 z2 z3 z4 s0 s1 s2 s3 s4 s5 s6 o0 o1 o2 o3 o4 o5
     have hR := inr_cells (W := Wb) ⟨hTb, hFb, hOb, hB, hZ4, hZr, hZb⟩
     clear hB hTb hFb hOb hZb
     refine wp_region_held_drew (S := (fun w' => (w'.cell? ⟨w.heap.size, 0, none⟩ = some (.slice p.funA p.funs.length p.funC) ∧ w'.cell? ⟨w.heap.size, 1, none⟩ = some (.slice p.obA p.obs.length p.obC) ∧ w'.cell? ⟨w.heap.size, 2, none⟩ = some (.slice p.vrA p.vrs.length p.vrC) ∧ w'.cell? ⟨w.heap.size, 3, none⟩ = some (.string f.name) ∧ w'.cell? ⟨w.heap.size, 4, none⟩ = some (.int .i64 f.params) ∧ w'.cell? ⟨w.heap.size, 5, none⟩ = some (.int .i64 f.regs) ∧ w'.cell? ⟨w.heap.size, 6, none⟩ = some (.int .i64 f.prio) ∧ w'.cell? ⟨w.heap.size, 7, none⟩ = some (.bool true) ∧ w'.cell? ⟨w.heap.size, 8, none⟩ = some (.slice f.codeA f.code.length f.codeC) ∧ w'.cell? ⟨w.heap.size + 1, 1, none⟩ = some (.int .i64 a) ∧ w'.cell? ⟨w.heap.size + 1, 2, none⟩ = some (.int .i64 b) ∧ w'.cell? ⟨w.heap.size + 1, 3, none⟩ = some (.int .i64 c) ∧ w'.cell? ⟨V, 0, none⟩ = some (.int .i64 n1) ∧ w'.cell? ⟨V, 1, none⟩ = some (.int .i64 k1)) ∧ InR w [.slice p.funA p.funs.length p.funC, .slice p.obA p.obs.length p.obC, .slice p.vrA p.vrs.length p.vrC, .string f.name, .int .i64 f.params, .int .i64 f.regs, .int .i64 f.prio, .bool true, .slice f.codeA f.code.length f.codeC] [.int .i64 op, .int .i64 a, .int .i64 b, .int .i64 c, .slice argA N argC] [.int .i64 n0, .int .i64 k0, .int .i64 n1, .int .i64 k1, .int .i64 n2, .int .i64 k2, .int .i64 g] [.int .i64 n0, .int .i64 k0, .int .i64 n1, .int .i64 k1, .int .i64 n2, .int .i64 k2] [.int .i64 n1, .int .i64 k1] G Q V w')) (by kernel_rfl) (inr_below hR (below_drews _ _ 1)) (fun hHeld => ?_)
     have hRd := hHeld
     clear hR
     generalize Wb.drew = Wd at hRd hHeld ⊢
     refine tkH (i := 0) rfl (fun _ _ _ h => h) ?_
     try simp only [frS, Act.put]
     refine tkH (i := 1) rfl (fun _ _ _ h => h) ?_
     try simp only [frS, Act.put]
     refine tkH (i := 2) rfl (fun _ _ _ h => h) ?_
     try simp only [frS, Act.put]
     refine tkH (i := 3) rfl (fun _ _ _ h => h) ?_
     try simp only [frS, Act.put]
     refine tkH (i := 4) rfl (fun _ _ _ h => h) ?_
     try simp only [frS, Act.put]
     refine tkH (i := 5) rfl (fun _ _ _ h => h) ?_
     try simp only [frS, Act.put]
     refine tkH (i := 6) rfl (fun _ _ _ h => h) ?_
     try simp only [frS, Act.put]
     refine tkH (i := 7) rfl (fun _ _ _ h => h) ?_
     try simp only [frS, Act.put]
     refine tkH (i := 9) rfl (fun _ _ _ h => h) ?_
     try simp only [frS, Act.put]
     refine rdH (i := 8) rfl fun K hK => ?_
     go_simp
     refine hK.out _ _ ?_ (fun hHeld => ?_)
     ·exact inr_alloc hRd _
     clear hK K
     try simp only [frS, Act.put]
     refine tkH (i := 10) rfl (fun _ _ _ h => h) ?_
     try simp only [frS, Act.put]
     refine rdH (i := 11) rfl fun K hK => ?_
     go_simp
     refine hK.out _ _ ?_ (fun hHeld => ?_)
     ·assumption
     clear hK K
     try simp only [frS, Act.put]
     refine rdH (i := 12) rfl fun K hK => ?_
     go_simp
     refine (HO1.out _ (inr_alloc hRd _).2.two.below).mono ?_
     rintro e W6 ⟨rfl, hb6⟩
     try simp only []
     refine hK.out _ _ ?_ (fun hHeld => ?_)
     ·exact inr_below (inr_alloc hRd _) hb6
     clear hK K
     try simp only [frS, Act.put]
     refine tkH (i := 13) rfl (fun _ _ _ h => h) ?_
     try simp only [frS, Act.put]
     refine wpAnyH_done (by kernel_rfl) ?_ _
     have h9 := (inr_below (inr_alloc hRd _) hb6).2
     clear hb6 hRd hHeld
     go_wp2_with fail
     exact ⟨⟨2, rfl, by omega, h9.two, h9.sh, h9.os, by have := h9.le; omega⟩, by simp [intOf]⟩
    ·go_upto_region 9 with fail
     have hB := bx_new wr #[.int .i64 n2, .int .i64 k2] 160
     have hTb := hTr.next (below_alloc wr (.cells #[.int .i64 n2, .int .i64 k2] 160))
     have hFb := hFr.below (below_alloc wr (.cells #[.int .i64 n2, .int .i64 k2] 160)) (by omega)
     have hOb := hOr.below (below_alloc wr (.cells #[.int .i64 n2, .int .i64 k2] 160)) hZr
     have hZb : wr.heap.size < (World.alloc wr (.cells #[.int .i64 n2, .int .i64 k2] 160)).heap.size := by simp
     generalize World.alloc wr _ = Wb at hB hTb hFb hOb hZb ⊢
     obtain ⟨V, hV⟩ : ∃ V, wr.heap.size = V := ⟨_, rfl⟩
     rw [hV] at hB hZb hZr ⊢
     clear hTr hFr hOr hV x0 x1 x2 x3 x4 x5 x6 x7 x8 z0 z1 z2 z3 z4 s0 s1 s2 s3 s4 s5 s6 o0 o1 o2 o3 o4 o5
     have hR := inr_cells (W := Wb) ⟨hTb, hFb, hOb, hB, hZ4, hZr, hZb⟩
     clear hB hTb hFb hOb hZb
     refine wp_region_held_drew (S := (fun w' => (w'.cell? ⟨w.heap.size, 0, none⟩ = some (.slice p.funA p.funs.length p.funC) ∧ w'.cell? ⟨w.heap.size, 1, none⟩ = some (.slice p.obA p.obs.length p.obC) ∧ w'.cell? ⟨w.heap.size, 2, none⟩ = some (.slice p.vrA p.vrs.length p.vrC) ∧ w'.cell? ⟨w.heap.size, 3, none⟩ = some (.string f.name) ∧ w'.cell? ⟨w.heap.size, 4, none⟩ = some (.int .i64 f.params) ∧ w'.cell? ⟨w.heap.size, 5, none⟩ = some (.int .i64 f.regs) ∧ w'.cell? ⟨w.heap.size, 6, none⟩ = some (.int .i64 f.prio) ∧ w'.cell? ⟨w.heap.size, 7, none⟩ = some (.bool true) ∧ w'.cell? ⟨w.heap.size, 8, none⟩ = some (.slice f.codeA f.code.length f.codeC) ∧ w'.cell? ⟨w.heap.size + 1, 1, none⟩ = some (.int .i64 a) ∧ w'.cell? ⟨w.heap.size + 1, 2, none⟩ = some (.int .i64 b) ∧ w'.cell? ⟨w.heap.size + 1, 3, none⟩ = some (.int .i64 c) ∧ w'.cell? ⟨V, 0, none⟩ = some (.int .i64 n2) ∧ w'.cell? ⟨V, 1, none⟩ = some (.int .i64 k2)) ∧ InR w [.slice p.funA p.funs.length p.funC, .slice p.obA p.obs.length p.obC, .slice p.vrA p.vrs.length p.vrC, .string f.name, .int .i64 f.params, .int .i64 f.regs, .int .i64 f.prio, .bool true, .slice f.codeA f.code.length f.codeC] [.int .i64 op, .int .i64 a, .int .i64 b, .int .i64 c, .slice argA N argC] [.int .i64 n0, .int .i64 k0, .int .i64 n1, .int .i64 k1, .int .i64 n2, .int .i64 k2, .int .i64 g] [.int .i64 n0, .int .i64 k0, .int .i64 n1, .int .i64 k1, .int .i64 n2, .int .i64 k2] [.int .i64 n2, .int .i64 k2] G Q V w')) (by kernel_rfl) (inr_below hR (below_drews _ _ 1)) (fun hHeld => ?_)
     have hRd := hHeld
     clear hR
     generalize Wb.drew = Wd at hRd hHeld ⊢
     refine tkH (i := 0) rfl (fun _ _ _ h => h) ?_
     try simp only [frS, Act.put]
     refine tkH (i := 1) rfl (fun _ _ _ h => h) ?_
     try simp only [frS, Act.put]
     refine tkH (i := 2) rfl (fun _ _ _ h => h) ?_
     try simp only [frS, Act.put]
     refine tkH (i := 3) rfl (fun _ _ _ h => h) ?_
     try simp only [frS, Act.put]
     refine tkH (i := 4) rfl (fun _ _ _ h => h) ?_
     try simp only [frS, Act.put]
     refine tkH (i := 5) rfl (fun _ _ _ h => h) ?_
     try simp only [frS, Act.put]
     refine tkH (i := 6) rfl (fun _ _ _ h => h) ?_
     try simp only [frS, Act.put]
     refine tkH (i := 7) rfl (fun _ _ _ h => h) ?_
     try simp only [frS, Act.put]
     refine tkH (i := 9) rfl (fun _ _ _ h => h) ?_
     try simp only [frS, Act.put]
     refine rdH (i := 8) rfl fun K hK => ?_
     go_simp
     refine hK.out _ _ ?_ (fun hHeld => ?_)
     ·exact inr_alloc hRd _
     clear hK K
     try simp only [frS, Act.put]
     refine tkH (i := 10) rfl (fun _ _ _ h => h) ?_
     try simp only [frS, Act.put]
     refine rdH (i := 11) rfl fun K hK => ?_
     go_simp
     refine hK.out _ _ ?_ (fun hHeld => ?_)
     ·assumption
     clear hK K
     try simp only [frS, Act.put]
     refine rdH (i := 12) rfl fun K hK => ?_
     go_simp
     refine (HO2.out _ (inr_alloc hRd _).2.two.below).mono ?_
     rintro e W6 ⟨rfl, hb6⟩
     try simp only []
     refine hK.out _ _ ?_ (fun hHeld => ?_)
     ·exact inr_below (inr_alloc hRd _) hb6
     clear hK K
     try simp only [frS, Act.put]
     refine tkH (i := 13) rfl (fun _ _ _ h => h) ?_
     try simp only [frS, Act.put]
     refine wpAnyH_done (by kernel_rfl) ?_ _
     have h9 := (inr_below (inr_alloc hRd _) hb6).2
     clear hb6 hRd hHeld
     go_wp2_with fail
     exact ⟨⟨3, rfl, by omega, h9.two, h9.sh, h9.os, by have := h9.le; omega⟩, by simp [intOf]⟩
   ·obtain rfl : k = 3 := by omega
    clear hk hlt
    go_wp2_with fail
    refine (HAR.out _ hTr.below).mono ?_
    rintro e W6 ⟨rfl, hb6⟩
    have hT6 := hTr.next hb6
    clear hTr hFr hOr x0 x1 x2 x3 x4 x5 x6 x7 x8 z0 z1 z2 z3 z4 s0 s1 s2 s3 s4 s5 s6 o0 o1 o2 o3 o4 o5
    obtain ⟨z0, z1, z2, z3, z4⟩ := bx5 hT6.snd
    obtain ⟨c1, c2⟩ := HCF.out
    dsimp only at c1 c2
    by_cases e65 : op = 65
    ·have e67 : ¬ op = 67 := by omega
     have eac : ¬ a = c := fun z => c1 ⟨e65, z⟩
     have q1 : (op == 65) = true := by simpa using e65
     have q2 : (op == 67) = false := by simpa using e67
     have q3 : (a == c) = false := by simpa using eac
     clear c1 c2 e65 e67 eac
     go_wp2_with fail
     go_ret
     exact ⟨rfl, hT6.below⟩
    ·by_cases e67 : op = 67
     ·have eab : ¬ a = b := fun z => c2 ⟨e67, .inl z⟩
      have eac : ¬ a = c := fun z => c2 ⟨e67, .inr (.inl z)⟩
      have ebc : ¬ b = c := fun z => c2 ⟨e67, .inr (.inr z)⟩
      have q1 : (op == 65) = false := by simpa using e65
      have q2 : (op == 67) = true := by simpa using e67
      have q3 : (a == c) = false := by simpa using eac
      have q4 : (a == b) = false := by simpa using eab
      have q5 : (b == c) = false := by simpa using ebc
      clear c1 c2 e65 e67 eac eab ebc
      go_wp2_with fail
      go_ret
      exact ⟨rfl, hT6.below⟩
     ·have q1 : (op == 65) = false := by simpa using e65
      have q2 : (op == 67) = false := by simpa using e67
      clear c1 c2 e65 e67
      go_wp2_with fail
      go_ret
      exact ⟨rfl, hT6.below⟩
 | false =>
  rw [hcl] at x7 hT3
  have HCL := Lib.hid hcl
  rw [hcl] at HO0 HO1 HO2 HAR
  clear HFO hcl
  have hF3 := hF
  clear hF
  go_upto_region 6 with fail
  clear x0 x1 x2 x3 x4 x5 x6 x7 x8 z0 z1 z2 z3 z4 s0 s1 s2 s3 s4 s5 s6
  obtain ⟨s0, s1, s2, s3, s4, s5, s6⟩ := bx7 hF3
  go_upto_region 7 with fail
  have hO := bx_new W3 #[.int .i64 n0, .int .i64 k0, .int .i64 n1, .int .i64 k1, .int .i64 n2, .int .i64 k2] 160
  have hT5 := hT3.next (below_alloc W3 (.cells #[.int .i64 n0, .int .i64 k0, .int .i64 n1, .int .i64 k1, .int .i64 n2, .int .i64 k2] 160))
  have hF5 := hF3.below (below_alloc W3 (.cells #[.int .i64 n0, .int .i64 k0, .int .i64 n1, .int .i64 k1, .int .i64 n2, .int .i64 k2] 160)) hZ3
  have hZ5 : W3.heap.size < (World.alloc W3 (.cells #[.int .i64 n0, .int .i64 k0, .int .i64 n1, .int .i64 k1, .int .i64 n2, .int .i64 k2] 160)).heap.size := by simp
  generalize World.alloc W3 _ = W5 at hO hT5 hF5 hZ5 ⊢
  obtain ⟨Q, hQ⟩ : ∃ Q, W3.heap.size = Q := ⟨_, rfl⟩
  rw [hQ] at hO hZ5 hZ3 ⊢
  clear hT3 hF3 s0 s1 s2 s3 s4 s5 s6 hQ
  go_loopw [35] (fun k' wr => ∃ k : Nat, k' = .int .i64 k ∧ k ≤ 3 ∧ Two w wr [.slice p.funA p.funs.length p.funC, .slice p.obA p.obs.length p.obC, .slice p.vrA p.vrs.length p.vrC, .string f.name, .int .i64 f.params, .int .i64 f.regs, .int .i64 f.prio, .bool false, .slice f.codeA f.code.length f.codeC] [.int .i64 op, .int .i64 a, .int .i64 b, .int .i64 c, .slice argA N argC] ∧ Bx wr G [.int .i64 n0, .int .i64 k0, .int .i64 n1, .int .i64 k1, .int .i64 n2, .int .i64 k2, .int .i64 g] ∧ Bx wr Q [.int .i64 n0, .int .i64 k0, .int .i64 n1, .int .i64 k1, .int .i64 n2, .int .i64 k2] ∧ Q < wr.heap.size) (fun k' _ => 3 - (intOf k').toNat)
  case atStart => exact ⟨0, rfl, by omega, hT5, hF5, hO, hZ5⟩
  case round =>
   obtain ⟨k, rfl, hk, hTr, hFr, hOr, hZr⟩ := hrel
   obtain ⟨x0, x1, x2, x3, x4, x5, x6, x7, x8⟩ := bx9 hTr.fst
   obtain ⟨z0, z1, z2, z3, z4⟩ := bx5 hTr.snd
   obtain ⟨s0, s1, s2, s3, s4, s5, s6⟩ := bx7 hFr
   obtain ⟨o0, o1, o2, o3, o4, o5⟩ := bx6 hOr
   by_cases hlt : k < 3
   ·have hk3 : k = 0 ∨ k = 1 ∨ k = 2 := by omega
    clear hlt hk
    rcases hk3 with rfl | rfl | rfl
    ·go_upto_region 9 with fail
     have hB := bx_new wr #[.int .i64 n0, .int .i64 k0] 160
     have hTb := hTr.next (below_alloc wr (.cells #[.int .i64 n0, .int .i64 k0] 160))
     have hFb := hFr.below (below_alloc wr (.cells #[.int .i64 n0, .int .i64 k0] 160)) (by omega)
     have hOb := hOr.below (below_alloc wr (.cells #[.int .i64 n0, .int .i64 k0] 160)) hZr
     have hZb : wr.heap.size < (World.alloc wr (.cells #[.int .i64 n0, .int .i64 k0] 160)).heap.size := by simp
     generalize World.alloc wr _ = Wb at hB hTb hFb hOb hZb ⊢
     obtain ⟨V, hV⟩ : ∃ V, wr.heap.size = V := ⟨_, rfl⟩
     rw [hV] at hB hZb hZr ⊢
     clear hTr hFr hOr hV x0 x1 x2 x3 x4 x5 x6 x7 x8 z0 z1 z2 z3 z4 s0 s1 s2 s3 s4 s5 s6 o0 o1 o2 o3 o4 o5
     have hR := inr_cells (W := Wb) ⟨hTb, hFb, hOb, hB, hZ3, hZr, hZb⟩
     clear hB hTb hFb hOb hZb
     refine wp_region_held_drew (S := (fun w' => (w'.cell? ⟨w.heap.size, 0, none⟩ = some (.slice p.funA p.funs.length p.funC) ∧ w'.cell? ⟨w.heap.size, 1, none⟩ = some (.slice p.obA p.obs.length p.obC) ∧ w'.cell? ⟨w.heap.size, 2, none⟩ = some (.slice p.vrA p.vrs.length p.vrC) ∧ w'.cell? ⟨w.heap.size, 3, none⟩ = some (.string f.name) ∧ w'.cell? ⟨w.heap.size, 4, none⟩ = some (.int .i64 f.params) ∧ w'.cell? ⟨w.heap.size, 5, none⟩ = some (.int .i64 f.regs) ∧ w'.cell? ⟨w.heap.size, 6, none⟩ = some (.int .i64 f.prio) ∧ w'.cell? ⟨w.heap.size, 7, none⟩ = some (.bool false) ∧ w'.cell? ⟨w.heap.size, 8, none⟩ = some (.slice f.codeA f.code.length f.codeC) ∧ w'.cell? ⟨w.heap.size + 1, 1, none⟩ = some (.int .i64 a) ∧ w'.cell? ⟨w.heap.size + 1, 2, none⟩ = some (.int .i64 b) ∧ w'.cell? ⟨w.heap.size + 1, 3, none⟩ = some (.int .i64 c) ∧ w'.cell? ⟨V, 0, none⟩ = some (.int .i64 n0) ∧ w'.cell? ⟨V, 1, none⟩ = some (.int .i64 k0)) ∧ InR w [.slice p.funA p.funs.length p.funC, .slice p.obA p.obs.length p.obC, .slice p.vrA p.vrs.length p.vrC, .string f.name, .int .i64 f.params, .int .i64 f.regs, .int .i64 f.prio, .bool false, .slice f.codeA f.code.length f.codeC] [.int .i64 op, .int .i64 a, .int .i64 b, .int .i64 c, .slice argA N argC] [.int .i64 n0, .int .i64 k0, .int .i64 n1, .int .i64 k1, .int .i64 n2, .int .i64 k2, .int .i64 g] [.int .i64 n0, .int .i64 k0, .int .i64 n1, .int .i64 k1, .int .i64 n2, .int .i64 k2] [.int .i64 n0, .int .i64 k0] G Q V w')) (by kernel_rfl) (inr_below hR (below_drews _ _ 1)) (fun hHeld => ?_)
     have hRd := hHeld
     clear hR
     generalize Wb.drew = Wd at hRd hHeld ⊢
     refine tkH (i := 0) rfl (fun _ _ _ h => h) ?_
     try simp only [frS, Act.put]
     refine tkH (i := 1) rfl (fun _ _ _ h => h) ?_
     try simp only [frS, Act.put]
     refine tkH (i := 2) rfl (fun _ _ _ h => h) ?_
     try simp only [frS, Act.put]
     refine tkH (i := 3) rfl (fun _ _ _ h => h) ?_
     try simp only [frS, Act.put]
     refine tkH (i := 4) rfl (fun _ _ _ h => h) ?_
     try simp only [frS, Act.put]
     refine tkH (i := 5) rfl (fun _ _ _ h => h) ?_
     try simp only [frS, Act.put]
     refine tkH (i := 6) rfl (fun _ _ _ h => h) ?_
     try simp only [frS, Act.put]
     refine tkH (i := 7) rfl (fun _ _ _ h => h) ?_
     try simp only [frS, Act.put]
     refine tkH (i := 9) rfl (fun _ _ _ h => h) ?_
     try simp only [frS, Act.put]
     refine rdH (i := 8) rfl fun K hK => ?_
     go_simp
     refine hK.out _ _ ?_ (fun hHeld => ?_)
     ·exact inr_alloc hRd _
     clear hK K
     try simp only [frS, Act.put]
     refine tkH (i := 10) rfl (fun _ _ _ h => h) ?_
     try simp only [frS, Act.put]
     refine rdH (i := 11) rfl fun K hK => ?_
     go_simp
     refine hK.out _ _ ?_ (fun hHeld => ?_)
     ·assumption
     clear hK K
     try simp only [frS, Act.put]
     refine rdH (i := 12) rfl fun K hK => ?_
     go_simp
     refine (HO0.out _ (inr_alloc hRd _).2.two.below).mono ?_
     rintro e W6 ⟨rfl, hb6⟩
     try simp only []
     refine hK.out _ _ ?_ (fun hHeld => ?_)
     ·exact inr_below (inr_alloc hRd _) hb6
     clear hK K
     try simp only [frS, Act.put]
     refine tkH (i := 13) rfl (fun _ _ _ h => h) ?_
     try simp only [frS, Act.put]
     refine wpAnyH_done (by kernel_rfl) ?_ _
     have h9 := (inr_below (inr_alloc hRd _) hb6).2
     clear hb6 hRd hHeld
     go_wp2_with fail
     exact ⟨⟨1, rfl, by omega, h9.two, h9.sh, h9.os, by have := h9.le; omega⟩, by simp [intOf]⟩
    ·go_upto_region 9 with fail
     have hB := bx_new wr #[.int .i64 n1, .int .i64 k1] 160
     have hTb := hTr.next (below_alloc wr (.cells #[.int .i64 n1, .int .i64 k1] 160))
     have hFb := hFr.below (below_alloc wr (.cells #[.int .i64 n1, .int .i64 k1] 160)) (by omega)
     have hOb := hOr.below (below_alloc wr (.cells #[.int .i64 n1, .int .i64 k1] 160)) hZr
     have hZb : wr.heap.size < (World.alloc wr (.cells #[.int .i64 n1, .int .i64 k1] 160)).heap.size := by simp
     generalize World.alloc wr _ = Wb at hB hTb hFb hOb hZb ⊢
     obtain ⟨V, hV⟩ : ∃ V, wr.heap.size = V := ⟨_, rfl⟩
     rw [hV] at hB hZb hZr ⊢
     clear hTr hFr hOr hV x0 x1 x2 x3 x4 x5 x6 x7 x8 z0 z1 z2 z3 z4 s0 s1 s2 s3 s4 s5 s6 o0 o1 o2 o3 o4 o5
     have hR := inr_cells (W := Wb) ⟨hTb, hFb, hOb, hB, hZ3, hZr, hZb⟩
     clear hB hTb hFb hOb hZb
     refine wp_region_held_drew (S := (fun w' => (w'.cell? ⟨w.heap.size, 0, none⟩ = some (.slice p.funA p.funs.length p.funC) ∧ w'.cell? ⟨w.heap.size, 1, none⟩ = some (.slice p.obA p.obs.length p.obC) ∧ w'.cell? ⟨w.heap.size, 2, none⟩ = some (.slice p.vrA p.vrs.length p.vrC) ∧ w'.cell? ⟨w.heap.size, 3, none⟩ = some (.string f.name) ∧ w'.cell? ⟨w.heap.size, 4, none⟩ = some (.int .i64 f.params) ∧ w'.cell? ⟨w.heap.size, 5, none⟩ = some (.int .i64 f.regs) ∧ w'.cell? ⟨w.heap.size, 6, none⟩ = some (.int .i64 f.prio) ∧ w'.cell? ⟨w.heap.size, 7, none⟩ = some (.bool false) ∧ w'.cell? ⟨w.heap.size, 8, none⟩ = some (.slice f.codeA f.code.length f.codeC) ∧ w'.cell? ⟨w.heap.size + 1, 1, none⟩ = some (.int .i64 a) ∧ w'.cell? ⟨w.heap.size + 1, 2, none⟩ = some (.int .i64 b) ∧ w'.cell? ⟨w.heap.size + 1, 3, none⟩ = some (.int .i64 c) ∧ w'.cell? ⟨V, 0, none⟩ = some (.int .i64 n1) ∧ w'.cell? ⟨V, 1, none⟩ = some (.int .i64 k1)) ∧ InR w [.slice p.funA p.funs.length p.funC, .slice p.obA p.obs.length p.obC, .slice p.vrA p.vrs.length p.vrC, .string f.name, .int .i64 f.params, .int .i64 f.regs, .int .i64 f.prio, .bool false, .slice f.codeA f.code.length f.codeC] [.int .i64 op, .int .i64 a, .int .i64 b, .int .i64 c, .slice argA N argC] [.int .i64 n0, .int .i64 k0, .int .i64 n1, .int .i64 k1, .int .i64 n2, .int .i64 k2, .int .i64 g] [.int .i64 n0, .int .i64 k0, .int .i64 n1, .int .i64 k1, .int .i64 n2, .int .i64 k2] [.int .i64 n1, .int .i64 k1] G Q V w')) (by kernel_rfl) (inr_below hR (below_drews _ _ 1)) (fun hHeld => ?_)
     have hRd := hHeld
     clear hR
     generalize Wb.drew = Wd at hRd hHeld ⊢
     refine tkH (i := 0) rfl (fun _ _ _ h => h) ?_
     try simp only [frS, Act.put]
     refine tkH (i := 1) rfl (fun _ _ _ h => h) ?_
     try simp only [frS, Act.put]
     refine tkH (i := 2) rfl (fun _ _ _ h => h) ?_
     try simp only [frS, Act.put]
     refine tkH (i := 3) rfl (fun _ _ _ h => h) ?_
     try simp only [frS, Act.put]
     refine tkH (i := 4) rfl (fun _ _ _ h => h) ?_
     try simp only [frS, Act.put]
     refine tkH (i := 5) rfl (fun _ _ _ h => h) ?_
     try simp only [frS, Act.put]
     refine tkH (i := 6) rfl (fun _ _ _ h => h) ?_
     try simp only [frS, Act.put]
     refine tkH (i := 7) rfl (fun _ _ _ h => h) ?_
     try simp only [frS, Act.put]
     refine tkH (i := 9) rfl (fun _ _ _ h => h) ?_
     try simp only [frS, Act.put]
     refine rdH (i := 8) rfl fun K hK => ?_
     go_simp
     refine hK.out _ _ ?_ (fun hHeld => ?_)
     ·exact inr_alloc hRd _
     clear hK K
     try simp only [frS, Act.put]
     refine tkH (i := 10) rfl (fun _ _ _ h => h) ?_
     try simp only [frS, Act.put]
     refine rdH (i := 11) rfl fun K hK => ?_
     go_simp
     refine hK.out _ _ ?_ (fun hHeld => ?_)
     ·assumption
     clear hK K
     try simp only [frS, Act.put]
     refine rdH (i := 12) rfl fun K hK => ?_
     go_simp
     refine (HO1.out _ (inr_alloc hRd _).2.two.below).mono ?_
     rintro e W6 ⟨rfl, hb6⟩
     try simp only []
     refine hK.out _ _ ?_ (fun hHeld => ?_)
     ·exact inr_below (inr_alloc hRd _) hb6
     clear hK K
     try simp only [frS, Act.put]
     refine tkH (i := 13) rfl (fun _ _ _ h => h) ?_
     try simp only [frS, Act.put]
     refine wpAnyH_done (by kernel_rfl) ?_ _
     have h9 := (inr_below (inr_alloc hRd _) hb6).2
     clear hb6 hRd hHeld
     go_wp2_with fail
     exact ⟨⟨2, rfl, by omega, h9.two, h9.sh, h9.os, by have := h9.le; omega⟩, by simp [intOf]⟩
    ·go_upto_region 9 with fail
     have hB := bx_new wr #[.int .i64 n2, .int .i64 k2] 160
     have hTb := hTr.next (below_alloc wr (.cells #[.int .i64 n2, .int .i64 k2] 160))
     have hFb := hFr.below (below_alloc wr (.cells #[.int .i64 n2, .int .i64 k2] 160)) (by omega)
     have hOb := hOr.below (below_alloc wr (.cells #[.int .i64 n2, .int .i64 k2] 160)) hZr
     have hZb : wr.heap.size < (World.alloc wr (.cells #[.int .i64 n2, .int .i64 k2] 160)).heap.size := by simp
     generalize World.alloc wr _ = Wb at hB hTb hFb hOb hZb ⊢
     obtain ⟨V, hV⟩ : ∃ V, wr.heap.size = V := ⟨_, rfl⟩
     rw [hV] at hB hZb hZr ⊢
     clear hTr hFr hOr hV x0 x1 x2 x3 x4 x5 x6 x7 x8 z0 z1 z2 z3 z4 s0 s1 s2 s3 s4 s5 s6 o0 o1 o2 o3 o4 o5
     have hR := inr_cells (W := Wb) ⟨hTb, hFb, hOb, hB, hZ3, hZr, hZb⟩
     clear hB hTb hFb hOb hZb
     refine wp_region_held_drew (S := (fun w' => (w'.cell? ⟨w.heap.size, 0, none⟩ = some (.slice p.funA p.funs.length p.funC) ∧ w'.cell? ⟨w.heap.size, 1, none⟩ = some (.slice p.obA p.obs.length p.obC) ∧ w'.cell? ⟨w.heap.size, 2, none⟩ = some (.slice p.vrA p.vrs.length p.vrC) ∧ w'.cell? ⟨w.heap.size, 3, none⟩ = some (.string f.name) ∧ w'.cell? ⟨w.heap.size, 4, none⟩ = some (.int .i64 f.params) ∧ w'.cell? ⟨w.heap.size, 5, none⟩ = some (.int .i64 f.regs) ∧ w'.cell? ⟨w.heap.size, 6, none⟩ = some (.int .i64 f.prio) ∧ w'.cell? ⟨w.heap.size, 7, none⟩ = some (.bool false) ∧ w'.cell? ⟨w.heap.size, 8, none⟩ = some (.slice f.codeA f.code.length f.codeC) ∧ w'.cell? ⟨w.heap.size + 1, 1, none⟩ = some (.int .i64 a) ∧ w'.cell? ⟨w.heap.size + 1, 2, none⟩ = some (.int .i64 b) ∧ w'.cell? ⟨w.heap.size + 1, 3, none⟩ = some (.int .i64 c) ∧ w'.cell? ⟨V, 0, none⟩ = some (.int .i64 n2) ∧ w'.cell? ⟨V, 1, none⟩ = some (.int .i64 k2)) ∧ InR w [.slice p.funA p.funs.length p.funC, .slice p.obA p.obs.length p.obC, .slice p.vrA p.vrs.length p.vrC, .string f.name, .int .i64 f.params, .int .i64 f.regs, .int .i64 f.prio, .bool false, .slice f.codeA f.code.length f.codeC] [.int .i64 op, .int .i64 a, .int .i64 b, .int .i64 c, .slice argA N argC] [.int .i64 n0, .int .i64 k0, .int .i64 n1, .int .i64 k1, .int .i64 n2, .int .i64 k2, .int .i64 g] [.int .i64 n0, .int .i64 k0, .int .i64 n1, .int .i64 k1, .int .i64 n2, .int .i64 k2] [.int .i64 n2, .int .i64 k2] G Q V w')) (by kernel_rfl) (inr_below hR (below_drews _ _ 1)) (fun hHeld => ?_)
     have hRd := hHeld
     clear hR
     generalize Wb.drew = Wd at hRd hHeld ⊢
     refine tkH (i := 0) rfl (fun _ _ _ h => h) ?_
     try simp only [frS, Act.put]
     refine tkH (i := 1) rfl (fun _ _ _ h => h) ?_
     try simp only [frS, Act.put]
     refine tkH (i := 2) rfl (fun _ _ _ h => h) ?_
     try simp only [frS, Act.put]
     refine tkH (i := 3) rfl (fun _ _ _ h => h) ?_
     try simp only [frS, Act.put]
     refine tkH (i := 4) rfl (fun _ _ _ h => h) ?_
     try simp only [frS, Act.put]
     refine tkH (i := 5) rfl (fun _ _ _ h => h) ?_
     try simp only [frS, Act.put]
     refine tkH (i := 6) rfl (fun _ _ _ h => h) ?_
     try simp only [frS, Act.put]
     refine tkH (i := 7) rfl (fun _ _ _ h => h) ?_
     try simp only [frS, Act.put]
     refine tkH (i := 9) rfl (fun _ _ _ h => h) ?_
     try simp only [frS, Act.put]
     refine rdH (i := 8) rfl fun K hK => ?_
     go_simp
     refine hK.out _ _ ?_ (fun hHeld => ?_)
     ·exact inr_alloc hRd _
     clear hK K
     try simp only [frS, Act.put]
     refine tkH (i := 10) rfl (fun _ _ _ h => h) ?_
     try simp only [frS, Act.put]
     refine rdH (i := 11) rfl fun K hK => ?_
     go_simp
     refine hK.out _ _ ?_ (fun hHeld => ?_)
     ·assumption
     clear hK K
     try simp only [frS, Act.put]
     refine rdH (i := 12) rfl fun K hK => ?_
     go_simp
     refine (HO2.out _ (inr_alloc hRd _).2.two.below).mono ?_
     rintro e W6 ⟨rfl, hb6⟩
     try simp only []
     refine hK.out _ _ ?_ (fun hHeld => ?_)
     ·exact inr_below (inr_alloc hRd _) hb6
     clear hK K
     try simp only [frS, Act.put]
     refine tkH (i := 13) rfl (fun _ _ _ h => h) ?_
     try simp only [frS, Act.put]
     refine wpAnyH_done (by kernel_rfl) ?_ _
     have h9 := (inr_below (inr_alloc hRd _) hb6).2
     clear hb6 hRd hHeld
     go_wp2_with fail
     exact ⟨⟨3, rfl, by omega, h9.two, h9.sh, h9.os, by have := h9.le; omega⟩, by simp [intOf]⟩
   ·obtain rfl : k = 3 := by omega
    clear hk hlt
    go_wp2_with fail
    refine (HAR.out _ hTr.below).mono ?_
    rintro e W6 ⟨rfl, hb6⟩
    have hT6 := hTr.next hb6
    clear hTr hFr hOr x0 x1 x2 x3 x4 x5 x6 x7 x8 z0 z1 z2 z3 z4 s0 s1 s2 s3 s4 s5 s6 o0 o1 o2 o3 o4 o5
    obtain ⟨z0, z1, z2, z3, z4⟩ := bx5 hT6.snd
    obtain ⟨c1, c2⟩ := HCF.out
    dsimp only at c1 c2
    by_cases e65 : op = 65
    ·have e67 : ¬ op = 67 := by omega
     have eac : ¬ a = c := fun z => c1 ⟨e65, z⟩
     have q1 : (op == 65) = true := by simpa using e65
     have q2 : (op == 67) = false := by simpa using e67
     have q3 : (a == c) = false := by simpa using eac
     clear c1 c2 e65 e67 eac
     go_wp2_with fail
     go_ret
     exact ⟨rfl, hT6.below⟩
    ·by_cases e67 : op = 67
     ·have eab : ¬ a = b := fun z => c2 ⟨e67, .inl z⟩
      have eac : ¬ a = c := fun z => c2 ⟨e67, .inr (.inl z)⟩
      have ebc : ¬ b = c := fun z => c2 ⟨e67, .inr (.inr z)⟩
      have q1 : (op == 65) = false := by simpa using e65
      have q2 : (op == 67) = true := by simpa using e67
      have q3 : (a == c) = false := by simpa using eac
      have q4 : (a == b) = false := by simpa using eab
      have q5 : (b == c) = false := by simpa using ebc
      clear c1 c2 e65 e67 eac eab ebc
      go_wp2_with fail
      go_ret
      exact ⟨rfl, hT6.below⟩
     ·have q1 : (op == 65) = false := by simpa using e65
      have q2 : (op == 67) = false := by simpa using e67
      clear c1 c2 e65 e67
      go_wp2_with fail
      go_ret
      exact ⟨rfl, hT6.below⟩
end Go.Proofs.YtkpjdanfpolimaaGreat
