/- slices.Equal of edges, the reference's SameInts and SameLists, walked where both sides read as the same list. Conditions: they do. · lockorder's Suspects, walked. Conditions: the program lies in memory, it is valid. -/
import Derived.Test.YtkpjdanfpolimaaGreatLsDg9
import Derived.Test.YtkpjdanfpolimaaGreatLsDg8
set_option maxRecDepth 100000
set_option maxHeartbeats 6400000
section
namespace Go.Proofs.YtkpjdanfpolimaaGreat
open Go.RowKit Go.Shelf
theorem run_neq_ed (a b c d : Int) (W : World) : (binOp .neq 47 (.agg #[.int .i64 a, .int .i64 b]) (.agg #[.int .i64 c, .int .i64 d])).run Tryz.prog W = .ok (.bool (!edB a b c d)) W := by
 rw [run_neq_struct]
 unfold edB
 by_cases h : a = c
 ·by_cases g : b = d <;> simp [go_sem, h, g]
 ·simp [go_sem, h]
attribute [local go_sem ↓] run_neq_ed
theorem edEqual_same (A1 : Option Addr) (c1 : Nat) (A2 : Option Addr) (c2 : Nat) (l : List (Nat × Nat)) (hl : l.length ≤ 2000) (w : World) (h1 : Eds w w.heap.size A1 l) (h2 : Eds w w.heap.size A2 l) :
  Calls Tryz.prog 23 #[.slice A1 l.length c1, .slice A2 l.length c2] w (Ret (.bool true) w) := by
 have e0 : ((l.length : Int) != (l.length : Int)) = false := by simp
 go_enter Tryz.func23, Tryz.ntmps23
 go_upto_region 4 with fail
 go_loopw [5, 13] (fun _ i wr => ∃ k : Nat, i = .int .i64 (k : Nat) ∧ k ≤ l.length ∧ Below w.heap.size w wr) (fun _ i _ => l.length - (intOf i).toNat)
 case atStart => exact ⟨0, rfl, by omega, Below.refl _ _⟩
 case round =>
  obtain ⟨k, rfl, hk, hb⟩ := hrel
  have hk0 : (0 : Int) ≤ (k : Int) := by omega
  have hwr : IntKind.i64.wrap ((k : Int) + 1) = (k : Int) + 1 := by rw [IntKind.wrap_i64]; omega
  by_cases hlt : k < l.length
  ·have hd1 : decide ((k : Int) < (l.length : Int)) = true := decide_eq_true (by omega)
   have hd2 : decide (k < l.length) = true := decide_eq_true hlt
   have hjl : (k : Int) < (l.length : Int) := by omega
   obtain ⟨b, off, rfl, -, p1, p2⟩ := (h1.below hb).at_ hlt
   obtain ⟨b', off', rfl, -, q1, q2⟩ := (h2.below hb).at_ hlt
   generalize l[k] = x at p1 p2 q1 q2
   obtain ⟨a1, a2⟩ := x
   dsimp only at p1 p2 q1 q2
   have hcb : edB a1 a2 a1 a2 = true := by unfold edB; simp
   go_wp2_with fail
   go_quiet (fail)
   go_wp2_with fail
   go_round
   case rel => exact ⟨k + 1, rfl, by omega, hb.trans (below_drews _ _ _)⟩
   case measure => show l.length - (intOf (Value.int IntKind.i64 ((k : Int) + 1))).toNat < l.length - (intOf (Value.int IntKind.i64 (k : Int))).toNat; simp only [intOf]; omega
  ·have hd1 : decide ((k : Int) < (l.length : Int)) = false := decide_eq_false (by omega)
   have hd2 : decide (k < l.length) = false := decide_eq_false hlt
   go_wp2_with fail
   go_ret
   exact ⟨rfl, hb⟩
theorem sameInts_same (A1 : Option Addr) (c1 : Nat) (A2 : Option Addr) (c2 : Nat) (l : List Nat) (hl : l.length ≤ 2000) (w : World) (h1 : Nts w w.heap.size A1 l) (h2 : Nts w w.heap.size A2 l) :
  Calls Tryz.prog 41 #[.slice A1 l.length c1, .slice A2 l.length c2] w (Ret (.bool true) w) := by
 have e0 : ((l.length : Int) != (l.length : Int)) = false := by simp
 go_enter Tryz.func41, Tryz.ntmps41
 go_upto_region 4 with fail
 go_loopw [5] (fun i wr => ∃ k : Nat, i = .int .i64 (k : Nat) ∧ k ≤ l.length ∧ Below w.heap.size w wr) (fun i _ => l.length - (intOf i).toNat)
 case atStart => exact ⟨0, rfl, by omega, Below.refl _ _⟩
 case round =>
  obtain ⟨k, rfl, hk, hb⟩ := hrel
  have hk0 : (0 : Int) ≤ (k : Int) := by omega
  have hwr : IntKind.i64.wrap ((k : Int) + 1) = (k : Int) + 1 := by rw [IntKind.wrap_i64]; omega
  by_cases hlt : k < l.length
  ·have hd1 : decide ((k : Int) < (l.length : Int)) = true := decide_eq_true (by omega)
   have hd2 : decide (k < l.length) = true := decide_eq_true hlt
   have hjl : (k : Int) < (l.length : Int) := by omega
   obtain ⟨b, off, rfl, -, p1⟩ := (h1.below' hb (Nat.le_refl _)).at_ hlt
   obtain ⟨b', off', rfl, -, q1⟩ := (h2.below' hb (Nat.le_refl _)).at_ hlt
   generalize l[k] = x at p1 q1
   have hcb : ((x : Int) != (x : Int)) = false := by simp
   go_wp2_with fail
   go_quiet (fail)
   go_wp2_with fail
   go_round
   case rel => exact ⟨k + 1, rfl, by omega, hb.trans (below_drews _ _ _)⟩
   case measure => show l.length - (intOf (Value.int IntKind.i64 ((k : Int) + 1))).toNat < l.length - (intOf (Value.int IntKind.i64 (k : Int))).toNat; simp only [intOf]; omega
  ·have hd1 : decide ((k : Int) < (l.length : Int)) = false := decide_eq_false (by omega)
   have hd2 : decide (k < l.length) = false := decide_eq_false hlt
   go_wp2_with fail
   go_ret
   exact ⟨rfl, hb⟩
/-- A slice of slices of numbers reads as ls. -/
def NLs (W : World) (B : Nat) (A : Option Addr) (ls : List (List Nat)) : Prop := ∃ vs : List Value, Rd W B 1 A ls.length vs ∧ ∀ (i : Nat) (c : List Nat), ls[i]? = some c → ∃ A' cap, vs[i]? = some (Value.slice A' c.length cap) ∧ Nts W B A' c
theorem NLs.below' {W W' : World} {B C : Nat} {A : Option Addr} {ls : List (List Nat)} (h : NLs W B A ls) (hb : Below C W W') (hB : B ≤ C) : NLs W' B A ls := by
 obtain ⟨vs, h1, h2⟩ := h
 refine ⟨vs, h1.below' hb hB, fun i c hc => ?_⟩
 obtain ⟨A', cap, k1, k2⟩ := h2 i c hc
 exact ⟨A', cap, k1, k2.below' hb hB⟩
theorem NLs.more {W : World} {B C : Nat} {A : Option Addr} {ls : List (List Nat)} (h : NLs W B A ls) (hB : B ≤ C) : NLs W C A ls := by
 obtain ⟨vs, h1, h2⟩ := h
 refine ⟨vs, Rd.more h1 hB, fun i c hc => ?_⟩
 obtain ⟨A', cap, k1, k2⟩ := h2 i c hc
 exact ⟨A', cap, k1, Rd.more k2 hB⟩
theorem OwnLL.nls {W : World} {base : Nat} {v : Value} {ls : List (List Nat)} (h : OwnLL W base v ls) : ∃ A c, v = .slice A ls.length c ∧ NLs W W.heap.size A ls := by
 obtain ⟨vs, h1, h2⟩ := h
 obtain ⟨A, c, rfl⟩ := own_form h1
 refine ⟨A, c, rfl, vs, Rd.of_own h1, fun i cl hc => ?_⟩
 obtain ⟨g, cap, k1, k2, k3, k4, k5⟩ := h2 i cl hc
 exact ⟨_, cap, k1, by simp [natC], .inr ⟨g, 0, rfl, k3, fun j u hu => by
  have hj : j < cl.length := by have := (List.getElem?_eq_some_iff.1 hu).1; simpa [natC] using this
  have e : u = .int .i64 cl[j] := by simpa [natC, hj] using hu.symm
  rw [e, Nat.zero_add]; exact k5 j hj⟩⟩
theorem sameLists_same (A1 : Option Addr) (c1 : Nat) (A2 : Option Addr) (c2 : Nat) (ls : List (List Nat)) (hl : ls.length ≤ 2000) (hc : ∀ c ∈ ls, c.length ≤ 2000) (w : World) (h1 : NLs w w.heap.size A1 ls) (h2 : NLs w w.heap.size A2 ls) :
  Calls Tryz.prog 16 #[.slice A1 ls.length c1, .slice A2 ls.length c2] w (Ret (.bool true) w) := by
 have e0 : ((ls.length : Int) != (ls.length : Int)) = false := by simp
 go_enter Tryz.func16, Tryz.ntmps16
 go_upto_region 4 with fail
 go_loopw [5] (fun i wr => ∃ k : Nat, i = .int .i64 (k : Nat) ∧ k ≤ ls.length ∧ Below w.heap.size w wr) (fun i _ => ls.length - (intOf i).toNat)
 case atStart => exact ⟨0, rfl, by omega, Below.refl _ _⟩
 case round =>
  obtain ⟨k, rfl, hk, hb⟩ := hrel
  have hk0 : (0 : Int) ≤ (k : Int) := by omega
  have hwr : IntKind.i64.wrap ((k : Int) + 1) = (k : Int) + 1 := by rw [IntKind.wrap_i64]; omega
  by_cases hlt : k < ls.length
  ·have hd1 : decide ((k : Int) < (ls.length : Int)) = true := decide_eq_true (by omega)
   have hd2 : decide (k < ls.length) = true := decide_eq_true hlt
   have hjl : (k : Int) < (ls.length : Int) := by omega
   obtain ⟨vs1, r1, s1⟩ := h1.below' hb (Nat.le_refl _)
   obtain ⟨vs2, r2, s2⟩ := h2.below' hb (Nat.le_refl _)
   obtain ⟨b, off, rfl, -, p1⟩ := r1.addr (by omega)
   obtain ⟨b', off', rfl, -, p2⟩ := r2.addr (by omega)
   obtain ⟨B1, k1, t1, n1⟩ := s1 k _ (List.getElem?_eq_getElem hlt)
   obtain ⟨B2, k2, t2, n2⟩ := s2 k _ (List.getElem?_eq_getElem hlt)
   have x1 := p1 k _ t1
   have x2 := p2 k _ t2
   have HSI := Lib.hid (sameInts_same B1 k1 B2 k2 ls[k] (hc _ (List.getElem_mem hlt)) wr.drew (Rd.more n1 hb.size) (Rd.more n2 hb.size))
   clear r1 s1 r2 s2 p1 p2 t1 t2 n1 n2
   generalize ls[k].length = m at x1 x2 HSI
   go_wp2_with fail
   go_still_tail 8, (by kernel_rfl)
   change wpList _ _ _ _ _ wr.drew
   have hb2 := hb.drew
   clear x1 x2 hb
   generalize wr.drew = wd at HSI hb2 ⊢
   go_wp2_with fail
   refine HSI.out.mono ?_
   rintro e w5 ⟨rfl, hb5⟩
   have hb6 := hb2.trans (hb5.mono hb2.size)
   clear hb2 hb5 HSI
   go_wp2_with fail
   go_round
   case rel => exact ⟨k + 1, rfl, by omega, hb6⟩
   case measure => show ls.length - (intOf (Value.int IntKind.i64 ((k : Int) + 1))).toNat < ls.length - (intOf (Value.int IntKind.i64 (k : Int))).toNat; simp only [intOf]; omega
  ·have hd1 : decide ((k : Int) < (ls.length : Int)) = false := decide_eq_false (by omega)
   have hd2 : decide (k < ls.length) = false := decide_eq_false hlt
   go_wp2_with fail
   go_ret
   exact ⟨rfl, hb⟩
end Go.Proofs.YtkpjdanfpolimaaGreat
end
section
namespace Go.Proofs.YtkpjdanfpolimaaGreat
open Go.RowKit Go.Shelf
theorem comp_form {n : Nat} {l : List (Nat × Nat)} {c : List Nat} (h : c ∈ compsTo n l n) : ∃ u r, c = u :: r ∧ u < n := by
 obtain ⟨u, h1, h2, rfl⟩ := mem_comps.1 h
 obtain ⟨r, e, -⟩ := class_head h1 h2
 exact ⟨u, r, e, h1⟩
theorem suspects_any (p : Prg) (hfit : Fits p) (hv : prgOk p) (w : World) (h : Lies w w.heap.size p) : Calls Tryz.prog 11 #[p.val] w fun e W => ∃ v, e = .returned (.tuple #[v, .int .i64 0]) ∧ OwnLL W w.heap.size v (suspects p.obs.length (graphOf p)) ∧ Below w.heap.size w W := by
 obtain ⟨i1, hi1, hz⟩ := Option.map_eq_some_iff.1 listInfo
 have hy0 : i1.zero = some (.slice none 0 0) := congrArg (fun t => t.1) hz
 have hy1 : i1.size = 1 := congrArg (fun t => t.2.1) hz
 have hy2 : i1.bytes = 24 := congrArg (fun t => t.2.2) hz
 clear hz
 have hW := wf_of hv
 have hob := hW.obs
 have hgl := graph_len hob
 have HGR := Lib.hid (fun (W : World) (hb : Below w.heap.size w W) => graph_any p hfit hv W (h.next hb))
 have HCO := Lib.hid (fun (A : Option Addr) (c : Nat) (W : World) (hE : Eds W W.heap.size A (graphOf p)) => comps_any p.obs.length A c (graphOf p) (by omega) (by omega) (graph_range hW) (graph_strict p) W hE)
 have HCT := Lib.hid (fun (A : Option Addr) (c : Nat) (e : Nat × Nat) (W : World) (hE : Eds W W.heap.size A (graphOf p)) => edContains_any A c (graphOf p) e (by omega) W hE)
 have hcl := comps_len p.obs.length (graphOf p) p.obs.length
 have HFO := Lib.hid (fun c (hc : c ∈ compsTo p.obs.length (graphOf p) p.obs.length) => comp_form hc)
 unfold suspects
 unfold Prg.val at HGR ⊢
 generalize compsTo p.obs.length (graphOf p) p.obs.length = cs at HCO hcl HFO ⊢
 generalize graphOf p = gr at HGR HCO HCT hgl ⊢
 clear h hfit hv hW
 go_enter Tryz.func11, Tryz.ntmps11
 go_upto_region 1 with fail
 have hT1 := one_new w #[.slice p.funA p.funs.length p.funC, .slice p.obA p.obs.length p.obC, .slice p.vrA p.vrs.length p.vrC] 26
 generalize w.alloc _ = w1 at hT1 ⊢
 obtain ⟨x0, x1, x2⟩ := bx3 hT1.fst
 have HG1 := Lib.hid (HGR.out w1 hT1.below)
 go_wp2_with fail
 refine HG1.out.mono ?_
 rintro e w2 ⟨gv, rfl, hE, hb2⟩
 obtain ⟨Ag, Cg, rfl, hE2⟩ := own_eds hE
 have hT2 := hT1.next hb2
 clear x0 x1 x2 hE HG1 hT1 hb2 HGR
 obtain ⟨x0, x1, x2⟩ := bx3 hT2.fst
 have HC1 := Lib.hid (HCO.out Ag Cg w2 hE2)
 clear HCO
 go_wp2_with fail
 refine HC1.out.mono ?_
 rintro e w3 ⟨cv, rfl, hLL, hb3⟩
 have hb := hT2.below.trans (hb3.mono hT2.below.size)
 have hE3 : Eds w3 w3.heap.size Ag gr := Rd.more (hE2.below hb3) hb3.size
 have hw2 := hT2.below.size
 clear x0 x1 x2 hT2 hE2 HC1
 obtain ⟨vs, hcv, hvs⟩ := hLL
 obtain ⟨Ac, Cc, rfl⟩ := own_form hcv
 have hrd := Rd.of_own hcv
 have hvl : vs.length = cs.length := by have := hcv.1; omega
 have hz3 := hb3.size
 clear hcv hb3
 go_upto_region 6 with fail
 go_loopw [6, 8, 23] (fun out _ i wr => ∃ k : Nat, i = .int .i64 (k : Nat) ∧ k ≤ cs.length ∧ OwnLL wr w.heap.size out ((cs.take k).filter (susp gr)) ∧ (∀ q, out.ownBlock = some q → w3.heap.size ≤ q) ∧ Below w3.heap.size w3 wr) (fun _ _ i _ => cs.length - (intOf i).toNat)
 case atStart => exact ⟨0, rfl, by omega, OwnLL.nil _ _, fun q e => (by cases e), Below.refl _ _⟩
 case round =>
  obtain ⟨k, rfl, hk, hO, hob6, hbr⟩ := hrel
  have hk0 : (0 : Int) ≤ (k : Int) := by omega
  have hwr : IntKind.i64.wrap ((k : Int) + 1) = (k : Int) + 1 := by rw [IntKind.wrap_i64]; omega
  by_cases hlt : k < cs.length
  ·have hd1 : decide ((k : Int) < (cs.length : Int)) = true := decide_eq_true (by omega)
   have hd2 : decide (k < cs.length) = true := decide_eq_true hlt
   have hjl : (k : Int) < (cs.length : Int) := by omega
   obtain ⟨cb, co, rfl, hcb, hcc⟩ := Rd.addr hrd (by omega)
   have hck : cs[k]? = some cs[k] := List.getElem?_eq_getElem hlt
   obtain ⟨g, cap, hvk, hgb, hgz, -, hgc⟩ := hvs k _ hck
   have c0 := (hbr.cell (p := ⟨cb, co + k, none⟩) hcb).trans (hcc k _ hvk)
   have hge := hbr.size
   obtain ⟨u, r, hur, hun⟩ := HFO.out _ (List.getElem_mem hlt)
   have HTK := Lib.hid (show (cs.take (k + 1)).filter (susp gr) = if susp gr cs[k] = true then (cs.take k).filter (susp gr) ++ [cs[k]] else (cs.take k).filter (susp gr) by
    rw [List.take_add_one, hck]
    simp only [Option.toList_some, List.filter_append, List.filter_cons, List.filter_nil]
    split <;> simp)
   have hgc2 : ∀ q (hq : q < (cs[k]).length), wr.cell? ⟨g, q, none⟩ = some (.int .i64 (cs[k])[q]) := fun q hq => (hbr.cell (p := ⟨g, q, none⟩) hgz).trans (hgc q hq)
   have HLL := Lib.hid hO
   have hfl : ((cs.take k).filter (susp gr)).length ≤ 16 := Nat.le_trans (List.length_filter_le _ _) (by rw [List.length_take]; omega)
   clear hO hck hvk hgc
   generalize cs[k] = cl at c0 hur HTK hgc2
   subst hur
   have g0 := hgc2 0 (by simp)
   obtain ⟨m, hm⟩ : ∃ m, m = (u :: r).length := ⟨_, rfl⟩
   rw [← hm] at c0
   have HM := Lib.hid hm
   have hm0 : (0 : Int) < (m : Int) := by rw [hm]; simp
   have hm00 : 0 < m := by omega
   by_cases hr0 : r = []
   ·subst hr0
    have hm1 : m = 1 := hm
    have hd3 : decide ((1 : Int) < (m : Int)) = false := decide_eq_false (by omega)
    have hd4 : decide (1 < m) = false := decide_eq_false (by omega)
    have HC := Lib.hid (HCT.out Ag Cg (u, u) wr.drew (Rd.more (hE3.below (hbr.trans ⟨rfl, rfl, rfl, Nat.le_refl _, fun _ _ => rfl⟩)) hbr.size))
    unfold edV at HC
    simp only [List.getElem_cons_zero] at g0
    clear hm hm1
    go_wp2_with fail
    go_still_tail 12, (by kernel_rfl)
    change wpList _ _ _ _ _ wr.drew
    have hbr2 := hbr.drew
    have hO2 := HLL.out.below (below_drews wr.heap.size wr 1)
    change OwnLL wr.drew _ _ _ at hO2
    have hgc3 : ∀ q (hq : q < [u].length), wr.drew.cell? ⟨g, q, none⟩ = some (.int .i64 [u][q]) := hgc2
    clear c0 g0 hgc2 HLL hbr hge
    generalize wr.drew = wd at HC hbr2 hO2 hgc3 ⊢
    go_wp2_with fail
    refine HC.out.mono ?_
    rintro e w4 ⟨rfl, hb4⟩
    have HO4 := hO2.below hb4
    have hbr4 := hbr2.trans (hb4.mono hbr2.size)
    have hgc4 : ∀ q (hq : q < [u].length), w4.cell? ⟨g, q, none⟩ = some (.int .i64 [u][q]) := fun q hq => (hb4.cell (p := ⟨g, q, none⟩) (by have := hbr2.size; show g < _; omega)).trans (hgc3 q hq)
    clear hO2 hbr2 hgc3 hb4 HC
    by_cases hin : (u, u) ∈ gr
    ·rw [decide_eq_true hin]
     have HSU : Hid (susp gr [u] = true) := Lib.hid (by simp [susp, hin])
     clear hin
     have hba := below_alloc w4 (.cells #[.slice (some ⟨g, 0, none⟩) m cap] 27)
     obtain ⟨vs2, h1, h2⟩ := HO4.below hba
     have hug : u6.ownBlock ≠ some g := fun e => by have := hob6 g e; omega
     have hge4 := hbr4.size
     go_upto_region 10 with (at_builtin; refine wpList_append_own_at _ rfl (.tmp 41) (.tmp 43) _ rfl w.heap.size 27 i1 (.slice none 0 0) 1 24 Tryz.underlying35 hi1 hy0 hy1 hy2 rfl (by omega) _ _ _ rfl h1 ⟨w4.heap.size, 0, none⟩ 1 1 [.slice (some ⟨g, 0, none⟩) m cap] rfl rfl (cell_one_new _ _ _) (by simp [Value.oneCell']) (by unfold maxLen; omega) (by omega) (by simp; omega) ?_; intro v6 w6 hown6 hg6 _ hob7)
     rw [HM.out] at hown6
     have hO7 := OwnLL.push h1 h2 hown6 hg6 hob7 (by omega) (by simp; omega) hug (fun q hq => (hba.cell (p := ⟨g, q, none⟩) (by show g < _; omega)).trans (hgc4 q hq))
     have hO8 : OwnLL w6 w.heap.size v6 ((cs.take (k + 1)).filter (susp gr)) := by rw [HTK.out, if_pos HSU.out]; exact hO7
     have hob8 : ∀ q, v6.ownBlock = some q → w3.heap.size ≤ q := fun q e => by
      rcases hob7 with z | z
      ·exact hob6 q (z ▸ e)
      ·rw [z] at e; injection e with e; simp at e; omega
     have hbr8 : Below w3.heap.size w3 w6 := (hbr4.trans (hba.mono hge4)).grown hg6 (by simp; omega) hob6
     clear HO4 h1 h2 hown6 hg6 hob7 hba hO7 hbr4 hgc4
     go_wp2_with fail
     go_round
     case rel => exact ⟨k + 1, rfl, by omega, hO8, hob8, hbr8⟩
     case measure => show cs.length - (intOf (Value.int IntKind.i64 ((k : Int) + 1))).toNat < cs.length - (intOf (Value.int IntKind.i64 (k : Int))).toNat; simp only [intOf]; omega
    ·rw [decide_eq_false hin]
     have HSU : Hid (susp gr [u] = false) := Lib.hid (by simp [susp, hin])
     clear hin
     have hO8 : OwnLL w4 w.heap.size u6 ((cs.take (k + 1)).filter (susp gr)) := by rw [HTK.out, if_neg (by rw [HSU.out]; decide)]; exact HO4
     clear HO4 hgc4
     go_wp2_with fail
     go_round
     case rel => exact ⟨k + 1, rfl, by omega, hO8, hob6, hbr4⟩
     case measure => show cs.length - (intOf (Value.int IntKind.i64 ((k : Int) + 1))).toNat < cs.length - (intOf (Value.int IntKind.i64 (k : Int))).toNat; simp only [intOf]; omega
   ·have hm1 : 1 < m := by
     have := List.length_pos_iff.2 hr0
     rw [hm, List.length_cons]; omega
    have hd3 : decide ((1 : Int) < (m : Int)) = true := decide_eq_true (by omega)
    have hd4 : decide (1 < m) = true := decide_eq_true hm1
    have HSU : Hid (susp gr (u :: r) = true) := Lib.hid (by simp [susp, List.length_pos_iff.2 hr0])
    clear hm hr0
    go_wp2_with fail
    go_quiet (fail)
    have hbr4 := hbr.trans (below_drews w3.heap.size wr nq)
    have HO4 := HLL.out.below (below_drews wr.heap.size wr nq)
    have hgc4 : ∀ q (hq : q < (u :: r).length), (wr.drewN nq).cell? ⟨g, q, none⟩ = some (.int .i64 (u :: r)[q]) := hgc2
    clear c0 g0 hgc2 HLL hbr hge
    generalize wr.drewN nq = w4 at hbr4 HO4 hgc4 ⊢
    have hba := below_alloc w4 (.cells #[.slice (some ⟨g, 0, none⟩) m cap] 27)
    obtain ⟨vs2, h1, h2⟩ := HO4.below hba
    have hug : u6.ownBlock ≠ some g := fun e => by have := hob6 g e; omega
    have hge4 := hbr4.size
    go_upto_region 10 with (at_builtin; refine wpList_append_own_at _ rfl (.tmp 41) (.tmp 43) _ rfl w.heap.size 27 i1 (.slice none 0 0) 1 24 Tryz.underlying35 hi1 hy0 hy1 hy2 rfl (by omega) _ _ _ rfl h1 ⟨w4.heap.size, 0, none⟩ 1 1 [.slice (some ⟨g, 0, none⟩) m cap] rfl rfl (cell_one_new _ _ _) (by simp [Value.oneCell']) (by unfold maxLen; omega) (by omega) (by simp; omega) ?_; intro v6 w6 hown6 hg6 _ hob7)
    rw [HM.out] at hown6
    have hO7 := OwnLL.push h1 h2 hown6 hg6 hob7 (by omega) (by simp; omega) hug (fun q hq => (hba.cell (p := ⟨g, q, none⟩) (by show g < _; omega)).trans (hgc4 q hq))
    have hO8 : OwnLL w6 w.heap.size v6 ((cs.take (k + 1)).filter (susp gr)) := by rw [HTK.out, if_pos HSU.out]; exact hO7
    have hob8 : ∀ q, v6.ownBlock = some q → w3.heap.size ≤ q := fun q e => by
     rcases hob7 with z | z
     ·exact hob6 q (z ▸ e)
     ·rw [z] at e; injection e with e; simp at e; omega
    have hbr8 : Below w3.heap.size w3 w6 := (hbr4.trans (hba.mono hge4)).grown hg6 (by simp; omega) hob6
    clear HO4 h1 h2 hown6 hg6 hob7 hba hO7 hbr4 hgc4
    go_wp2_with fail
    go_round
    case rel => exact ⟨k + 1, rfl, by omega, hO8, hob8, hbr8⟩
    case measure => show cs.length - (intOf (Value.int IntKind.i64 ((k : Int) + 1))).toNat < cs.length - (intOf (Value.int IntKind.i64 (k : Int))).toNat; simp only [intOf]; omega
  ·have hd1 : decide ((k : Int) < (cs.length : Int)) = false := decide_eq_false (by omega)
   have hd2 : decide (k < cs.length) = false := decide_eq_false hlt
   go_wp2_with fail
   go_ret2
   rw [List.take_of_length_le (by omega)] at hO
   exact ⟨_, rfl, hO, hb.trans (hbr.mono (by omega))⟩
end Go.Proofs.YtkpjdanfpolimaaGreat
end
