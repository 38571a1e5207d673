/- lockorder's lock and Certify, walked. Conditions: the program lies in memory, it is valid. · slices.Index, Contains, IndexFunc and ContainsFunc of edges, walked. Conditions: the slice · digraph's reach, walked: what can be reached. Conditio -/
import Derived.Test.YtkpjdanfpolimaaGreatLgDg0
import Derived.Test.YtkpjdanfpolimaaGreatLgDg6
import Derived.Test.YtkpjdanfpolimaaGreatLgDg3
import Derived.Test.YtkpjdanfpolimaaGreatLgIns
set_option maxRecDepth 100000
set_option maxHeartbeats 6400000
namespace Go.Proofs.YtkpjdanfpolimaaGreat
section
open Go.RowKit Go.Shelf
def lockB (o : Ob) : Bool := decide (o.kind = 1 ∨ o.kind = 2)
theorem lock_any (o : Ob) (w : World) : Calls Tryz.prog 34 #[.agg o.cells.toArray] w (Ret (.bool (lockB o)) w) := by
 have hb := below_alloc w (.cells #[.string o.name, .int .i64 o.kind, .int .i64 o.size, .int .i64 o.other] 65);unfold Ob.cells lockB;by_cases h1 : o.kind = 1
 ·have hd1 : (o.kind == 1) = true := by simpa using h1
  have hv : Hid (decide (o.kind = 1 ∨ o.kind = 2) = true) := hid (decide_eq_true (.inl h1));clear h1;go_enter Tryz.func34, Tryz.ntmps34;go_wp2_with fail;go_ret;exact ⟨by rw [hv.out]; rfl, hb⟩
 ·have hd1 : (o.kind == 1) = false := by simpa using h1
  by_cases h2 : o.kind = 2
  ·have hd2 : (o.kind == 2) = true := by simpa using h2
   have hv : Hid (decide (o.kind = 1 ∨ o.kind = 2) = true) := hid (decide_eq_true (.inr h2));clear h1 h2;go_enter Tryz.func34, Tryz.ntmps34;go_wp2_with fail;go_ret;exact ⟨by rw [hv.out]; rfl, hb⟩
  ·have hd2 : (o.kind == 2) = false := by simpa using h2
   have hv : Hid (decide (o.kind = 1 ∨ o.kind = 2) = false) := hid (decide_eq_false (fun z => z.elim h1 h2));clear h1 h2;go_enter Tryz.func34, Tryz.ntmps34;go_wp2_with fail;go_ret;exact ⟨by rw [hv.out]; rfl, hb⟩
theorem own_eds {W : World} {base : Nat} {v : Value} {l : List (Nat × Nat)} (h : OwnE W base v l) : ∃ A c, v = .slice A l.length c ∧ Eds W W.heap.size A l := by
 obtain ⟨A, c, rfl⟩ := own_form h;exact ⟨A, c, rfl, Rd.of_own h⟩
def Ranked (n : Nat) (l : List (Nat × Nat)) (r : Nat → Nat) : Prop := ∃ o, Topo n l o ∧ RkInv n l o n r
def crt (p : Prg) (r : Nat → Nat) (i : Nat) : Nat := if lockB (p.obs.getD i default) then r i + 1 else 0
def CertR (p : Prg) (w : World) : Ending → World → Prop := fun e W => ∃ (v : Value) (k c : Int), e = .returned (.tuple #[.agg #[.int .i64 k, v], .int .i64 c]) ∧ Below w.heap.size w W ∧
 ((c = 0 ∧ k = 1 ∧ ∃ r, Ranked p.obs.length (graphOf p) r ∧ W.ownsRow w.heap.size 3 1 v p.obs.length (natC ((List.range p.obs.length).map (crt p r)))) ∨ (c = 30 ∧ k = 0 ∧ v = .slice none 0 0 ∧ Stuck p.obs.length (graphOf p)))
theorem certify_any (p : Prg) (hfit : Fits p) (hv : prgOk p) (w : World) (h : Lies w w.heap.size p) : Calls Tryz.prog 9 #[p.val] w (CertR p w) := by
 have hW := wf_of hv;have hn := hW.funs;have hob := hW.obs;have HGR := hid (fun (W : World) (hb : Below w.heap.size w W) => graph_any p hfit hv W (h.next hb));have HRK := hid (fun (A : Option Addr) (c : Nat) (W : World) (hE : Eds W W.heap.size A (graphOf p)) => ranks_any p.obs.length A c (graphOf p) (by omega) (by have := graph_len hob; omega) (graph_range hW) (graph_strict p) W hE);have HOB := hid (fun (W : World) (hb : Below w.heap.size w W) (k : Nat) (hk : k < p.obs.length) => (h.next hb).ob hk);have hmk := fun W => run_make_row' (P := Tryz.prog) 27 3 (.int .i64 0) 8 Tryz.underlying27 (by kernel_rfl) rfl .i64 .i64 p.obs.length (by omega) (by omega) W
 unfold Prg.val at HGR ⊢;unfold CertR;clear h;go_enter Tryz.func9, Tryz.ntmps9;go_upto_region 1 with fail;have hT := one_new w #[.slice p.funA p.funs.length p.funC, .slice p.obA p.obs.length p.obC, .slice p.vrA p.vrs.length p.vrC] 26;have hbR := below_alloc (w.alloc (.cells #[.slice p.funA p.funs.length p.funC, .slice p.obA p.obs.length p.obC, .slice p.vrA p.vrs.length p.vrC] 26)) (.cells #[.int .i64 0, .slice none 0 0] 29);have hRo := heap_alloc_new (w.alloc (.cells #[.slice p.funA p.funs.length p.funC, .slice p.obA p.obs.length p.obC, .slice p.vrA p.vrs.length p.vrC] 26)) (.cells #[.int .i64 0, .slice none 0 0] 29);rw [World.size_alloc] at hRo;have hT1 := hT.next hbR
 have hzR : w.heap.size + 1 < ((w.alloc (.cells #[.slice p.funA p.funs.length p.funC, .slice p.obA p.obs.length p.obC, .slice p.vrA p.vrs.length p.vrC] 26)).alloc (.cells #[.int .i64 0, .slice none 0 0] 29)).heap.size := by simp
 clear hT hbR;generalize World.alloc _ _ = w1 at hT1 hRo hzR ⊢;obtain ⟨x0, x1, x2⟩ := bx3 hT1.fst;have HG1 := hid (HGR.out w1 hT1.below);go_wp2_with fail;refine HG1.out.mono ?_;rintro e w2 ⟨gv, rfl, hE, hb2⟩;obtain ⟨Ag, Cg, rfl, hE2⟩ := own_eds hE;have hT2 := hT1.next hb2;have hR2 := (hb2.block _ hzR).trans hRo;have hz2 := hb2.size;clear x0 x1 x2 hE HG1 hT1 hRo hb2 HGR;obtain ⟨x0, x1, x2⟩ := bx3 hT2.fst;have HR1 := hid (HRK.out Ag Cg w2 hE2);clear HRK hE2;go_wp2_with fail;refine HR1.out.mono ?_;rintro e w3 ⟨rv, rc, rfl, hb3, ⟨rfl, o, r, ho, hr, hown⟩ | ⟨rfl, rfl, hst⟩⟩
 ·have hT3 := hT2.next hb3
  have hR3 := (hb3.block _ (by omega)).trans hR2;have hz3 := hb3.size;obtain ⟨Ar, Cr, rfl⟩ := own_form hown
  have hNr : Nts w3 w3.heap.size Ar ((List.range p.obs.length).map r) := by
   have := Rd.of_own hown;show Rd _ _ _ _ ((List.range p.obs.length).map r).length _;rw [List.length_map, List.length_range]; exact this
  clear x0 x1 x2 hT2 hR2 hb3 HR1 hown;obtain ⟨x0, x1, x2⟩ := bx3 hT3.fst;go_upto_region 8 with fail;have hro := (World.rowIs_made w3 (.int .i64 0) p.obs.length 3).congr (g := fun i => .int .i64 ((if i < 0 then crt p r i else 0 : Nat) : Int)) (fun i _ => by simp);have hba := below_alloc w3 (.cells (madeCells #[.int .i64 0] p.obs.length) 3);have hTa := hT3.next hba;have hRa := (hba.block _ (by omega)).trans hR3;have hNa := hNr.below' hba (Nat.le_refl _);have hza : w3.heap.size + 1 ≤ (w3.alloc (.cells (madeCells #[.int .i64 0] p.obs.length) 3)).heap.size := by simp
  have hzO : w.heap.size + 2 ≤ w3.heap.size := by omega
  clear x0 x1 x2 hT3 hR3 hNr hba hmk;generalize w3.alloc _ = wa at hro hTa hRa hNa hza ⊢;generalize w3.heap.size = O at hro hNa hza hzO ⊢;go_upto_region 9 with fail;go_loopw [8, 9, 35] (fun _ _ i wr => ∃ k : Nat, i = .int .i64 (k : Nat) ∧ k ≤ p.obs.length ∧ One w wr [.slice p.funA p.funs.length p.funC, .slice p.obA p.obs.length p.obC, .slice p.vrA p.vrs.length p.vrC] ∧ wr.rowIs O 3 p.obs.length (fun i => .int .i64 ((if i < k then crt p r i else 0 : Nat) : Int)) ∧ Nts wr O Ar ((List.range p.obs.length).map r) ∧ wr.heap[w.heap.size + 1]? = some (.cells #[.int .i64 0, .slice none 0 0] 29 (0, 0)) ∧ O + 1 ≤ wr.heap.size) (fun _ _ i _ => p.obs.length - (intOf i).toNat)
  case atStart => exact ⟨0, rfl, by omega, hTa, hro, hNa, hRa, hza⟩
  case round =>
   clear hTa hro hNa hRa hza;obtain ⟨k, rfl, hk, hT, hro, hNr, hRo, hz⟩ := hrel;have hk0 := zi k;have hwr := Wi k (by omega);by_cases hlt : k < p.obs.length
   ·have hd1 := Dt (show (k : Int) < p.obs.length by omega)
    have hd2 := Dt hlt;have hjl : (k : Int) < (p.obs.length : Int) := by omega
    obtain ⟨rb, roff, rfl, hrb, cr⟩ := hNr.at_ (k := k) (by simpa using hlt);have e7 : ((List.range p.obs.length).map r)[k]'(by simpa using hlt) = r k := by simp
    rw [e7] at cr;clear e7;obtain ⟨ob, oo, hoA, -, q0, q1, q2, q3⟩ := HOB.out wr hT.below k hlt;obtain ⟨x0, x1, x2⟩ := bx3 hT.fst;rw [hoA] at x1;clear hoA;have HLK := hid (lock_any p.obs[k] wr);unfold Ob.cells at HLK;have HCR := hid (show crt p r k = if lockB p.obs[k] then r k + 1 else 0 by unfold crt; rw [List.getD_eq_getElem?_getD, List.getElem?_eq_getElem hlt]; rfl);have hrn : r k ≤ p.obs.length := hr.le k;generalize p.obs[k] = ok at q0 q1 q2 q3 HLK HCR;generalize r k = rk at cr HCR hrn;go_wp2_with fail;refine HLK.out.mono ?_;rintro e wk ⟨rfl, hbk⟩;have hTk := hT.next hbk;have hrok := hro.of_block (hbk.block _ (by omega));have hNk := hNr.below' hbk (by omega);have hRk := (hbk.block _ (by omega)).trans hRo;have hzk : O + 1 ≤ wk.heap.size := Nat.le_trans hz hbk.size;clear hT hro hNr hRo hz hbk cr q0 q1 q2 q3 x0 x1 x2 HLK
    cases hlb : lockB ok with
    | false =>
     have hro2 := hrok.congr (g := fun i => .int .i64 ((if i < k + 1 then crt p r i else 0 : Nat) : Int)) (fun i _ => by
      by_cases e : i = k
      ·subst e; rw [HCR.out, hlb]; simp
      ·by_cases e2 : i < k
       ·rw [if_pos e2, if_pos (by omega)]
       ·rw [if_neg e2, if_neg (by omega)])
     clear hrok hlb;go_wp2_with fail;go_round
     case rel => exact ⟨k + 1, rfl, by omega, hTk, hro2, hNk, hRk, hzk⟩
     case measure => exact ms (by omega)
    | true =>
     have c0 := hrok.cell hlt;have f0 := hrok.frozen k;have hwk := Wi rk (by omega)
     have hro2 := (hrok.set k (.int .i64 ((rk : Int) + 1))).congr (g := fun i => .int .i64 ((if i < k + 1 then crt p r i else 0 : Nat) : Int)) (fun i _ => by
      by_cases e : i = k
      ·subst e; rw [if_pos rfl, if_pos (by omega), HCR.out, hlb]; rfl
      ·rw [if_neg e]
       by_cases e2 : i < k
       ·rw [if_pos e2, if_pos (by omega)]
       ·rw [if_neg e2, if_neg (by omega)])
     have hTs : One w (wk.setCell ⟨O, k, none⟩ (.int .i64 ((rk : Int) + 1))) [.slice p.funA p.funs.length p.funC, .slice p.obA p.obs.length p.obC, .slice p.vrA p.vrs.length p.vrC] := ⟨fun q u hq => (World.cell?_setCell_far _ _ _ _ (by show O ≠ w.heap.size; omega)).trans (hTk.fst q u hq), hTk.below.setCell (p := ⟨O, k, none⟩) (by show w.heap.size ≤ O; omega) _, by simpa using hTk.size⟩
     have hNs := hNk.below' ((Below.refl O wk).setCell (p := ⟨O, k, none⟩) (Nat.le_refl _) (.int .i64 ((rk : Int) + 1))) (Nat.le_refl _);have hRs := (heap_setCell_other wk ⟨O, k, none⟩ (w.heap.size + 1) (.int .i64 ((rk : Int) + 1)) (by show w.heap.size + 1 ≠ O; omega)).trans hRk;have hzs : O + 1 ≤ (wk.setCell ⟨O, k, none⟩ (.int .i64 ((rk : Int) + 1))).heap.size := by simpa using hzk
     clear hlb hTk hNk hRk hzk;go_wp2_with fail;go_round
     case rel => exact ⟨k + 1, rfl, by omega, hTs, hro2, hNs, hRs, hzs⟩
     case measure => exact ms (by omega)
   ·have hd1 := Df (show ¬ (k : Int) < p.obs.length by omega)
    have hd2 := Df hlt;have r0 : wr.cell? ⟨w.heap.size + 1, 0, none⟩ = some (.int .i64 0) := by simp [World.cell?, hRo]
    have r1 : wr.cell? ⟨w.heap.size + 1, 1, none⟩ = some (.slice none 0 0) := by simp [World.cell?, hRo]
    have f0 : wr.frozen? ⟨w.heap.size + 1, 0, none⟩ = false := by simp [World.frozen?, hRo]
    have f1 : wr.frozen? ⟨w.heap.size + 1, 1, none⟩ = false := by simp [World.frozen?, hRo]
    go_wp2_with fail;have hkn : k = p.obs.length := by omega
    rw [hkn] at hro;have hro9 := hro.congr (g := fun i => .int .i64 ((crt p r i : Nat) : Int)) (fun i hi => by rw [if_pos hi]);have hw9 := (hro9.setOther (a := ⟨w.heap.size + 1, 0, none⟩) (by show O ≠ w.heap.size + 1; omega) (.int .i64 1)).setOther (a := ⟨w.heap.size + 1, 1, none⟩) (by show O ≠ w.heap.size + 1; omega) (.slice (some ⟨O, 0, none⟩) p.obs.length p.obs.length);have hb9 := (hT.below.setCell (p := ⟨w.heap.size + 1, 0, none⟩) (by show w.heap.size ≤ w.heap.size + 1; omega) (.int .i64 1)).setCell (p := ⟨w.heap.size + 1, 1, none⟩) (by show w.heap.size ≤ w.heap.size + 1; omega) (.slice (some ⟨O, 0, none⟩) p.obs.length p.obs.length)
    refine bodyPost_ret (results_cellt rfl rfl (run_loadVar_row (P := Tryz.prog) _ (w.heap.size + 1) 29 29 #[.int .i64 1, .slice (some ⟨O, 0, none⟩) p.obs.length p.obs.length] (0, 0) _ ?_ Tryz.underlying29 rfl (by kernel_rfl))) rfl ?_
    ·simp [World.setCell, Array.getElem?_modify, hRo]
    ·exact ⟨_, 1, 0, rfl, hb9, .inl ⟨rfl, rfl, r, ⟨o, ho, hr⟩, own_of_row (by omega) (by omega) hw9⟩⟩
 ·have hR3 := (hb3.block _ (by omega)).trans hR2
  have r0 : w3.cell? ⟨w.heap.size + 1, 0, none⟩ = some (.int .i64 0) := by simp [World.cell?, hR3]
  have r1 : w3.cell? ⟨w.heap.size + 1, 1, none⟩ = some (.slice none 0 0) := by simp [World.cell?, hR3]
  have f0 : w3.frozen? ⟨w.heap.size + 1, 0, none⟩ = false := by simp [World.frozen?, hR3]
  have f1 : w3.frozen? ⟨w.heap.size + 1, 1, none⟩ = false := by simp [World.frozen?, hR3]
  have hT3 := hT2.next hb3;go_wp2_with fail;have hb9 := (hT3.below.setCell (p := ⟨w.heap.size + 1, 0, none⟩) (by show w.heap.size ≤ w.heap.size + 1; omega) (.int .i64 0)).setCell (p := ⟨w.heap.size + 1, 1, none⟩) (by show w.heap.size ≤ w.heap.size + 1; omega) (.slice none 0 0);refine bodyPost_ret (results_cellt rfl rfl (run_loadVar_row (P := Tryz.prog) _ (w.heap.size + 1) 29 29 #[.int .i64 0, .slice none 0 0] (0, 0) _ ?_ Tryz.underlying29 rfl (by kernel_rfl))) rfl ?_
  ·simp [World.setCell, Array.getElem?_modify, hR3]
  ·exact ⟨_, 0, 30, rfl, hb9, .inr ⟨rfl, rfl, rfl, hst⟩⟩
end
section
open Go.RowKit Go.Shelf
def edB (a b c d : Int) : Bool := a == c && b == d
theorem run_eql_ed (a b c d : Int) (W : World) : (binOp .eql 47 (.agg #[.int .i64 a, .int .i64 b]) (.agg #[.int .i64 c, .int .i64 d])).run Tryz.prog W = .ok (.bool (edB a b c d)) W := by
 rw [run_eql_struct];unfold edB;by_cases h : a = c
 ·by_cases g : b = d <;> simp [go_sem, h, g]
 ·simp [go_sem, h]
theorem edB_eq (x y : Nat × Nat) : edB x.1 x.2 y.1 y.2 = decide (x = y) := by
 obtain ⟨a, b⟩ := x;obtain ⟨c, d⟩ := y;unfold edB;simp only [Prod.mk.injEq];have e1 : ((a : Int) = c) ↔ a = c := by omega
 have e2 : ((b : Int) = d) ↔ b = d := by omega
 by_cases h1 : a = c <;> by_cases h2 : b = d <;> simp [h1, h2, e1, e2]
attribute [local go_sem ↓] run_eql_ed
theorem edIndex_any (A : Option Addr) (c : Nat) (l : List (Nat × Nat)) (e0 : Nat × Nat) (hl : l.length ≤ 2000) (w : World) (h : Eds w w.heap.size A l) :
  Calls Tryz.prog 59 #[.slice A l.length c, edV e0] w fun e W => ∃ i : Int, e = .returned (.int .i64 i) ∧ decide (0 ≤ i) = decide (e0 ∈ l) ∧ Below w.heap.size w W := by
 obtain ⟨ea, eb⟩ := e0;have hba := below_alloc w (.cells #[.int .i64 ea, .int .i64 eb] 47);have hx := bx_new2 w (.int .i64 ea) (.int .i64 eb) 47;have hza : w.heap.size < (w.alloc (.cells #[.int .i64 ea, .int .i64 eb] 47)).heap.size := by simp
 unfold edV;go_enter Tryz.func59, Tryz.ntmps59;go_upto_region 2 with fail;generalize w.alloc _ = wa at hba hx hza ⊢;go_loopw [5, 8] (fun _ i wr => ∃ k : Nat, i = .int .i64 (k : Nat) ∧ k ≤ l.length ∧ (ea, eb) ∉ l.take k ∧ wr.cell? ⟨w.heap.size, 0, none⟩ = some (.int .i64 ea) ∧ wr.cell? ⟨w.heap.size, 1, none⟩ = some (.int .i64 eb) ∧ Below w.heap.size w wr) (fun _ i _ => l.length - (intOf i).toNat)
 case atStart => exact ⟨0, rfl, by omega, by simp, hx.1, hx.2, hba⟩
 case round =>
  clear hx hba hza;obtain ⟨k, rfl, hk, hno, x0, x1, hb⟩ := hrel;have hk0 := zi k;have hwr := Wi k (by omega);have HNO := hid hno;clear hno;by_cases hlt : k < l.length
  ·have hd1 := Dt (show (k : Int) < l.length by omega)
   have hd2 := Dt hlt;have hjl : (k : Int) < (l.length : Int) := by omega
   obtain ⟨b, off, rfl, had, h1, h2⟩ := (h.below hb).at_ hlt;have HMM := hid (List.getElem_mem hlt);have HTK := hid (show l.take (k + 1) = l.take k ++ [l[k]] by rw [List.take_add_one, List.getElem?_eq_getElem hlt]; rfl);generalize l[k] = x at h1 h2 HTK HMM;obtain ⟨a1, a2⟩ := x;dsimp only at h1 h2;by_cases hq : (ea, eb) = (a1, a2)
   ·have hcb : edB ea eb a1 a2 = true := by rw [show edB ea eb a1 a2 = _ from edB_eq (ea, eb) (a1, a2)]; exact decide_eq_true hq
    have HIN : Hid (decide ((ea, eb) ∈ l) = true) := hid (decide_eq_true (hq ▸ HMM.out));clear hq;go_wp2_with fail;go_quiet (fail);go_wp2_with fail;go_ret;exact ⟨_, rfl, by rw [HIN.out]; exact decide_eq_true hk0, hb.trans (below_drews _ _ _)⟩
   ·have hcb : edB ea eb a1 a2 = false := by rw [show edB ea eb a1 a2 = _ from edB_eq (ea, eb) (a1, a2)]; exact decide_eq_false hq
    have HN2 : Hid ((ea, eb) ∉ l.take (k + 1)) := hid (by rw [HTK.out]; simp only [List.mem_append, List.mem_singleton]; exact fun z => z.elim HNO.out hq);clear hq;go_wp2_with fail;go_quiet (fail);go_wp2_with fail;go_round
    case rel => exact ⟨k + 1, rfl, by omega, HN2.out, x0, x1, hb.trans (below_drews _ _ _)⟩
    case measure => exact ms (by omega)
  ·have hd1 := Df (show ¬ (k : Int) < l.length by omega)
   have hd2 := Df hlt;go_wp2_with fail;go_ret
   exact ⟨-1, rfl, by
    have := HNO.out;rw [List.take_of_length_le (by omega)] at this;rw [decide_eq_false this]; rfl, hb⟩
theorem edContains_any (A : Option Addr) (c : Nat) (l : List (Nat × Nat)) (e0 : Nat × Nat) (hl : l.length ≤ 2000) (w : World) (h : Eds w w.heap.size A l) :
  Calls Tryz.prog 38 #[.slice A l.length c, edV e0] w (Ret (.bool (decide (e0 ∈ l))) w) := by
 obtain ⟨ea, eb⟩ := e0;have hba := below_alloc w (.cells #[.int .i64 ea, .int .i64 eb] 47);obtain ⟨x0, x1⟩ := bx_new2 w (.int .i64 ea) (.int .i64 eb) 47;have HI := hid (fun (W : World) (hb : Below w.heap.size w W) => edIndex_any A c l (ea, eb) hl W (Rd.more (h.below hb) hb.size));unfold edV at HI ⊢;go_enter Tryz.func38, Tryz.ntmps38;go_upto_region 1 with fail;generalize w.alloc _ = wa at hba x0 x1 ⊢;go_wp2_with fail;refine (HI.out wa hba).mono ?_;rintro e w2 ⟨i, rfl, hi, hb2⟩;have HII := hid hi;clear hi;go_wp2_with fail;go_ret;exact ⟨by rw [← HII.out]; rfl, hba.trans (hb2.mono hba.size)⟩
end
section
open Go.RowKit Go.Shelf
attribute [local go_sem] Oper.semAt_some
def visV (M : Nat) : Value := .func (.func 77) #[] #[.pointer (some ⟨M + 2, 0, none⟩), .pointer (some ⟨M, 0, none⟩), .pointer (some ⟨M + 3, 0, none⟩)]
structure Vis (M n N : Nat) (l : List (Nat × Nat)) (s : Nat → Bool) (W : World) : Prop where
 net : Net W M N n l
 gb : Bx W M [.int .i64 n, .slice (some ⟨N, 0, none⟩) n n]
 row : W.rowIs (M + 1) 4 n (fun v => .bool (s v))
 sb : Bx W (M + 2) [.slice (some ⟨M + 1, 0, none⟩) n n]
 vb : Bx W (M + 3) [visV M]
 size : M + 4 ≤ W.heap.size
theorem Vis.next {M n N B : Nat} {l : List (Nat × Nat)} {s : Nat → Bool} {W W' : World} (h : Vis M n N l s W) (hb : Below B W W') (hB : M + 4 ≤ B) : Vis M n N l s W' :=
 ⟨h.net.below' hb (by omega), h.gb.below hb (by omega), h.row.of_block (hb.block _ (by omega)), h.sb.below hb (by omega), h.vb.below hb (by omega), Nat.le_trans h.size hb.size⟩
theorem Vis.set {M n N : Nat} {l : List (Nat × Nat)} {s t : Nat → Bool} {W : World} (h : Vis M n N l s W) (x : Nat) (b : Bool) (hg : ∀ i, i < n → (if i = x then b else s i) = t i) : Vis M n N l t (W.setCell ⟨M + 1, x, none⟩ (.bool b)) :=
 have hb : Below (M + 1) W (W.setCell ⟨M + 1, x, none⟩ (.bool b)) := (Below.refl _ _).setCell (p := ⟨M + 1, x, none⟩) (Nat.le_refl _) _
 ⟨h.net.below' hb (by omega), h.gb.below hb (by omega), (h.row.set x _).congr (fun i hi => by rw [← hg i hi]; split <;> rfl), fun j u hu => (World.cell?_setCell_far _ _ _ _ (by show M + 1 ≠ M + 2; omega)).trans (h.sb j u hu), fun j u hu => (World.cell?_setCell_far _ _ _ _ (by show M + 1 ≠ M + 3; omega)).trans (h.vb j u hu), by simpa using h.size⟩
def VisR (M n N : Nat) (l : List (Nat × Nat)) (s : Nat → Bool) (us : List Nat) (w : World) : Ending → World → Prop := fun e W => e = .returned (.tuple #[]) ∧ ∃ t, Seen l us s t ∧ Vis M n N l t W ∧ Turn (M + 1) (M + 2) w W
theorem reach1_any (M n N : Nat) (l : List (Nat × Nat)) (hl : l.length ≤ 2000) (hr : EdR n l) : ∀ (k : Nat) (s : Nat → Bool) (u : Nat) (W : World), blind n s < k → u < n → Vis M n N l s W →
  Calls Tryz.prog 77 #[.int .i64 u, .pointer (some ⟨M + 2, 0, none⟩), .pointer (some ⟨M, 0, none⟩), .pointer (some ⟨M + 3, 0, none⟩)] W (VisR M n N l s [u] W) := by
 intro k
 induction k with
 | zero => exact fun s u w hk => absurd hk (by omega)
 | succ k ih =>
  intro s u w hk hu hV;have c0 := hV.row.cell hu;have f0 := hV.row.frozen u;have s0 := hV.sb 0 _ rfl;have hu0 := zi u;have hu1 : (u : Int) < (n : Int) := by omega
  have hz := hV.size;refine (callsIn_wide (n := 4)).1 (callsIn_of_wp_marks Tryz.func77 rfl trivial ?_ rfl);simp only [Tryz.ntmps77, List.size_toArray, List.length_cons, List.length_nil, Nat.reduceAdd, Nat.reduceSub, Array.replicate_succ, Array.replicate_zero, List.push_toArray, List.append_toArray, List.nil_append, List.cons_append]
  cases hs : s u with
  | true =>
   rw [hs] at c0;gi_wp2
   exact leaves_marks [] w (Marks.nil 0 w) (fun W' hT => by
    have hb := hT.below (Marks.nil w.heap.size w);exact ⟨_, results_none rfl _ _ _, rfl, s, Seen.seen hs, hV.next hb hz, Turn.of_below hb⟩)
  | false =>
   rw [hs] at c0;gi_upto_region 2 with fail;have hV1 := hV.set u true (t := fun v => if v = u then true else s v) (fun i _ => rfl);have hT1 : Turn (M + 1) (M + 2) w (w.setCell ⟨M + 1, u, none⟩ (.bool true)) := (Turn.refl (M + 1) (M + 2) w).setCell (a := ⟨M + 1, u, none⟩) ⟨Nat.le_refl _, by show M + 1 < M + 2; omega⟩ _;clear c0 f0 s0 hV;generalize w.setCell ⟨M + 1, u, none⟩ _ = W1 at hV1 hT1 ⊢;have g0 := hV1.gb 0 _ rfl;have g1 := hV1.gb 1 _ rfl;have hz1 := hV1.size;gi_wp2;refine ⟨trivial, (callsIn_wide.2 (succ_any n N u W1)).mono ?_⟩;rintro e W3 ⟨rfl, rfl⟩;have hbS := succObjs_below n N u W1;have hzS := succObjs_size n N u W1;have hmS := succObjs_mem (M + 1) n N u l W1 (hV1.net.more (by omega)) (by omega);have hV3 := hV1.next hbS (by omega);have hT3 := hT1.below2 hbS hT1.size;have hwb := hT1.size;clear hV1 hT1 g0 g1 hbS
   generalize succObjs n N u W1 = W3 at hzS hmS hV3 hT3 ⊢;generalize W1.heap.size = b0 at hzS hmS hz1 hwb ⊢;unfold succVal;gi_wp2
   refine wpIn_rangeFunc_ac rfl (by omega) (gf := 75) (lb := #[.pointer (some ⟨b0, 0, none⟩), .pointer (some ⟨b0 + 1, 0, none⟩)]) rfl trivial (enters_of Tryz.func75 (by kernel_rfl) rfl)
    (succ_stops 3 (by omega) (M + 1) (M + 2) n N l b0 u (by omega) hu hl W3 hmS (by omega))
    (fun h k => h.trans k) (fun W l o o' _ hl hc _ => CellsKept.putObj o' hl hc) (Below.refl _ _) (fun _ => rfl)
    (fun A' B' k o hab _ ho hc => hab.rec_ k o ho hc)
    (fun pre W => ∃ t : Nat → Bool, Seen l pre (fun v => if v = u then true else s v) t ∧ Vis M n N l t W ∧ Turn (M + 1) (M + 2) w W ∧ b0 + 2 ≤ W.heap.size) (fun _ _ _ => False)
    (fun pre W W' row hs hg hr => by
     obtain ⟨t, h0, h1, h2, h3⟩ := hs;have hbw := below_grownFrom (B := b0 + 2) hg (fun r e => by have := (hr r e).1; omega) h3;exact ⟨t, h0, h1.next hbw (by omega), h2.below2 hbw (by omega), Nat.le_trans h3 hg.size⟩)
    (fun _ => fun _ _ _ _ h _ _ => h)
    (fun pre A' B' hs hab => by
     obtain ⟨t, h0, h1, h2, h3⟩ := hs;exact ⟨t, h0, h1.next hab.below (by omega), h2.below2 hab.below (by omega), Nat.le_trans h3 hab.below.size⟩)
    ⟨_, Seen.nil l _, hV3, hT3, by omega⟩
    (fun x a' _ => a' = ⟨((.int .i64 u : Value) :: .pointer (some ⟨M + 2, 0, none⟩) :: .pointer (some ⟨M, 0, none⟩) :: .pointer (some ⟨M + 3, 0, none⟩) :: undef :: .int .i64 (x : Nat) :: .slice (some ⟨M + 1, 0, none⟩) n n :: .int .i64 u :: .pointer (some ⟨M + 1, u, none⟩) :: .bool false :: .slice (some ⟨M + 1, 0, none⟩) n n :: .int .i64 u :: .pointer (some ⟨M + 1, u, none⟩) :: .agg #[.int .i64 n, .slice (some ⟨N, 0, none⟩) n n] :: .int .i64 u :: .func (.func 75) #[] #[.pointer (some ⟨b0, 0, none⟩), .pointer (some ⟨b0 + 1, 0, none⟩)] :: .int .i64 (x : Nat) :: undef :: undef :: undef :: []).toArray, []⟩) (fun _ _ _ _ _ hs _ _ => hs) ?assign ?body ?done ?stop
   case assign =>
    rintro lp pre x W K hJ hK';gi_wp2;exact hK' _ _ (KeepsFrom.refl _ _) (CellsKept.refl _ _ _) hJ rfl
   case stop => rintro D c' pre W hD _ hno hK'; exact hno.elim
   case body =>
    rintro lp pre x a' W ⟨t, h0, h1, h2, h3⟩ rfl hpre;have hxe : (u, x) ∈ l := mem_succs.1 (hpre.subset (by simp));have hxn : x < n := (hr _ hxe).2
    have hbt : blind n t < k := by
     have e1 := blind_more (n := n) h0.more;have e2 := blind_lt hu hs;omega
    have v0 := h1.vb 0 _ rfl;unfold visV at v0;gi_wp2;refine ⟨trivial, CallsIn.inRound lp (callsIn_wide.2 ((ih t x W hbt hxn h1).mono ?_))⟩;rintro e W5 ⟨rfl, t5, k1, k2, k3⟩;gi_wp2;exact ⟨KeepsFrom.turn k3 (by omega), CellsKept.turn k3, t5, h0.push k1, k2, h2.trans k3, Nat.le_trans h3 k3.size⟩
   case done =>
    rintro D ys W hD rfl ⟨t, h0, h1, h2, h3⟩ hKD;gi_wp2;have hMD : Marks (b0 + 2) [D] W := (Marks.nil _ W).push (by omega) (by simp) hKD
    exact leaves_marks [D] W hMD (fun W' hT => by
     have hb := hT.below hMD;exact ⟨_, results_none rfl _ _ _, rfl, t, h0.node, h1.next hb (by omega), h2.below2 hb (by omega)⟩)
theorem vis_new {n N : Nat} {l : List (Nat × Nat)} {w : World} (ty : TypeId) (hN : Net w w.heap.size N n l) :
  Vis w.heap.size n N l (fun _ => false) ((((w.alloc (.cells #[.int .i64 n, .slice (some ⟨N, 0, none⟩) n n] 98)).alloc (.cells (madeCells #[.bool false] n) 4)).alloc (.cells #[.slice (some ⟨w.heap.size + 1, 0, none⟩) n n] 82)).alloc (.cells #[visV w.heap.size] ty)) ∧
  Below w.heap.size w ((((w.alloc (.cells #[.int .i64 n, .slice (some ⟨N, 0, none⟩) n n] 98)).alloc (.cells (madeCells #[.bool false] n) 4)).alloc (.cells #[.slice (some ⟨w.heap.size + 1, 0, none⟩) n n] 82)).alloc (.cells #[visV w.heap.size] ty)) := by
 have hba := below_alloc w (.cells #[.int .i64 n, .slice (some ⟨N, 0, none⟩) n n] 98);have hga := bx_new w #[.int .i64 n, .slice (some ⟨N, 0, none⟩) n n] 98;have hza : (w.alloc (.cells #[.int .i64 n, .slice (some ⟨N, 0, none⟩) n n] 98)).heap.size = w.heap.size + 1 := by simp
 have hrb := World.rowIs_made (w.alloc (.cells #[.int .i64 n, .slice (some ⟨N, 0, none⟩) n n] 98)) (.bool false) n 4;have hbb := below_alloc (w.alloc (.cells #[.int .i64 n, .slice (some ⟨N, 0, none⟩) n n] 98)) (.cells (madeCells #[.bool false] n) 4);have hzb : ((w.alloc (.cells #[.int .i64 n, .slice (some ⟨N, 0, none⟩) n n] 98)).alloc (.cells (madeCells #[.bool false] n) 4)).heap.size = w.heap.size + 2 := by simp
 rw [hza] at hrb;generalize w.alloc _ = wa at *;generalize wa.alloc _ = wb at *;have hbc := below_alloc wb (.cells #[.slice (some ⟨w.heap.size + 1, 0, none⟩) n n] 82);have hgc := bx_new wb #[.slice (some ⟨w.heap.size + 1, 0, none⟩) n n] 82;have hzc : (wb.alloc (.cells #[.slice (some ⟨w.heap.size + 1, 0, none⟩) n n] 82)).heap.size = w.heap.size + 3 := by simp; omega
 rw [hzb] at hgc;have hrc := hrb.alloc (.cells #[.slice (some ⟨w.heap.size + 1, 0, none⟩) n n] 82);generalize wb.alloc _ = wc at *;have hbd := below_alloc wc (.cells #[visV w.heap.size] ty);have hgd := bx_new wc #[visV w.heap.size] ty;rw [hzc] at hgd;have hbx := ((hba.trans (hbb.mono (by omega))).trans (hbc.mono (by omega))).trans (hbd.mono (by omega));exact ⟨⟨hN.below' hbx (Nat.le_refl _), ((hga.below hbb (by omega)).below hbc (by omega)).below hbd (by omega), (hrc.alloc _).congr (fun i _ => rfl), hgc.below hbd (by omega), hgd, by simp; omega⟩, hbx⟩
theorem dgReach_any (n N u : Nat) (l : List (Nat × Nat)) (hn : n ≤ 200) (hl : l.length ≤ 2000) (hr : EdR n l) (hu : u < n) (g : Nat) (c : Nat) (w : World) (hN : Net w w.heap.size N n l) (hg : g < w.heap.size) (hc : w.cell? ⟨g, 0, none⟩ = some (.int .i64 u)) :
  Calls Tryz.prog 58 #[netV n N, .slice (some ⟨g, 0, none⟩) 1 c] w fun e W => ∃ (b : Nat) (t : Nat → Bool), e = .returned (.slice (some ⟨b, 0, none⟩) n n) ∧ w.heap.size ≤ b ∧ W.rowIs b 4 n (fun v => .bool (t v)) ∧ (∀ v, t v = true ↔ Way l u v) ∧ Below w.heap.size w W := by
 have hmk := fun W => run_make_row' (P := Tryz.prog) 82 4 (.bool false) 1 Tryz.underlying82 (by kernel_rfl) rfl .i64 .i64 n (by omega) (by omega) W
 unfold netV;go_enter Tryz.func58, Tryz.ntmps58;go_upto_region 4 with fail;have hVN := vis_new 114 hN;have hV := hVN.1;have hb := hVN.2;unfold visV at hV hb;rw [show w.heap.size + 1 + 1 + 1 = w.heap.size + 3 from rfl, show w.heap.size + 1 + 1 = w.heap.size + 2 from rfl];clear hVN hmk hN;generalize World.alloc _ _ = wa at hV hb ⊢;obtain ⟨M, hM⟩ : ∃ M, M = w.heap.size := ⟨_, rfl⟩
 rw [← hM] at hV ⊢;have HM := hid hM;clear hM;go_upto_region 5 with fail;go_loopw [8, 15] (fun _ i wr => ((i = .int .i64 0 ∧ Vis M n N l (fun _ => false) wr) ∨ (i = .int .i64 1 ∧ ∃ t, Seen l [u] (fun _ => false) t ∧ Vis M n N l t wr)) ∧ Below w.heap.size w wr) (fun _ i _ => 1 - (intOf i).toNat)
 case atStart => exact ⟨.inl ⟨rfl, hV⟩, hb⟩
 case round =>
  clear hV hb;obtain ⟨⟨rfl, hV⟩ | ⟨rfl, t, ht, hV⟩, hb⟩ := hrel
  ·have hg0 := (hb.cell (p := ⟨g, 0, none⟩) hg).trans hc
   have v0 := hV.vb 0 _ rfl;unfold visV at v0;have HV := hid (reach1_any M n N l hl hr (blind n (fun _ => false) + 1) (fun _ => false) u wr (by omega) hu hV);have hzV := hV.size;clear hV;go_wp2_with fail;refine HV.out.mono ?_;rintro e W5 ⟨rfl, t5, k1, k2, k3⟩;have hb5 : Below w.heap.size w W5 := hb.trans ((k3.below (by omega)).mono (by have := HM.out; omega));go_wp2_with fail;go_round
   case rel => exact ⟨.inr ⟨rfl, t5, k1, k2⟩, hb5⟩
   case measure => simp [intOf]
  ·have s0 := hV.sb 0 _ rfl
   go_wp2_with fail;go_ret;exact ⟨M + 1, t, rfl, by have := HM.out; omega, hV.row, ht.reach, hb⟩
end
end Go.Proofs.YtkpjdanfpolimaaGreat
