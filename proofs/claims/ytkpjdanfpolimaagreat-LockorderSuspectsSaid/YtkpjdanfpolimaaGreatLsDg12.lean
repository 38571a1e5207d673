/- lockorder's Verify, walked: the whole. Conditions: the program lies in memory, it is valid; the certificate's ranks read as a list. · The reference's Great and the laws' fine, walked. Conditions: the program lies in memory. · The laws' example programs, built. No conditions. -/
import Derived.Test.YtkpjdanfpolimaaGreatLsDg9
import Derived.Test.YtkpjdanfpolimaaGreatLsDg0
set_option maxRecDepth 100000
set_option maxHeartbeats 6400000
section
namespace Go.Proofs.YtkpjdanfpolimaaGreat
open Go.RowKit Go.Shelf Go.Sort
def rkB (p : Prg) (cs : List Int) (i : Nat) : Bool := if lockB (p.obs.getD i default) then decide (0 < cs.getD i 0) else decide (cs.getD i 0 = 0)
def verB (p : Prg) (k : Int) (cs : List Int) : Bool := decide (k = 1) && decide (cs.length = p.obs.length) && (List.range p.obs.length).all (rkB p cs) && !(graphOf p).any (badE cs)
def verE (p : Prg) (k : Int) (cs : List Int) : Int := if verB p k cs then 0 else 28
theorem verify_any (p : Prg) (hfit : Fits p) (hv : prgOk p) (k : Int) (A : Option Addr) (c : Nat) (cs : List Int) (w : World) (h : Lies w w.heap.size p) (hcs : Rd w w.heap.size 1 A cs.length (i64s cs)) :
  Calls Tryz.prog 14 #[p.val, .agg #[.int .i64 k, .slice A cs.length c]] w (Ret (.int .i64 (verE p k cs)) w) := by
 have hW := wf_of hv
 have hob := hW.obs
 have hgl := graph_len hob
 have hge := graph_range hW
 have HGR := Lib.hid (fun (W : World) (hb : Below w.heap.size w W) => graph_any p hfit hv W (h.next hb))
 have HOB := Lib.hid (fun (W : World) (hb : Below w.heap.size w W) (k : Nat) (hk : k < p.obs.length) => (h.next hb).ob hk)
 have HNO : Hid (verB p k cs = false → verE p k cs = 28) := Lib.hid (fun e => by unfold verE; rw [e]; rfl)
 unfold Prg.val at HGR ⊢
 clear h hfit hv hW
 generalize p.obA = oa at HGR HOB ⊢
 go_enter Tryz.func14, Tryz.ntmps14
 go_upto_region 1 with fail
 have hT1 := two_new w #[.slice p.funA p.funs.length p.funC, .slice oa p.obs.length p.obC, .slice p.vrA p.vrs.length p.vrC] #[.int .i64 k, .slice A cs.length c] 26 29
 have hz1 : w.heap.size + 2 ≤ ((w.alloc (.cells #[.slice p.funA p.funs.length p.funC, .slice oa p.obs.length p.obC, .slice p.vrA p.vrs.length p.vrC] 26)).alloc (.cells #[.int .i64 k, .slice A cs.length c] 29)).heap.size := by simp
 have hB1 : CBox (w.heap.size + 1) k A c cs ((w.alloc (.cells #[.slice p.funA p.funs.length p.funC, .slice oa p.obs.length p.obC, .slice p.vrA p.vrs.length p.vrC] 26)).alloc (.cells #[.int .i64 k, .slice A cs.length c] 29)) := ⟨hT1.snd, Rd.more (hcs.below hT1.below) (by omega)⟩
 clear hcs
 generalize World.alloc _ _ = w1 at hT1 hz1 hB1 ⊢
 obtain ⟨x0, x1, x2⟩ := bx3 hT1.fst
 have HG1 := Lib.hid (HGR.out w1 hT1.below)
 go_wp2_with fail
 refine HG1.out.mono ?_
 rintro e w2 ⟨gv, rfl, hE, hb2⟩
 obtain ⟨Ag, Cg, rfl, hE2⟩ := own_eds hE
 have hT2 := hT1.next hb2
 have hB2 := hB1.below hb2 (by omega)
 have hz2 : w.heap.size + 2 ≤ w2.heap.size := Nat.le_trans hz1 hb2.size
 clear x0 x1 x2 hE HG1 hT1 hb2 HGR hB1 hz1
 obtain ⟨x0, x1, x2⟩ := bx3 hT2.fst
 have b0 := hB2.bx 0 _ rfl
 have b1 := hB2.bx 1 _ rfl
 by_cases hk1 : k = 1
 ·have e1 : (k != 1) = false := by simpa using hk1
  by_cases hlen : cs.length = p.obs.length
  ·have e2 : ((cs.length : Int) != (p.obs.length : Int)) = false := by rw [hlen]; simp
   have e3 : (cs.length != p.obs.length) = false := by rw [hlen]; simp
   have HOK : Hid ((List.range p.obs.length).all (rkB p cs) = true → (graphOf p).any (badE cs) = false → verE p k cs = 0) := Lib.hid (fun q1 q2 => by unfold verE verB; rw [q1, q2, decide_eq_true hk1, decide_eq_true hlen]; rfl)
   have HN1 : Hid ((List.range p.obs.length).all (rkB p cs) = false → verE p k cs = 28) := Lib.hid (fun q1 => HNO.out (by unfold verB; rw [q1]; simp))
   have HN2 : Hid ((graphOf p).any (badE cs) = true → verE p k cs = 28) := Lib.hid (fun q1 => HNO.out (by unfold verB; rw [q1]; simp))
   have HLEN := Lib.hid hlen
   have hlz : (cs.length : Int) = (p.obs.length : Int) := by rw [hlen]
   clear hk1 hlen HNO
   have HLZ := Lib.hid hlz
   clear hlz
   have hB0 := hB2
   go_upto_region 7 with fail
   clear x0 x1 x2 b0 b1 hB2
   go_loopw [7, 8, 32] (fun _ _ i wr => ∃ j : Nat, i = .int .i64 (j : Nat) ∧ j ≤ p.obs.length ∧ (List.range j).all (rkB p cs) = true ∧ Below w2.heap.size w2 wr) (fun _ _ i _ => p.obs.length - (intOf i).toNat)
   case atStart => exact ⟨0, rfl, by omega, rfl, Below.refl _ _⟩
   case round =>
    obtain ⟨j, rfl, hj, hall, hb⟩ := hrel
    have HALL := Lib.hid hall
    clear hall
    have hj0 : (0 : Int) ≤ (j : Int) := by omega
    have hwr : IntKind.i64.wrap ((j : Int) + 1) = (j : Int) + 1 := by rw [IntKind.wrap_i64]; omega
    have hzz := hb.size
    by_cases hlt : j < p.obs.length
    ·have hd1 : decide ((j : Int) < (p.obs.length : Int)) = true := decide_eq_true (by omega)
     have hd2 : decide (j < p.obs.length) = true := decide_eq_true hlt
     have hjl : (j : Int) < (p.obs.length : Int) := by omega
     have hjc : (j : Int) < (cs.length : Int) := by have := HLZ.out; omega
     obtain ⟨ob, oo, rfl, -, q0, q1, q2, q3⟩ := HOB.out wr (hT2.below.trans (hb.mono hT2.below.size)) j hlt
     obtain ⟨x0, x1, x2⟩ := bx3 (hT2.next hb).fst
     have HLT := Lib.hid hlt
     obtain ⟨rb, roff, rfl, rj⟩ := (hB0.below hb (by omega)).rank (i := j) (by have := HLEN.out; omega)
     have HR0 := Lib.hid (show rkB p cs j = if lockB p.obs[j] then decide (0 < cs[j]'(by have := HLEN.out; omega)) else decide (cs[j]'(by have := HLEN.out; omega) = 0) by
      unfold rkB
      rw [List.getD_eq_getElem?_getD, List.getElem?_eq_getElem hlt, List.getD_eq_getElem?_getD, List.getElem?_eq_getElem (by have := HLEN.out; omega)]; rfl)
     have HLK0 := Lib.hid (fun W => lock_any p.obs[j] W)
     unfold Ob.cells at HLK0
     generalize p.obs[j] = oj at q0 q1 q2 q3 HR0 HLK0
     generalize cs[j]'(by have := HLEN.out; omega) = z at rj HR0
     clear hlt
     go_upto_region 9 with fail
     have hX := bx_new wr #[.string oj.name, .int .i64 oj.kind, .int .i64 oj.size, .int .i64 oj.other] 65
     have hba := hb.trans (below_alloc2 hzz (.cells #[.string oj.name, .int .i64 oj.kind, .int .i64 oj.size, .int .i64 oj.other] 65))
     have hB : CBox (w.heap.size + 1) k (some ⟨rb, roff, none⟩) c cs (wr.alloc (.cells #[.string oj.name, .int .i64 oj.kind, .int .i64 oj.size, .int .i64 oj.other] 65)) := hB0.below hba (by omega)
     have r5 := ((below_alloc wr (.cells #[.string oj.name, .int .i64 oj.kind, .int .i64 oj.size, .int .i64 oj.other] 65)).cell (block_lt_of_cell rj)).trans rj
     clear x0 x1 x2 q0 q1 q2 q3 rj hb
     generalize wr.alloc _ = wa at hX hba hB r5 ⊢
     have y0 := fun d os => cell_regrown (w := wa) (hX 0 _ rfl) d os
     have y1 := fun d os => cell_regrown (w := wa) (hX 1 _ rfl) d os
     have y2 := fun d os => cell_regrown (w := wa) (hX 2 _ rfl) d os
     have y3 := fun d os => cell_regrown (w := wa) (hX 3 _ rfl) d os
     have y4 := fun d os => cell_regrown (w := wa) (hB.bx 1 _ rfl) d os
     have y5 := fun d os => cell_regrown (w := wa) r5 d os
     have y6 := y5
     have y7 := y4
     clear r5
     have HLK := Lib.hid (fun d os => HLK0.out (grow (redrawn wa d) os))
     clear HLK0
     cases hlb : lockB oj with
     | true =>
      rw [hlb] at HR0 HLK
      clear hlb
      by_cases hz0 : 0 < z
      ·have c1 : decide (0 < z) = true := decide_eq_true hz0
       have HRK : Hid (rkB p cs j = true) := Lib.hid (by rw [HR0.out]; simpa using hz0)
       clear hz0
       refine wp_region_quiet_below (by kernel_rfl) (by kernel_rfl) ?_
       repeat (go_big_quiet_step (first | exact Calls.regrown_of (HLK.out _ _)))
       refine wpQuiet_nil ?_
       rintro _ ⟨pq, rfl⟩
       have hb5 := hba.trans ((below_regrown wa pq.d pq.os).mono hba.size)
       clear y0 y1 y2 y3 y4 y5 y6 y7 hB hX hba HLK
       generalize grow (redrawn wa pq.d) pq.os = w5 at hb5 ⊢
       go_wp2_with fail
       go_round
       case rel => exact ⟨j + 1, rfl, by omega, by rw [List.range_succ, List.all_append, HALL.out]; simp [HRK.out], hb5⟩
       case measure => show p.obs.length - (intOf (Value.int IntKind.i64 ((j : Int) + 1))).toNat < p.obs.length - (intOf (Value.int IntKind.i64 (j : Int))).toNat; simp only [intOf]; omega
      ·have c1 : decide (0 < z) = false := decide_eq_false hz0
       have HRK : Hid (rkB p cs j = false) := Lib.hid (by rw [HR0.out]; simpa using hz0)
       clear hz0
       have HVE := Lib.hid (HN1.out (List.all_eq_false.2 ⟨j, List.mem_range.2 HLT.out, by rw [HRK.out]; decide⟩))
       refine wp_region_quiet_below (by kernel_rfl) (by kernel_rfl) ?_
       repeat (go_big_quiet_step (first | exact Calls.regrown_of (HLK.out _ _)))
       refine wpQuiet_nil ?_
       rintro _ ⟨pq, rfl⟩
       have hb5 := hba.trans ((below_regrown wa pq.d pq.os).mono hba.size)
       clear y0 y1 y2 y3 y4 y5 y6 y7 hB hX hba HLK
       generalize grow (redrawn wa pq.d) pq.os = w5 at hb5 ⊢
       go_wp2_with fail
       go_ret
       exact ⟨by rw [HVE.out]; rfl, hT2.below.trans (hb5.mono hT2.below.size)⟩
     | false =>
      rw [hlb] at HR0 HLK
      clear hlb
      by_cases hz0 : 0 < z
      ·have c1 : decide (0 < z) = true := decide_eq_true hz0
       have HRK : Hid (rkB p cs j = false) := Lib.hid (by rw [HR0.out]; simp; omega)
       clear hz0
       have HVE := Lib.hid (HN1.out (List.all_eq_false.2 ⟨j, List.mem_range.2 HLT.out, by rw [HRK.out]; decide⟩))
       refine wp_region_quiet_below (by kernel_rfl) (by kernel_rfl) ?_
       repeat (go_big_quiet_step (first | exact Calls.regrown_of (HLK.out _ _)))
       refine wpQuiet_nil ?_
       rintro _ ⟨pq, rfl⟩
       have hb5 := hba.trans ((below_regrown wa pq.d pq.os).mono hba.size)
       clear y0 y1 y2 y3 y4 y5 y6 y7 hB hX hba HLK
       generalize grow (redrawn wa pq.d) pq.os = w5 at hb5 ⊢
       go_wp2_with fail
       go_ret
       exact ⟨by rw [HVE.out]; rfl, hT2.below.trans (hb5.mono hT2.below.size)⟩
      ·have c1 : decide (0 < z) = false := decide_eq_false hz0
       by_cases hz1 : z = 0
       ·have c2 : (z != 0) = false := by simpa using hz1
        have HRK : Hid (rkB p cs j = true) := Lib.hid (by rw [HR0.out]; simp; omega)
        clear hz0 hz1
        refine wp_region_quiet_below (by kernel_rfl) (by kernel_rfl) ?_
        repeat (go_big_quiet_step (first | exact Calls.regrown_of (HLK.out _ _)))
        refine wpQuiet_nil ?_
        rintro _ ⟨pq, rfl⟩
        have hb5 := hba.trans ((below_regrown wa pq.d pq.os).mono hba.size)
        clear y0 y1 y2 y3 y4 y5 y6 y7 hB hX hba HLK
        generalize grow (redrawn wa pq.d) pq.os = w5 at hb5 ⊢
        go_wp2_with fail
        go_round
        case rel => exact ⟨j + 1, rfl, by omega, by rw [List.range_succ, List.all_append, HALL.out]; simp [HRK.out], hb5⟩
        case measure => show p.obs.length - (intOf (Value.int IntKind.i64 ((j : Int) + 1))).toNat < p.obs.length - (intOf (Value.int IntKind.i64 (j : Int))).toNat; simp only [intOf]; omega
       ·have c2 : (z != 0) = true := by simpa using hz1
        have HRK : Hid (rkB p cs j = false) := Lib.hid (by rw [HR0.out]; simp; omega)
        clear hz0 hz1
        have HVE := Lib.hid (HN1.out (List.all_eq_false.2 ⟨j, List.mem_range.2 HLT.out, by rw [HRK.out]; decide⟩))
        refine wp_region_quiet_below (by kernel_rfl) (by kernel_rfl) ?_
        repeat (go_big_quiet_step (first | exact Calls.regrown_of (HLK.out _ _)))
        refine wpQuiet_nil ?_
        rintro _ ⟨pq, rfl⟩
        have hb5 := hba.trans ((below_regrown wa pq.d pq.os).mono hba.size)
        clear y0 y1 y2 y3 y4 y5 y6 y7 hB hX hba HLK
        generalize grow (redrawn wa pq.d) pq.os = w5 at hb5 ⊢
        go_wp2_with fail
        go_ret
        exact ⟨by rw [HVE.out]; rfl, hT2.below.trans (hb5.mono hT2.below.size)⟩
    ·have hd1 : decide ((j : Int) < (p.obs.length : Int)) = false := decide_eq_false (by omega)
     have hd2 : decide (j < p.obs.length) = false := decide_eq_false hlt
     have hjn : j = p.obs.length := by omega
     rw [hjn] at HALL
     have HV := Lib.hid (verContains_any (w.heap.size + 1) k A c cs Ag Cg (graphOf p) (by omega) (by rw [HLEN.out]; exact hge) wr (hB0.below hb (by omega)) (by omega) (Rd.more (hE2.below hb) hb.size))
     unfold verVal at HV
     go_wp2_with fail
     refine HV.out.mono ?_
     rintro e w5 ⟨rfl, hb5⟩
     have hb6 := hT2.below.trans ((hb.trans (hb5.mono hzz)).mono hT2.below.size)
     cases hq : (graphOf p).any (badE cs) with
     | true =>
      have HVE := Lib.hid (HN2.out hq)
      clear hq
      go_wp2_with fail
      go_ret
      exact ⟨by rw [HVE.out]; rfl, hb6⟩
     | false =>
      have HVE := Lib.hid (HOK.out HALL.out hq)
      clear hq
      go_wp2_with fail
      go_ret
      exact ⟨by rw [HVE.out]; rfl, hb6⟩
  ·have e2 : ((cs.length : Int) != (p.obs.length : Int)) = true := by simp; omega
   have e3 : (cs.length != p.obs.length) = true := by simpa using hlen
   have HVE := Lib.hid (HNO.out (by unfold verB; rw [decide_eq_false hlen]; simp))
   clear hk1 hlen
   go_wp2_with fail
   go_ret
   exact ⟨by rw [HVE.out]; rfl, hT2.below⟩
 ·have e1 : (k != 1) = true := by simpa using hk1
  have HVE := Lib.hid (HNO.out (by unfold verB; rw [decide_eq_false hk1]; rfl))
  clear hk1
  go_wp2_with fail
  go_ret
  exact ⟨by rw [HVE.out]; rfl, hT2.below⟩
end Go.Proofs.YtkpjdanfpolimaaGreat
end
section
namespace Go.Proofs.YtkpjdanfpolimaaGreat
open Go.RowKit Go.Shelf Go.Sort
/-- A truth value comes back; nothing that lay in memory has changed. -/
def RetB (w : World) : Ending → World → Prop := fun e W => ∃ b : Bool, e = .returned (.bool b) ∧ Below w.heap.size w W
theorem greatInstr_any (i : Ins) (w : World) : Calls Tryz.prog 30 #[.agg i.cells.toArray] w (RetB w) := by
 have hb := below_alloc w (.cells #[.int .i64 i.op, .int .i64 i.a, .int .i64 i.b, .int .i64 i.c, .slice i.argA i.args.length i.argC] 63)
 unfold Ins.cells
 go_enter Tryz.func30, Tryz.ntmps30
 go_wp2_with fail
 go_ret
 exact ⟨_, rfl, hb⟩
theorem great_any (p : Prg) (w : World) (h : Lies w w.heap.size p) : Calls Tryz.prog 7 #[p.val] w (RetB w) := by
 have hn1 := h.funN
 have hn2 := h.obN
 have hn3 := h.vrN
 unfold maxLen at hn1 hn2 hn3
 have HFN := Lib.hid (fun (W : World) (hb : Below w.heap.size w W) (k : Nat) (hk : k < p.funs.length) => (h.next hb).fn hk)
 have HCN := Lib.hid (fun (k : Nat) (hk : k < p.funs.length) => h.codeN _ (List.getElem_mem hk))
 have HIN := Lib.hid (fun (W : World) (hb : Below w.heap.size w W) (f : Fn) (hf : f ∈ p.funs) (k : Nat) (hk : k < f.code.length) => (h.next hb).ins hf hk)
 have HOB := Lib.hid (fun (W : World) (hb : Below w.heap.size w W) (k : Nat) (hk : k < p.obs.length) => (h.next hb).ob hk)
 have HVR := Lib.hid (fun (W : World) (hb : Below w.heap.size w W) (k : Nat) (hk : k < p.vrs.length) => (h.next hb).vr hk)
 unfold Prg.val
 clear h
 generalize p.funA = fa at HFN ⊢
 generalize p.obA = oa at HOB ⊢
 generalize p.vrA = va at HVR ⊢
 go_enter Tryz.func7, Tryz.ntmps7
 go_upto_region 1 with fail
 have hT := one_new w #[.slice fa p.funs.length p.funC, .slice oa p.obs.length p.obC, .slice va p.vrs.length p.vrC] 26
 generalize w.alloc _ = w1 at hT ⊢
 obtain ⟨x0, x1, x2⟩ := bx3 hT.fst
 cases hc1 : decide ((34 : Int) < (p.funs.length : Int)) with
 | true =>
  go_wp2_with fail
  go_ret
  exact ⟨_, rfl, hT.below⟩
 | false =>
  cases hc2 : decide ((18 : Int) < (p.obs.length : Int)) with
  | true =>
   go_wp2_with fail
   go_ret
   exact ⟨_, rfl, hT.below⟩
  | false =>
   cases hc3 : decide ((18 : Int) < (p.vrs.length : Int)) with
   | true =>
    go_wp2_with fail
    go_ret
    exact ⟨_, rfl, hT.below⟩
   | false =>
    have hl1 : p.funs.length ≤ 34 := by have := of_decide_eq_false hc1; omega
    have hl2 : p.obs.length ≤ 18 := by have := of_decide_eq_false hc2; omega
    have hl3 : p.vrs.length ≤ 18 := by have := of_decide_eq_false hc3; omega
    go_upto_region 5 with fail
    clear x0 x1 x2 hc1 hc2 hc3
    go_loopw [3, 4] (fun nn i wr => ∃ (m : Int) (j : Nat), nn = .int .i64 m ∧ i = .int .i64 (j : Nat) ∧ j ≤ p.funs.length ∧ One w wr [.slice fa p.funs.length p.funC, .slice oa p.obs.length p.obC, .slice va p.vrs.length p.vrC]) (fun _ i _ => p.funs.length - (intOf i).toNat)
    case atStart => exact ⟨0, 0, rfl, rfl, by omega, hT⟩
    case round =>
     clear hT
     obtain ⟨m, j, rfl, rfl, hj, hT⟩ := hrel
     obtain ⟨x0, x1, x2⟩ := bx3 hT.fst
     have hj0 : (0 : Int) ≤ (j : Int) := by omega
     have hwr : IntKind.i64.wrap ((j : Int) + 1) = (j : Int) + 1 := by rw [IntKind.wrap_i64]; omega
     by_cases hlt : j < p.funs.length
     ·have hd1 : decide ((j : Int) < (p.funs.length : Int)) = true := decide_eq_true (by omega)
      have hd2 : decide (j < p.funs.length) = true := decide_eq_true hlt
      have hjl : (j : Int) < (p.funs.length : Int) := by omega
      obtain ⟨fb, fo, rfl, -, q0, q1, q2, q3, q4, q5⟩ := HFN.out wr hT.below j hlt
      obtain ⟨hcl, hnl, -⟩ := HCN.out j hlt
      have HMF := Lib.hid (List.getElem_mem hlt)
      have HF5 := Lib.hid (fun (W : World) (hb : Below w.heap.size w W) => (show W.cell? ⟨fb, fo + j * 6 + 5, none⟩ = some (.slice p.funs[j].codeA p.funs[j].code.length p.funs[j].codeC) from by
       obtain ⟨b', o', e, -, -, -, -, -, -, q⟩ := HFN.out W hb j hlt
       injection e with e
       injection e with e1 e2
       subst e1; subst e2
       exact q))
      generalize p.funs[j] = f at q0 q1 q2 q3 q4 q5 hcl hnl HMF HF5
      unfold maxLen at hcl hnl
      obtain ⟨z, hz⟩ : ∃ z, IntKind.i64.wrap (m + (f.code.length : Int)) = z := ⟨_, rfl⟩
      cases hc4 : decide ((250 : Int) < z) with
      | true =>
       go_wp2_with fail
       go_ret
       exact ⟨_, rfl, hT.below⟩
      | false =>
       cases hc5 : decide ((40 : Int) < (f.name.size : Int)) with
       | true =>
        go_wp2_with fail
        go_ret
        exact ⟨_, rfl, hT.below⟩
       | false =>
        have HII := Lib.hid (fun (W : World) (hb : Below w.heap.size w W) (k : Nat) (hk : k < f.code.length) => HIN.out W hb f HMF.out k hk)
        clear HMF
        generalize f.codeA = ca at q5 HII HF5
        go_upto_region 11 with fail
        clear x0 x1 x2 q0 q1 q2 q3 q4 q5 hz hc4 hc5
        go_loopw [5] (fun i wr => ∃ (k : Nat), i = .int .i64 (k : Nat) ∧ k ≤ f.code.length ∧ One w wr [.slice (some ⟨fb, fo, none⟩) p.funs.length p.funC, .slice oa p.obs.length p.obC, .slice va p.vrs.length p.vrC]) (fun i _ => f.code.length - (intOf i).toNat)
        case atStart => exact ⟨0, rfl, by omega, hT⟩
        case round =>
         clear hT
         obtain ⟨k, rfl, hk, hT⟩ := hrel
         obtain ⟨x0, x1, x2⟩ := bx3 hT.fst
         have q5 := HF5.out _ hT.below
         have hk0 : (0 : Int) ≤ (k : Int) := by omega
         by_cases hkl : k < f.code.length
         ·have hwk : IntKind.i64.wrap ((k : Int) + 1) = (k : Int) + 1 := by rw [IntKind.wrap_i64]; omega
          have hd3 : decide ((k : Int) < (f.code.length : Int)) = true := decide_eq_true (by omega)
          have hd4 : decide (k < f.code.length) = true := decide_eq_true hkl
          have hki : (k : Int) < (f.code.length : Int) := by omega
          obtain ⟨ib, io, rfl, -, i0, i1, i2, i3, i4⟩ := HII.out _ hT.below k hkl
          have HG := Lib.hid (greatInstr_any f.code[k])
          unfold Ins.cells at HG
          generalize f.code[k] = ik at i0 i1 i2 i3 i4 HG
          have HG3 := Lib.hid (HG.out wr)
          clear HG
          go_wp2_with fail
          refine HG3.out.mono ?_
          rintro e w5 ⟨b5, rfl, hb5⟩
          have hT5 := hT.next hb5
          clear x0 x1 x2 q5 i0 i1 i2 i3 i4 hT HG3
          cases b5 with
          | true =>
           go_wp2_with fail
           go_ret
           exact ⟨_, rfl, hT5.below⟩
          | false =>
           go_wp2_with fail
           go_round
           case rel => exact ⟨k + 1, rfl, by omega, hT5⟩
           case measure => show f.code.length - (intOf (Value.int IntKind.i64 ((k : Int) + 1))).toNat < f.code.length - (intOf (Value.int IntKind.i64 (k : Int))).toNat; simp only [intOf]; omega
         ·have hd3 : decide ((k : Int) < (f.code.length : Int)) = false := decide_eq_false (by omega)
          have hd4 : decide (k < f.code.length) = false := decide_eq_false hkl
          go_wp2_with fail
          go_round
          case rel => exact ⟨z, j + 1, rfl, rfl, by omega, hT⟩
          case measure => show p.funs.length - (intOf (Value.int IntKind.i64 ((j : Int) + 1))).toNat < p.funs.length - (intOf (Value.int IntKind.i64 (j : Int))).toNat; simp only [intOf]; omega
     ·have hd1 : decide ((j : Int) < (p.funs.length : Int)) = false := decide_eq_false (by omega)
      have hd2 : decide (j < p.funs.length) = false := decide_eq_false hlt
      go_upto_region 16 with fail
      clear x0 x1 x2
      go_loopw [6] (fun i wr => ∃ (q : Nat), i = .int .i64 (q : Nat) ∧ q ≤ p.obs.length ∧ One w wr [.slice fa p.funs.length p.funC, .slice oa p.obs.length p.obC, .slice va p.vrs.length p.vrC]) (fun i _ => p.obs.length - (intOf i).toNat)
      case atStart => exact ⟨0, rfl, by omega, hT⟩
      case round =>
       clear hT
       obtain ⟨q, rfl, hq, hT⟩ := hrel
       obtain ⟨x0, x1, x2⟩ := bx3 hT.fst
       have hq0 : (0 : Int) ≤ (q : Int) := by omega
       have hwq : IntKind.i64.wrap ((q : Int) + 1) = (q : Int) + 1 := by rw [IntKind.wrap_i64]; omega
       by_cases hql : q < p.obs.length
       ·have hd3 : decide ((q : Int) < (p.obs.length : Int)) = true := decide_eq_true (by omega)
        have hd4 : decide (q < p.obs.length) = true := decide_eq_true hql
        have hqi : (q : Int) < (p.obs.length : Int) := by omega
        obtain ⟨ob, oo, rfl, -, q0, q1, q2, q3⟩ := HOB.out wr hT.below q hql
        generalize p.obs[q] = o at q0 q1 q2 q3
        cases hc5 : decide ((40 : Int) < (o.name.size : Int)) with
        | true =>
         go_wp2_with fail
         go_ret
         exact ⟨_, rfl, hT.below⟩
        | false =>
         go_wp2_with fail
         go_round
         case rel => exact ⟨q + 1, rfl, by omega, hT⟩
         case measure => show p.obs.length - (intOf (Value.int IntKind.i64 ((q : Int) + 1))).toNat < p.obs.length - (intOf (Value.int IntKind.i64 (q : Int))).toNat; simp only [intOf]; omega
       ·have hd3 : decide ((q : Int) < (p.obs.length : Int)) = false := decide_eq_false (by omega)
        have hd4 : decide (q < p.obs.length) = false := decide_eq_false hql
        go_upto_region 21 with fail
        clear x0 x1 x2
        go_loopw [7] (fun i wr => ∃ (q : Nat), i = .int .i64 (q : Nat) ∧ q ≤ p.vrs.length ∧ One w wr [.slice fa p.funs.length p.funC, .slice oa p.obs.length p.obC, .slice va p.vrs.length p.vrC]) (fun i _ => p.vrs.length - (intOf i).toNat)
        case atStart => exact ⟨0, rfl, by omega, hT⟩
        case round =>
         clear hT
         obtain ⟨q, rfl, hq, hT⟩ := hrel
         obtain ⟨x0, x1, x2⟩ := bx3 hT.fst
         have hq0 : (0 : Int) ≤ (q : Int) := by omega
         have hwq : IntKind.i64.wrap ((q : Int) + 1) = (q : Int) + 1 := by rw [IntKind.wrap_i64]; omega
         by_cases hql : q < p.vrs.length
         ·have hd5 : decide ((q : Int) < (p.vrs.length : Int)) = true := decide_eq_true (by omega)
          have hd6 : decide (q < p.vrs.length) = true := decide_eq_true hql
          have hqi : (q : Int) < (p.vrs.length : Int) := by omega
          obtain ⟨ob, oo, rfl, -, q0, q1, q2⟩ := HVR.out wr hT.below q hql
          generalize p.vrs[q] = o at q0 q1 q2
          cases hc5 : decide ((40 : Int) < (o.name.size : Int)) with
          | true =>
           go_wp2_with fail
           go_ret
           exact ⟨_, rfl, hT.below⟩
          | false =>
           go_wp2_with fail
           go_round
           case rel => exact ⟨q + 1, rfl, by omega, hT⟩
           case measure => show p.vrs.length - (intOf (Value.int IntKind.i64 ((q : Int) + 1))).toNat < p.vrs.length - (intOf (Value.int IntKind.i64 (q : Int))).toNat; simp only [intOf]; omega
         ·have hd5 : decide ((q : Int) < (p.vrs.length : Int)) = false := decide_eq_false (by omega)
          have hd6 : decide (q < p.vrs.length) = false := decide_eq_false hql
          go_wp2_with fail
          go_ret
          exact ⟨_, rfl, hT.below⟩
/-- What fine tells: a program that is fine is valid. -/
def FineR (p : Prg) (w : World) : Ending → World → Prop := fun e W => ∃ b : Bool, e = .returned (.bool b) ∧ (b = true → prgOk p) ∧ Below w.heap.size w W
theorem fine_any (p : Prg) (w : World) (h : Lies w w.heap.size p) : Calls Tryz.prog 17 #[p.val] w (FineR p w) := by
 have HGT := Lib.hid (fun (W : World) (hb : Below w.heap.size w W) => great_any p W (h.next hb))
 have HCK := Lib.hid (fun (W : World) (hb : Below w.heap.size w W) => refCheck_any p W (h.next hb))
 clear h
 unfold Prg.val at HGT HCK ⊢
 go_enter Tryz.func17, Tryz.ntmps17
 go_upto_region 1 with fail
 have hT := one_new w #[.slice p.funA p.funs.length p.funC, .slice p.obA p.obs.length p.obC, .slice p.vrA p.vrs.length p.vrC] 26
 generalize w.alloc _ = w1 at hT ⊢
 obtain ⟨x0, x1, x2⟩ := bx3 hT.fst
 have HG1 := Lib.hid (HGT.out w1 hT.below)
 clear HGT
 go_wp2_with fail
 refine HG1.out.mono ?_
 rintro e w2 ⟨b, rfl, hb2⟩
 have hT2 := hT.next hb2
 clear x0 x1 x2 hT hb2 HG1
 cases b with
 | true =>
  go_wp2_with fail
  go_ret
  exact ⟨_, rfl, fun e => (by cases e), hT2.below⟩
 | false =>
  obtain ⟨x0, x1, x2⟩ := bx3 hT2.fst
  have HC1 := Lib.hid (HCK.out w2 hT2.below)
  clear HCK
  go_wp2_with fail
  refine HC1.out.mono ?_
  rintro e w3 ⟨n, rfl, hn, hb3⟩
  have hb4 := hT2.below.trans (hb3.mono hT2.below.size)
  have HN := Lib.hid hn
  clear hn x0 x1 x2 hT2 hb3
  go_wp2_with fail
  go_ret
  exact ⟨_, rfl, fun e => HN.out.1 (by simpa using e), hb4⟩
end Go.Proofs.YtkpjdanfpolimaaGreat
end
section
namespace Go.Proofs.YtkpjdanfpolimaaGreat
open Go.RowKit Go.Shelf
theorem rd_block {W : World} {b s n : Nat} {c : Array Value} {t : TypeId} {fr : Nat × Nat} {xs : List Value} (h : W.heap[b]? = some (.cells c t fr)) (hx : c.toList = xs) (hn : xs.length = n * s) : Rd W W.heap.size s (some ⟨b, 0, none⟩) n xs :=
 ⟨hn, .inr ⟨b, 0, rfl, (Array.getElem?_eq_some_iff.1 h).1, fun j u hu => by
  subst hx
  simp only [World.cell?, h, Nat.zero_add]
  simpa using hu⟩⟩
theorem exLock_any (a b : Int) (w : World) : Calls Tryz.prog 56 #[.int .i64 a, .int .i64 b] w fun e W => e = .returned (.slice (some ⟨w.heap.size, 0, none⟩) 4 4) ∧ W = w.alloc (.cells ((exLock a b).flatMap Ins.cells).toArray 63) := by
 go_enter Tryz.func56, Tryz.ntmps56
 go_wp2_with fail
 go_ret
 exact ⟨rfl, rfl⟩
theorem example_any (a b : Int) (w : World) : Calls Tryz.prog 31 #[.int .i64 a, .int .i64 b] w fun e W => ∃ M A B F O, e = .returned (exP M A B F O a b).val ∧ Lies W W.heap.size (exP M A B F O a b) ∧ Below w.heap.size w W := by
 go_enter Tryz.func31, Tryz.ntmps31
 go_upto_region 3 with fail
 have hR := (heap_alloc_old (w.alloc (.cells #[.slice none 0 0, .slice none 0 0, .slice none 0 0] 26)) (.cells (exMain.flatMap Ins.cells).toArray 63) (by simp)).trans (heap_alloc_new w (.cells #[.slice none 0 0, .slice none 0 0, .slice none 0 0] 26))
 have hM := heap_alloc_new (w.alloc (.cells #[.slice none 0 0, .slice none 0 0, .slice none 0 0] 26)) (.cells (exMain.flatMap Ins.cells).toArray 63)
 have hb : Below w.heap.size w ((w.alloc (.cells #[.slice none 0 0, .slice none 0 0, .slice none 0 0] 26)).alloc (.cells (exMain.flatMap Ins.cells).toArray 63)) := (below_alloc _ _).trans (below_alloc2 (by simp) _)
 have hz : ((w.alloc (.cells #[.slice none 0 0, .slice none 0 0, .slice none 0 0] 26)).alloc (.cells (exMain.flatMap Ins.cells).toArray 63)).heap.size = w.heap.size + 2 := by simp
 rw [World.size_alloc] at hM
 change Code.wp _ _ _ _ ((w.alloc (.cells #[.slice none 0 0, .slice none 0 0, .slice none 0 0] 26)).alloc (.cells (exMain.flatMap Ins.cells).toArray 63))
 generalize (w.alloc (.cells #[.slice none 0 0, .slice none 0 0, .slice none 0 0] 26)).alloc (.cells (exMain.flatMap Ins.cells).toArray 63) = w2 at hR hM hb hz ⊢
 go_wp2_with fail
 refine (exLock_any 0 1 w2).mono ?_
 rintro e w3 ⟨rfl, rfl⟩
 have hA := heap_alloc_new w2 (.cells ((exLock 0 1).flatMap Ins.cells).toArray 63)
 have hbA := below_alloc w2 (.cells ((exLock 0 1).flatMap Ins.cells).toArray 63)
 have hR3 := (hbA.block _ (by omega)).trans hR
 have hM3 := (hbA.block _ (by omega)).trans hM
 have hb3 := hb.trans (hbA.mono hb.size)
 have hz3 : (w2.alloc (.cells ((exLock 0 1).flatMap Ins.cells).toArray 63)).heap.size = w.heap.size + 3 := by simp [hz]
 rw [hz] at hA ⊢
 clear hR hM hb hbA hz
 generalize w2.alloc _ = w3 at hA hR3 hM3 hb3 hz3 ⊢
 go_wp2_with fail
 refine (exLock_any a b w3).mono ?_
 rintro e w4 ⟨rfl, rfl⟩
 have hB := heap_alloc_new w3 (.cells ((exLock a b).flatMap Ins.cells).toArray 63)
 have hbB := below_alloc w3 (.cells ((exLock a b).flatMap Ins.cells).toArray 63)
 have hR4 := (hbB.block _ (by omega)).trans hR3
 have hM4 := (hbB.block _ (by omega)).trans hM3
 have hA4 := (hbB.block _ (by omega)).trans hA
 have hb4 := hb3.trans (hbB.mono hb3.size)
 have hz4 : (w3.alloc (.cells ((exLock a b).flatMap Ins.cells).toArray 63)).heap.size = w.heap.size + 4 := by simp [hz3]
 rw [hz3] at hB ⊢
 clear hA hR3 hM3 hb3 hbB hz3
 generalize w3.alloc _ = w4 at hB hA4 hR4 hM4 hb4 hz4 ⊢
 have r0 : w4.cell? ⟨w.heap.size, 0, none⟩ = some (.slice none 0 0) := by simp [World.cell?, hR4]
 have r1 : w4.cell? ⟨w.heap.size, 1, none⟩ = some (.slice none 0 0) := by simp [World.cell?, hR4]
 have r2 : w4.cell? ⟨w.heap.size, 2, none⟩ = some (.slice none 0 0) := by simp [World.cell?, hR4]
 have f0 : w4.frozen? ⟨w.heap.size, 0, none⟩ = false := by simp [World.frozen?, hR4]
 have f1 : w4.frozen? ⟨w.heap.size, 1, none⟩ = false := by simp [World.frozen?, hR4]
 have f2 : w4.frozen? ⟨w.heap.size, 2, none⟩ = false := by simp [World.frozen?, hR4]
 go_wp2_with fail
 obtain ⟨w5, hw5⟩ : ∃ w5, w5 = ((w4.setCell ⟨w.heap.size, 0, none⟩ (.slice (some ⟨w.heap.size + 4, 0, none⟩) 3 3)).setCell ⟨w.heap.size, 1, none⟩ (.slice (some ⟨w.heap.size + 4 + 1, 0, none⟩) 2 2)).setCell ⟨w.heap.size, 2, none⟩ (.slice none 0 0) := ⟨_, rfl⟩
 have hz5 : w5.heap.size = w.heap.size + 4 := by rw [hw5]; simpa using hz4
 have hR5 : w5.heap[w.heap.size]? = some (.cells #[.slice (some ⟨w.heap.size + 4, 0, none⟩) 3 3, .slice (some ⟨w.heap.size + 4 + 1, 0, none⟩) 2 2, .slice none 0 0] 26 (0, 0)) := by
  rw [hw5]; simp [World.setCell, Array.getElem?_modify, hR4]
 have hk5 : ∀ k, k ≠ w.heap.size → w5.heap[k]? = w4.heap[k]? := fun k hk => by
  rw [hw5]
  exact ((heap_setCell_other _ _ _ _ hk).trans (heap_setCell_other _ _ _ _ hk)).trans (heap_setCell_other _ _ _ _ hk)
 have hb5 : Below w.heap.size w w5 := by
  rw [hw5]
  exact ((hb4.setCell (p := ⟨w.heap.size, 0, none⟩) (Nat.le_refl _) _).setCell (p := ⟨w.heap.size, 1, none⟩) (Nat.le_refl _) _).setCell (p := ⟨w.heap.size, 2, none⟩) (Nat.le_refl _) _
 rw [← hw5]
 have hM5 := (hk5 _ (by omega)).trans hM4
 have hA5 := (hk5 _ (by omega)).trans hA4
 have hB5 := (hk5 _ (by omega)).trans hB
 clear r0 r1 r2 f0 f1 f2 hw5 hk5 hM4 hA4 hB hR4 hb4 hz4
 generalize w.heap.size = R at *
 have hF := heap_alloc_new w5 (.cells ((exP (R + 1) (R + 2) (R + 3) (R + 4) (R + 4 + 1) a b).funs.flatMap Fn.cells).toArray 60)
 have hbF := below_alloc w5 (.cells ((exP (R + 1) (R + 2) (R + 3) (R + 4) (R + 4 + 1) a b).funs.flatMap Fn.cells).toArray 60)
 have hzF : (w5.alloc (.cells ((exP (R + 1) (R + 2) (R + 3) (R + 4) (R + 4 + 1) a b).funs.flatMap Fn.cells).toArray 60)).heap.size = R + 4 + 1 := by simp [hz5]
 rw [hz5] at hF
 change bodyPost _ _ _ _ _ ((w5.alloc (.cells ((exP (R + 1) (R + 2) (R + 3) (R + 4) (R + 4 + 1) a b).funs.flatMap Fn.cells).toArray 60)).alloc (.cells ((exP (R + 1) (R + 2) (R + 3) (R + 4) (R + 4 + 1) a b).obs.flatMap Ob.cells).toArray 65))
 generalize w5.alloc _ = w6 at hF hbF hzF ⊢
 have hO := heap_alloc_new w6 (.cells ((exP (R + 1) (R + 2) (R + 3) (R + 4) (R + 4 + 1) a b).obs.flatMap Ob.cells).toArray 65)
 have hbO := below_alloc w6 (.cells ((exP (R + 1) (R + 2) (R + 3) (R + 4) (R + 4 + 1) a b).obs.flatMap Ob.cells).toArray 65)
 rw [hzF] at hO
 generalize w6.alloc _ = w7 at hO hbO ⊢
 have hk7 : ∀ k, k < R + 4 → w7.heap[k]? = w5.heap[k]? := fun k hk => (hbO.block k (by omega)).trans (hbF.block k (by omega))
 have hF7 := (hbO.block (R + 4) (by omega)).trans hF
 have hM7 := (hk7 _ (by omega)).trans hM5
 have hA7 := (hk7 _ (by omega)).trans hA5
 have hB7 := (hk7 _ (by omega)).trans hB5
 have hR7 := (hk7 _ (by omega)).trans hR5
 have hb7 : Below R w w7 := (hb5.trans (hbF.mono (by omega))).trans (hbO.mono (by omega))
 have hcs : ∀ f ∈ (exP (R + 1) (R + 2) (R + 3) (R + 4) (R + 4 + 1) a b).funs, f = exFn ⟨#[109, 97, 105, 110]⟩ exMain (R + 1) ∨ f = exFn ⟨#[97]⟩ (exLock 0 1) (R + 2) ∨ f = exFn ⟨#[98]⟩ (exLock a b) (R + 3) := fun f hf => by simpa [exP] using hf
 have hia : ∀ f ∈ (exP (R + 1) (R + 2) (R + 3) (R + 4) (R + 4 + 1) a b).funs, ∀ i ∈ f.code, i.args = [] ∧ i.argC = 0 := fun f hf i hi => by
  rcases hcs f hf with rfl | rfl | rfl
  ·have : i = exIns 35 (-1) (-1) 3 ∨ i = exIns 34 0 1 0 ∨ i = exIns 34 0 2 0 ∨ i = exIns 36 0 0 0 := by simpa [exFn, exMain] using hi
   rcases this with rfl | rfl | rfl | rfl <;> exact ⟨rfl, rfl⟩
  ·have : i = exIns 50 0 0 0 ∨ i = exIns 50 1 0 0 ∨ i = exIns 52 1 0 0 ∨ i = exIns 52 0 0 0 := by simpa [exFn, exLock] using hi
   rcases this with rfl | rfl | rfl | rfl <;> exact ⟨rfl, rfl⟩
  ·have : i = exIns 50 a 0 0 ∨ i = exIns 50 b 0 0 ∨ i = exIns 52 b 0 0 ∨ i = exIns 52 a 0 0 := by simpa [exFn, exLock] using hi
   rcases this with rfl | rfl | rfl | rfl <;> exact ⟨rfl, rfl⟩
 refine bodyPost_ret (results_cell1 rfl rfl (run_loadVar_row (P := Tryz.prog) _ R 26 26 #[.slice (some ⟨R + 4, 0, none⟩) 3 3, .slice (some ⟨R + 4 + 1, 0, none⟩) 2 2, .slice none 0 0] (0, 0) _ hR7 Tryz.underlying26 rfl (by kernel_rfl))) rfl ?_
 refine ⟨R + 1, R + 2, R + 3, R + 4, R + 4 + 1, rfl, ?_, hb7⟩
 refine ⟨rd_block hF7 rfl rfl, rd_block hO rfl rfl, Rd.nil_, fun f hf => ?_, fun f hf i hi => ?_, by show 3 ≤ maxLen; decide, by show 2 ≤ maxLen; decide, by show 0 ≤ maxLen; decide, fun f hf => ?_, ⟨Nat.le_refl _, Nat.le_refl _, Nat.le_refl _⟩, fun f hf i hi => ?_, fun o ho => ?_, fun v hv => (by cases hv)⟩
 ·rcases hcs f hf with rfl | rfl | rfl
  ·exact rd_block hM7 rfl rfl
  ·exact rd_block hA7 rfl rfl
  ·exact rd_block hB7 rfl rfl
 ·rw [(hia f hf i hi).1]; exact Rd.nil_
 ·rcases hcs f hf with rfl | rfl | rfl
  ·exact ⟨by show 4 ≤ maxLen; decide, by show 4 ≤ maxLen; decide, Nat.le_refl _⟩
  ·exact ⟨by show 4 ≤ maxLen; decide, by show 1 ≤ maxLen; decide, Nat.le_refl _⟩
  ·exact ⟨by show 4 ≤ maxLen; decide, by show 1 ≤ maxLen; decide, Nat.le_refl _⟩
 ·rw [(hia f hf i hi).1, (hia f hf i hi).2]; exact ⟨Nat.zero_le _, Nat.le_refl _⟩
 ·have : o = ⟨⟨#[109]⟩, 1, 0, 0⟩ ∨ o = ⟨⟨#[110]⟩, 1, 0, 0⟩ := by simpa [exP] using ho
  rcases this with rfl | rfl
  ·show 1 ≤ maxLen; decide
  ·show 1 ≤ maxLen; decide
end Go.Proofs.YtkpjdanfpolimaaGreat
end
