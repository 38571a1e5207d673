/- expr.bound, walked, of valid bindings. Conditions: the bindings lie in memory and are valid. -/
import Derived.Test.YtkiilaajomjinaaGreatDoorPrPolL
import Derived.Test.YtkiilaajomjinaaGreatDoorPrOps
import Derived.Test.YtkiilaajomjinaaGreatDoorPrPolM
import Derived.WalkLawsBesides
import Derived.Lib.QuietBelow
import Derived.Test.YtkiilaajomjinaaGreatDoorPrTyE
import Derived.Test.YtkiilaajomjinaaGreatDoorPrVal
import Derived.Laws.OwnMore
import Derived.Laws.EntriesVeiled
namespace Go.Proofs.YtkiilaajomjinaaGreatDoor
open Go.RowKit Go.Sort
/-- Valid bindings. -/
structure BdOk (l : List Bd) : Prop where
  len : l.length ≤ 64
  nm : ∀ (i : Nat) (h : i < l.length), nmB l[i].name = true
  inc : ∀ (i : Nat) (h : i + 1 < l.length), Op.bytesLess l[i].name.toList l[i + 1].name.toList = true
  ty : ∀ (i : Nat) (h : i < l.length), (l[i].ty = 1 ∧ -1099511627776 ≤ l[i].val ∧ l[i].val ≤ 1099511627776) ∨ (l[i].ty = 2 ∧ 0 ≤ l[i].val ∧ l[i].val ≤ 1)
theorem nm_size {n : ByteArray} (h : nmB n = true) : n.size ≤ 9223372036854775807 := by
  unfold nmB nmL at h
  simp only [Bool.and_eq_true, decide_eq_true_eq] at h
  have : n.size = n.data.toList.length := by rw [Array.length_toList]; rfl
  omega
set_option maxRecDepth 100000 in
set_option maxHeartbeats 3200000 in
theorem bound_any (bs : List Bd) (V : BdOk bs) (A : Option Addr) (c B : Nat) (w : World) (h : RdB w B A bs) (hB : B ≤ w.heap.size) :
    Calls Tryz.prog 77 #[.slice A bs.length c] w (Ret (.bool true) w) := by
  have hl64 := V.len
  have H := Lib.hid h
  have HV := Lib.hid V
  have hl64i : (bs.length : Int) ≤ 64 := by omega
  unfold Ret
  clear h V
  go_enter Tryz.func77, Tryz.ntmps77
  go_wp2_with fail
  go_loopw [2, 9] (fun r i wr => r = .bool false ∧ ∃ j : Nat, i = .int .i64 (j : Nat) ∧ j ≤ bs.length ∧ Below w.heap.size w wr) (fun _ i _ => bs.length - (intOf i).toNat)
  case atStart => exact ⟨rfl, 0, rfl, Nat.zero_le _, Below.refl _ _⟩
  case round =>
    obtain ⟨rfl, j, rfl, hj, hb⟩ := hrel
    have hj0 : (0 : Int) ≤ (j : Int) := by omega
    have hwr1 : IntKind.i64.wrap ((j : Int) + 1) = (j : Int) + 1 := by rw [IntKind.wrap_i64]; omega
    by_cases hlt : j < bs.length
    · have hd1 : decide ((j : Int) < (bs.length : Int)) = true := decide_eq_true (by omega)
      have hd2 : decide (j < bs.length) = true := decide_eq_true hlt
      have hjl : (j : Int) < (bs.length : Int) := by omega
      have hR : RdB wr B A bs := Rd.below' H.out hb hB
      have HPREV : Hid (0 < j → ∃ b off : Nat, A = some ⟨b, off, none⟩ ∧ wr.cell? ⟨b, off + (j - 1) * 3, none⟩ = some (.string (bs[j - 1]'(by omega)).name)) := Lib.hid (fun h0 => by
        obtain ⟨b, off, e, _, y, -⟩ := hR.at_ (k := j - 1) (by omega)
        exact ⟨b, off, e, y⟩)
      obtain ⟨b, off, rfl, hbB, y0, y1, y2⟩ := hR.at_ hlt
      have hO := one_new wr #[.string bs[j].name, .int .i64 bs[j].ty, .int .i64 bs[j].val] 93
      have HNM := Lib.hid (HV.out.nm j hlt)
      have HTY := Lib.hid (HV.out.ty j hlt)
      have HINC : Hid (∀ (h0 : 0 < j), Op.bytesLess (bs[j - 1]'(by omega)).name.toList bs[j].name.toList = true) := Lib.hid (fun h0 => by
        have := HV.out.inc (j - 1) (by omega)
        simpa [show j - 1 + 1 = j from by omega] using this)
      generalize bs[j].name = nm at y0 hO HNM HINC
      generalize bs[j].ty = ty at y1 hO HTY
      generalize bs[j].val = vl at y2 hO HTY
      have HPREV2 : Hid (∀ p : ByteArray, p = p) := Lib.hid (fun _ => rfl)
      clear hR HPREV2
      have HB := Lib.hid hb
      clear hb
      go_upto_region 4 with fail
      generalize wr.alloc _ = w4 at hO ⊢
      obtain ⟨x0, x1, x2⟩ := bx3 hO.fst
      have HIN : Hid (∀ d os, Calls Tryz.prog 128 #[.string nm] (grow (redrawn w4 d) os) (Ret (.bool true) (grow (redrawn w4 d) os))) := Lib.hid (fun d os => by
        have := isName_any nm (nm_size HNM.out) (grow (redrawn w4 d) os)
        rwa [HNM.out] at this)
      unfold Ret at HIN
      have q0 := fun d os => cell_regrown (w := w4) x0 d os
      have q1 := fun d os => cell_regrown (w := w4) x1 d os
      have q2 := fun d os => cell_regrown (w := w4) x2 d os
      have HBW : Hid (Below w.heap.size w w4) := Lib.hid (HB.out.trans (hO.below.mono HB.out.size))
      by_cases hj1 : 0 < j
      · have hd3 : decide ((j : Int) > 0) = true := decide_eq_true (by omega)
        have hd4 : decide (0 < (j : Int)) = true := decide_eq_true (by omega)
        have hd5 : decide (0 < j) = true := decide_eq_true hj1
        obtain ⟨b', off', e', yp⟩ := HPREV.out hj1
        injection e' with e'
        injection e' with e1 e2 _
        subst e1 e2
        have hless := HINC.out hj1
        have ypw := (hO.below.cell (p := ⟨b, off + (j - 1) * 3, none⟩) (World.block_lt_of_cell? _ _ yp)).trans yp
        generalize (bs[j - 1]'(by omega)).name = np at ypw hless
        have q3 := fun d os => cell_regrown (w := w4) ypw d os
        have hs1 : IntKind.i64.wrap ((j : Int) - 1) = (j : Int) - 1 := by rw [IntKind.wrap_i64]; omega
        have hs2 : (0 : Int) ≤ (j : Int) - 1 := by omega
        have hs3 : ((j : Int) - 1).toNat = j - 1 := by omega
        have hs4 : (j : Int) - 1 < (bs.length : Int) := by omega
        clear yp ypw y0 y1 y2 hO HPREV HINC HNM
        rcases HTY.out with ⟨rfl, hv1, hv2⟩ | ⟨rfl, hv1, hv2⟩
        · have t1 : decide (vl < -1099511627776) = false := decide_eq_false (by omega)
          have t2 : decide (1099511627776 < vl) = false := decide_eq_false (by omega)
          have t3 : decide (vl > 1099511627776) = false := decide_eq_false (by omega)
          clear HTY
          go_upto_region 7 with fail
          refine wp_region_quiet_below (by kernel_rfl) (by kernel_rfl) ?_
          repeat (go_big_quiet_step (first | exact Calls.regrown_of (HIN.out _ _)))
          refine wpQuiet_nil ?_
          rintro _ ⟨pq, rfl⟩
          have hb9 := HBW.out.trans ((below_regrown w4 pq.d pq.os).mono HBW.out.size)
          generalize grow (redrawn w4 pq.d) pq.os = w9 at hb9 ⊢
          clear q0 q1 q2 q3
          go_wp2_with fail
          exact ⟨⟨rfl, j + 1, by go_num, by omega, hb9⟩, by simp [intOf]; omega⟩
        · have t1 : decide (vl < 0) = false := decide_eq_false (by omega)
          have t2 : decide (1 < vl) = false := decide_eq_false (by omega)
          have t3 : decide (vl > 1) = false := decide_eq_false (by omega)
          clear HTY
          go_upto_region 7 with fail
          refine wp_region_quiet_below (by kernel_rfl) (by kernel_rfl) ?_
          repeat (go_big_quiet_step (first | exact Calls.regrown_of (HIN.out _ _)))
          refine wpQuiet_nil ?_
          rintro _ ⟨pq, rfl⟩
          have hb9 := HBW.out.trans ((below_regrown w4 pq.d pq.os).mono HBW.out.size)
          generalize grow (redrawn w4 pq.d) pq.os = w9 at hb9 ⊢
          clear q0 q1 q2 q3
          go_wp2_with fail
          exact ⟨⟨rfl, j + 1, by go_num, by omega, hb9⟩, by simp [intOf]; omega⟩
      · obtain rfl : j = 0 := by omega
        clear y0 y1 y2 hO HPREV HINC HNM hj1
        rcases HTY.out with ⟨rfl, hv1, hv2⟩ | ⟨rfl, hv1, hv2⟩
        · have t1 : decide (vl < -1099511627776) = false := decide_eq_false (by omega)
          have t2 : decide (1099511627776 < vl) = false := decide_eq_false (by omega)
          have t3 : decide (vl > 1099511627776) = false := decide_eq_false (by omega)
          clear HTY
          go_upto_region 7 with fail
          refine wp_region_quiet_below (by kernel_rfl) (by kernel_rfl) ?_
          repeat (go_big_quiet_step (first | exact Calls.regrown_of (HIN.out _ _)))
          refine wpQuiet_nil ?_
          rintro _ ⟨pq, rfl⟩
          have hb9 := HBW.out.trans ((below_regrown w4 pq.d pq.os).mono HBW.out.size)
          generalize grow (redrawn w4 pq.d) pq.os = w9 at hb9 ⊢
          clear q0 q1 q2
          go_wp2_with fail
          exact ⟨⟨rfl, 0 + 1, by first | rfl | go_num, by omega, hb9⟩, by simp [intOf]; omega⟩
        · have t1 : decide (vl < 0) = false := decide_eq_false (by omega)
          have t2 : decide (1 < vl) = false := decide_eq_false (by omega)
          have t3 : decide (vl > 1) = false := decide_eq_false (by omega)
          clear HTY
          go_upto_region 7 with fail
          refine wp_region_quiet_below (by kernel_rfl) (by kernel_rfl) ?_
          repeat (go_big_quiet_step (first | exact Calls.regrown_of (HIN.out _ _)))
          refine wpQuiet_nil ?_
          rintro _ ⟨pq, rfl⟩
          have hb9 := HBW.out.trans ((below_regrown w4 pq.d pq.os).mono HBW.out.size)
          generalize grow (redrawn w4 pq.d) pq.os = w9 at hb9 ⊢
          clear q0 q1 q2
          go_wp2_with fail
          exact ⟨⟨rfl, 0 + 1, by first | rfl | go_num, by omega, hb9⟩, by simp [intOf]; omega⟩
    · have hd1 : decide ((j : Int) < (bs.length : Int)) = false := decide_eq_false (by omega)
      have hd2 : decide (j < bs.length) = false := decide_eq_false hlt
      go_wp2_with fail
      go_ret
      exact ⟨rfl, hb⟩
end Go.Proofs.YtkiilaajomjinaaGreatDoor

/- The attributes' bindings are valid, and those that fit them. Conditions: none. -/
namespace Go.Proofs.YtkiilaajomjinaaGreatDoor
theorem kd_len : kdB.length = 11 := rfl
theorem kd_nm : ∀ i : Fin 11, nmB (kdB[i.val]'(by have := kd_len; omega)).name = true := by decide +kernel
theorem kd_inc : ∀ i : Fin 10, Op.bytesLess (kdB[i.val]'(by have := kd_len; omega)).name.data.toList (kdB[i.val + 1]'(by have := kd_len; omega)).name.data.toList = true := by decide +kernel
theorem kd_ty : ∀ i : Fin 11, (kdB[i.val]'(by have := kd_len; omega)).ty = 1 ∨ (kdB[i.val]'(by have := kd_len; omega)).ty = 2 := by decide +kernel
theorem bdok_of {l : List Bd} (hm : l.map (fun b => (b.name, b.ty)) = kdB.map (fun b => (b.name, b.ty)))
    (hv : ∀ (i : Nat) (h : i < l.length), (l[i].ty = 1 → -1099511627776 ≤ l[i].val ∧ l[i].val ≤ 1099511627776) ∧ (l[i].ty = 2 → 0 ≤ l[i].val ∧ l[i].val ≤ 1)) : BdOk l := by
  have hl : l.length = 11 := by
    have := congrArg List.length hm
    simp only [List.length_map] at this
    exact this
  have ha : ∀ (i : Nat) (h : i < l.length), l[i].name = (kdB[i]'(by rw [kd_len]; omega)).name ∧ l[i].ty = (kdB[i]'(by rw [kd_len]; omega)).ty := by
    intro i h
    have h1 := congrArg (fun q => q[i]?) hm
    simp only [List.getElem?_map] at h1
    rw [List.getElem?_eq_getElem h, List.getElem?_eq_getElem (by rw [kd_len]; omega)] at h1
    simp only [Option.map_some, Option.some.injEq, Prod.mk.injEq] at h1
    exact h1
  refine ⟨by omega, fun i h => ?_, fun i h => ?_, fun i h => ?_⟩
  · rw [(ha i h).1]; exact kd_nm ⟨i, by omega⟩
  · rw [(ha i (by omega)).1, (ha (i + 1) h).1, ByteArray.toList_eq, ByteArray.toList_eq]; exact kd_inc ⟨i, by omega⟩
  · have h1 := kd_ty ⟨i, by omega⟩
    simp only at h1
    rw [← (ha i h).2] at h1
    rcases h1 with h1 | h1
    · exact .inl ⟨h1, (hv i h).1 h1⟩
    · exact .inr ⟨h1, (hv i h).2 h1⟩
theorem bdok_kd : BdOk kdB := bdok_of rfl (fun i h => by
  have hall : ∀ b ∈ kdB, b.val = 0 := by unfold kdB; intro b hb; obtain ⟨k, _, rfl⟩ := List.mem_map.1 hb; rfl
  rw [hall _ (List.getElem_mem h)]
  omega)
theorem bdok_fits {l : List Bd} (h : fits l = true) : BdOk l := by
  refine bdok_of (fits_map h) fun i hi => ?_
  unfold fits at h
  rw [Bool.and_eq_true] at h
  obtain ⟨h1, h2⟩ := h
  have hl : l.length = 11 := by simpa using h1
  have hk : kds.length = 11 := rfl
  have hz : (kds[i]'(by omega), l[i]) ∈ kds.zip l := by
    have h3 : i < (kds.zip l).length := by rw [List.length_zip]; omega
    have := List.getElem_mem h3
    rwa [List.getElem_zip] at this
  have hf := List.all_eq_true.1 h2 _ hz
  unfold fitB at hf
  simp only [Bool.and_eq_true, beq_iff_eq] at hf
  obtain ⟨⟨-, ht⟩, hv⟩ := hf
  constructor
  · intro e
    rw [if_neg (by omega)] at hv
    simpa using hv
  · intro e
    rw [if_pos (by omega)] at hv
    simp at hv
    omega
/-- Valid bindings have small values. -/
theorem BdOk.sm {l : List Bd} (V : BdOk l) : ∀ b ∈ l, b.val.natAbs ≤ 1099511627776 := by
  intro b hb
  obtain ⟨i, h, rfl⟩ := List.getElem_of_mem hb
  have := V.ty i h
  omega
end Go.Proofs.YtkiilaajomjinaaGreatDoor

/- expr.Type and expr.Eval, walked, over valid bindings. Conditions: the expression and the bindings lie in memory, the bindings are valid. -/
namespace Go.Proofs.YtkiilaajomjinaaGreatDoor
open Go.RowKit
theorem typeV_any (bs : List Bd) (V : BdOk bs) (Ab : Option Addr) (cb Bb : Nat) (e : Ex) (lo : Nat) (vs : List Value) (w : World) (hL : LiesE w lo vs e) (hlo : lo ≤ w.heap.size) (hR : RdB w Bb Ab bs) (hBb : Bb ≤ w.heap.size) :
    Calls Tryz.prog 42 #[.agg vs.toArray, .slice Ab bs.length cb] w (Ret (ansV (typeE bs e)) w) :=
  type_any bs Ab cb Bb (by have := V.len; omega) e lo vs w hL hlo hR hBb (fun W hW => bound_any bs V Ab cb Bb W (Rd.below' hR hW hBb) (Nat.le_trans hBb hW.size))
theorem typeE_ne (l : List Bd) (e : Ex) (f : Nat) (h : typeE l e = .er f) : f ≠ 0 := by
  unfold typeE at h
  by_cases hc : chkE e = 0
  · rw [if_pos hc] at h; exact typE_ne _ _ _ h
  · rw [if_neg hc] at h; injection h with h; rw [← h]; exact hc
theorem typeE_chk {l : List Bd} {e : Ex} {t : Int} (h : typeE l e = .ok t) : chkE e = 0 := by
  unfold typeE at h
  by_cases hc : chkE e = 0
  · exact hc
  · rw [if_neg hc] at h; cases h
set_option maxRecDepth 100000 in
set_option maxHeartbeats 1600000 in
theorem eval_any (bs : List Bd) (V : BdOk bs) (Ab : Option Addr) (cb Bb : Nat) (e : Ex) (lo : Nat) (vs : List Value) (w : World) (hL : LiesE w lo vs e) (hlo : lo ≤ w.heap.size) (hR : RdB w Bb Ab bs) (hBb : Bb ≤ w.heap.size) :
    Calls Tryz.prog 54 #[.agg vs.toArray, .slice Ab bs.length cb] w (Ret (ansV (evalE bs e)) w) := by
  have HTY0 : ∀ W, Below w.heap.size w W → Calls Tryz.prog 42 #[.agg vs.toArray, .slice Ab bs.length cb] W (Ret (ansV (typeE bs e)) W) := fun W hW => typeV_any bs V Ab cb Bb e lo vs W (hL.below' hW hlo) (Nat.le_trans hlo hW.size) (Rd.below' hR hW hBb) (Nat.le_trans hBb hW.size)
  have HVL0 : chkE e = 0 → ∀ W, Below w.heap.size w W → Calls Tryz.prog 87 #[.agg vs.toArray, .slice Ab bs.length cb] W (Ret (ansV (valE bs e)) W) := fun h W hW => value_any bs Ab cb Bb (by have := V.len; omega) V.sm e lo vs W (good_of e h).1 (hL.below' hW hlo) (Nat.le_trans hlo hW.size) (Rd.below' hR hW hBb) (Nat.le_trans hBb hW.size)
  obtain ⟨A, cap, rfl, bd, -⟩ := hL.arg
  have HTY := Lib.hid HTY0
  have HVL := Lib.hid HVL0
  clear hL hR bd V HTY0 HVL0
  unfold exC ansV Ret at HTY HVL
  unfold exC ansV Ret
  have hO := one_new w #[.int .i64 e.kind, .int .i64 e.op, .string e.name, .int .i64 e.val, .slice A e.args.length cap] 51
  cases ht : typeE bs e with
  | er f =>
    have hf0 := typeE_ne bs e f ht
    have e1 : ((f : Int) != 0) = true := by simpa using hf0
    have e2 : (f != 0) = true := by simpa using hf0
    have HV : Hid (evalE bs e = .er f) := Lib.hid (by unfold evalE; rw [ht])
    rw [ht] at HTY
    simp only [Ans.n, Ans.f] at HTY
    clear hf0 ht HVL
    go_enter Tryz.func54, Tryz.ntmps54
    go_upto_region 1 with fail
    generalize w.alloc _ = w1 at hO ⊢
    obtain ⟨x0, x1, x2, x3, x4⟩ := bx5 hO.fst
    go_wp2_with fail
    refine (HTY.out _ hO.below).mono ?_
    rintro e5 w5 ⟨rfl, hb5⟩
    clear x0 x1 x2 x3 x4
    have HB := Lib.hid (hO.below.trans (hb5.mono hO.below.size))
    clear hb5 hO
    go_wp2_with fail
    go_ret2
    exact ⟨by rw [HV.out]; rfl, HB.out⟩
  | ok t =>
    have hc := typeE_chk ht
    have HV : Hid (evalE bs e = valE bs e) := Lib.hid (by unfold evalE; rw [ht])
    rw [ht] at HTY
    simp only [Ans.n, Ans.f] at HTY
    replace HVL := Lib.hid (HVL.out hc)
    clear ht hc
    go_enter Tryz.func54, Tryz.ntmps54
    go_upto_region 1 with fail
    generalize w.alloc _ = w1 at hO ⊢
    obtain ⟨x0, x1, x2, x3, x4⟩ := bx5 hO.fst
    go_wp2_with fail
    refine (HTY.out _ hO.below).mono ?_
    rintro e5 w5 ⟨rfl, hb5⟩
    clear x0 x1 x2 x3 x4
    replace hO := hO.next hb5
    clear hb5
    obtain ⟨x0, x1, x2, x3, x4⟩ := bx5 hO.fst
    go_wp2_with fail
    refine (HVL.out _ hO.below).mono ?_
    rintro e7 w7 ⟨rfl, hb7⟩
    replace hb7 := hO.below.trans (hb7.mono hO.below.size)
    clear x0 x1 x2 x3 x4 hO
    go_wp2_with fail
    go_ret2
    exact ⟨by rw [HV.out]; rfl, hb7⟩
end Go.Proofs.YtkiilaajomjinaaGreatDoor

/- policy.attributes and policy.kinds, walked. Conditions: none. -/
namespace Go.Proofs.YtkiilaajomjinaaGreatDoor
open Go.RowKit
/-- The attributes' cells: name, type, a function. -/
def atFs : List Nat := [113, 116, 117, 118, 120, 121, 122, 123, 124, 126, 127]
def atCs : List Value := (kds.zip atFs).flatMap fun x => [.string x.1.name, .int .i64 x.1.ty, .func (.func x.2) #[] #[]]
theorem kds_len : kds.length = 11 := rfl
/-- A slice of the attributes. -/
def AtsR (w : World) : Ending → World → Prop := fun e W => ∃ g off : Nat, e = .returned (.slice (some ⟨g, off, none⟩) 11 11) ∧ Below w.heap.size w W ∧ g < W.heap.size ∧
  ∀ (i : Nat) (h : i < kds.length), ∃ F : Nat, W.cell? ⟨g, off + i * 3, none⟩ = some (.string kds[i].name) ∧ W.cell? ⟨g, off + i * 3 + 1, none⟩ = some (.int .i64 kds[i].ty) ∧ W.cell? ⟨g, off + i * 3 + 2, none⟩ = some (.func (.func F) #[] #[])
set_option maxRecDepth 100000 in
theorem attributes_any (w : World) : Calls Tryz.prog 76 #[] w (AtsR w) := by
  have key : ∀ W, W = w.alloc (.cells atCs.toArray 124) → AtsR w (.returned (.slice (some ⟨w.heap.size, 0, none⟩) 11 11)) W := by
    rintro W rfl
    refine ⟨w.heap.size, 0, rfl, below_alloc _ _, by simp, fun i h => ?_⟩
    have hb := bx_new w atCs.toArray 124
    have hk := kds_len
    have hc : i = 0 ∨ i = 1 ∨ i = 2 ∨ i = 3 ∨ i = 4 ∨ i = 5 ∨ i = 6 ∨ i = 7 ∨ i = 8 ∨ i = 9 ∨ i = 10 := by omega
    rcases hc with rfl | rfl | rfl | rfl | rfl | rfl | rfl | rfl | rfl | rfl | rfl <;> exact ⟨_, hb _ _ rfl, hb _ _ rfl, hb _ _ rfl⟩
  have KEY := Lib.hid key
  clear key
  generalize AtsR w = R at KEY ⊢
  go_enter Tryz.func76, Tryz.ntmps76
  go_wp2_with fail
  exact KEY.out _ rfl
theorem bx_add {W : World} {g : Nat} {cs : List Value} (h : Bx W g cs) : ∀ j u, cs[j]? = some u → W.cell? ((⟨g, 0, none⟩ : Addr).add j) = some u := fun j u hu => by
  have h1 := h j u hu
  by_cases h0 : j = 0
  · subst h0; simpa [Addr.add] using h1
  · simpa [Addr.add, h0] using h1
theorem bdInfo : (Tryz.prog.info? 93).map (fun i => (i.zero, i.size, i.bytes)) = some (some (.agg #[.string ⟨#[]⟩, .int .i64 0, .int .i64 0]), 3, 32) := by kernel_rfl
/-- A slice of the attributes' bindings. -/
def KdsR (w : World) : Ending → World → Prop := fun e W => ∃ (A : Option Addr) (c : Nat), e = .returned (.slice A kdB.length c) ∧ Below w.heap.size w W ∧ RdB W W.heap.size A kdB
set_option maxRecDepth 100000 in
set_option maxHeartbeats 1600000 in
theorem kinds_any (w : World) : Calls Tryz.prog 40 #[] w (KdsR w) := by
  have HAT := Lib.hid (attributes_any w)
  obtain ⟨i0, hi, hz0, hz1, hz2⟩ := info_parts bdInfo
  have hk11 : kds.length = 11 := rfl
  unfold AtsR at HAT
  unfold KdsR
  go_enter Tryz.func40, Tryz.ntmps40
  go_wp2_with fail
  refine HAT.out.mono ?_
  rintro e w1 ⟨g, off, rfl, hb1, hg1, hat⟩
  have HA := Lib.hid hat
  have HK := Lib.hid hk11
  clear HAT hat hk11
  go_wp2_with fail
  go_loopw [1, 6] (fun v i wr => ∃ j : Nat, i = .int .i64 (j : Nat) ∧ j ≤ 11 ∧ wr.ownsRow w1.heap.size 93 3 v j ((kdB.take j).flatMap Bd.cells) ∧ Below w1.heap.size w1 wr) (fun _ i _ => 11 - (intOf i).toNat)
  case atStart => exact ⟨0, rfl, by omega, World.ownsRow_nil _ _ _ _, Below.refl _ _⟩
  case round =>
    obtain ⟨j, rfl, hj, hown, hb⟩ := hrel
    have hj0 : (0 : Int) ≤ (j : Int) := by omega
    have hwr1 : IntKind.i64.wrap ((j : Int) + 1) = (j : Int) + 1 := by rw [IntKind.wrap_i64]; omega
    by_cases hlt : j < 11
    · have hd1 : decide ((j : Int) < 11) = true := decide_eq_true (by omega)
      have hjl : (j : Int) < 11 := by omega
      obtain ⟨F, y0, y1, y2⟩ := HA.out j (by rw [HK.out]; exact hlt)
      replace y0 := (hb.cell (p := ⟨g, off + j * 3, none⟩) hg1).trans y0
      replace y1 := (hb.cell (p := ⟨g, off + j * 3 + 1, none⟩) hg1).trans y1
      replace y2 := (hb.cell (p := ⟨g, off + j * 3 + 2, none⟩) hg1).trans y2
      have HTK : Hid ((kdB.take (j + 1)).flatMap Bd.cells = (kdB.take j).flatMap Bd.cells ++ [.string (kds[j]'(by rw [HK.out]; exact hlt)).name, .int .i64 (kds[j]'(by rw [HK.out]; exact hlt)).ty, .int .i64 0]) := Lib.hid (by
        have hkl : j < kdB.length := by simpa [kdB, kds] using hlt
        rw [List.take_add_one, List.getElem?_eq_getElem hkl, List.flatMap_append]
        simp [kdB, Bd.cells])
      generalize (kds[j]'(by rw [HK.out]; exact hlt)).name = nm at y0 HTK
      generalize (kds[j]'(by rw [HK.out]; exact hlt)).ty = ty at y1 HTK
      have hO := one_new wr #[.string nm, .int .i64 ty, .func (.func F) #[] #[]] 124
      have hown4 := World.ownsRow.alloc hown (.cells #[.string nm, .int .i64 ty, .func (.func F) #[] #[]] 124)
      have hz4 : w1.heap.size ≤ (wr.alloc (.cells #[.string nm, .int .i64 ty, .func (.func F) #[] #[]] 124)).heap.size := by have := hb.size; simp; omega
      have HB4 := Lib.hid ((hb.alloc hb.size (.cells #[.string nm, .int .i64 ty, .func (.func F) #[] #[]] 124)))
      clear hown hb
      go_upto_region 5 with fail
      generalize wr.alloc _ = w4 at hO hown4 hz4 HB4 ⊢
      obtain ⟨x0, x1, x2⟩ := bx3 hO.fst
      have hmx : j + 1 ≤ maxLen := by unfold maxLen; omega
      have hby : (j + 1) * 32 ≤ 140737488355328 := by omega
      have hbs : w1.heap.size ≤ (w4.alloc (.cells #[.string nm, .int .i64 ty, .int .i64 0] 93)).heap.size := by simp; omega
      have hbx := bx_new w4 #[.string nm, .int .i64 ty, .int .i64 0] 93
      have hbl6 := Lib.hid (HB4.out.alloc hz4 (.cells #[.string nm, .int .i64 ty, .int .i64 0] 93))
      have HBX := Lib.hid (bx_add hbx)
      clear hbx hO
      go_wp2_with (at_builtin; refine wpList_append_own _ rfl (.tmp 10) (.tmp 16) _ rfl w1.heap.size 93 i0 (.agg #[.string ⟨#[]⟩, .int .i64 0, .int .i64 0]) 3 32 Tryz.underlying39 hi hz0 hz1 hz2 rfl (by omega) _ _ _ rfl (World.ownsRow.alloc hown4 _) ⟨w4.heap.size, 0, none⟩ 1 1 [.string nm, .int .i64 ty, .int .i64 0] rfl rfl HBX.out (by simp [Value.oneCell']) hmx hby hbs ?_; intro v2 w6 hown6 hg6 _)
      exact ⟨⟨j + 1, by go_num, by omega, by rw [HTK.out]; exact hown6, hbl6.out.grown hg6 hbs (fun g e => (World.ownsRow.lt hown4 g e).1)⟩, by simp [intOf]; omega⟩
    · have hd1 : decide ((j : Int) < 11) = false := decide_eq_false (by omega)
      obtain rfl : j = 11 := by omega
      have hlen : (kdB.take 11) = kdB := rfl
      rw [hlen] at hown
      obtain ⟨g2, gc, rfl, -, hgl⟩ := hown.form (by omega)
      have hlt2 := World.ownsRow.lt hown g2 rfl
      have HR : Hid (RdB wr wr.heap.size (some ⟨g2, 0, none⟩) kdB) := Lib.hid (by
        refine ⟨rfl, .inr ⟨g2, 0, rfl, hlt2.2, fun j u hu => ?_⟩⟩
        have := hown.cells (g := g2) rfl j u hu
        by_cases h0 : j = 0
        · subst h0; simpa [Addr.add] using this
        · simpa [Addr.add, h0] using this)
      have HB := Lib.hid (hb1.trans (hb.mono hb1.size))
      clear hown hb hlen hlt hgl hlt2
      go_wp2_with fail
      go_ret
      exact ⟨_, _, rfl, HB.out, HR.out⟩
end Go.Proofs.YtkiilaajomjinaaGreatDoor
