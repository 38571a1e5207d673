/- The statements' bounds, walked: Great of layers 9 and 55. Conditions: the policy lies in memory. -/
import Derived.Test.YtgdpjmckpjkmeaaGreatDoorPsAwM
namespace Go.Proofs.YtgdpjmckpjkmeaaGreatDoor
open Go.RowKit
set_option maxRecDepth 100000 in
set_option maxHeartbeats 1600000 in
theorem sizeE_any (e : Ex) (lo : Nat) (vs : List Value) (w : World) (hL : LiesE w lo vs e) (hlo : lo ≤ w.heap.size) :
    Calls Tryz.prog 46 #[.agg vs.toArray] w (Ret (.int .i64 (sizeE e : Nat)) w) := by
  have HS0 : ∀ W, Below w.heap.size w W → Calls Tryz.prog 70 #[.agg vs.toArray, .int .i64 (0 : Nat)] W (Ret (.int .i64 (szE e 0 : Nat)) W) := fun W hW => size_any e 0 lo vs W (by omega) (hL.below' hW hlo) (Nat.le_trans hlo hW.size)
  obtain ⟨A, cap, rfl, bd, -⟩ := hL.arg
  have HS := Lib.hid HS0
  have hO := one_new w #[.int .i64 e.kind, .int .i64 e.op, .string e.name, .int .i64 e.val, .slice A e.args.length cap] 50
  have HZ : Hid (sizeE e = if 100 < szE e 0 then 101 else szE e 0) := Lib.hid rfl
  generalize sizeE e = R at HZ ⊢
  generalize szE e 0 = q at HS HZ
  clear hL bd HS0
  unfold exC Ret at HS
  unfold exC Ret
  by_cases hq : 100 < q
  · have e1 : decide ((q : Int) > 100) = true := decide_eq_true (by omega)
    have e2 : decide (100 < (q : Int)) = true := decide_eq_true (by omega)
    have e3 : decide (100 < q) = true := decide_eq_true hq
    have HV : Hid (R = 101) := Lib.hid (by rw [HZ.out, if_pos hq])
    clear hq
    go_enter Tryz.func46, Tryz.ntmps46
    go_upto_region 1 with fail
    generalize w.alloc _ = w1 at hO ⊢
    obtain ⟨x0, x1, x2, x3, x4⟩ := bx5 hO.fst
    go_wp2_with fail
    refine (HS.out _ hO.below).mono ?_
    rintro e w5 ⟨rfl, hb5⟩
    have HB := Lib.hid (hO.below.trans (hb5.mono hO.below.size))
    clear x0 x1 x2 x3 x4 hb5 hO
    go_wp2_with fail
    go_ret
    exact ⟨by rw [HV.out]; rfl, HB.out⟩
  · have e1 : decide ((q : Int) > 100) = false := decide_eq_false (by omega)
    have e2 : decide (100 < (q : Int)) = false := decide_eq_false (by omega)
    have e3 : decide (100 < q) = false := decide_eq_false hq
    have HV : Hid (R = q) := Lib.hid (by rw [HZ.out, if_neg hq])
    clear hq
    go_enter Tryz.func46, Tryz.ntmps46
    go_upto_region 1 with fail
    generalize w.alloc _ = w1 at hO ⊢
    obtain ⟨x0, x1, x2, x3, x4⟩ := bx5 hO.fst
    go_wp2_with fail
    refine (HS.out _ hO.below).mono ?_
    rintro e w5 ⟨rfl, hb5⟩
    have HB := Lib.hid (hO.below.trans (hb5.mono hO.below.size))
    clear x0 x1 x2 x3 x4 hb5 hO
    go_wp2_with fail
    go_ret
    exact ⟨by rw [HV.out]; rfl, HB.out⟩
set_option maxRecDepth 100000 in
set_option maxHeartbeats 1600000 in
theorem grtE_any (e : Ex) (lo : Nat) (vs : List Value) (w : World) (hL : LiesE w lo vs e) (hlo : lo ≤ w.heap.size) :
    Calls Tryz.prog 23 #[.agg vs.toArray] w (Ret (.bool (grtE e)) w) := by
  have HS0 : ∀ W, Below w.heap.size w W → Calls Tryz.prog 46 #[.agg vs.toArray] W (Ret (.int .i64 (sizeE e : Nat)) W) := fun W hW => sizeE_any e lo vs W (hL.below' hW hlo) (Nat.le_trans hlo hW.size)
  have HG0 : ∀ W, Below w.heap.size w W → Calls Tryz.prog 47 #[.agg vs.toArray] W (Ret (.bool (lgE e)) W) := fun W hW => long_any e lo vs W (hL.below' hW hlo) (Nat.le_trans hlo hW.size)
  obtain ⟨A, cap, rfl, bd, -⟩ := hL.arg
  have HS := Lib.hid HS0
  have HG := Lib.hid HG0
  have hO := one_new w #[.int .i64 e.kind, .int .i64 e.op, .string e.name, .int .i64 e.val, .slice A e.args.length cap] 50
  have HZ : Hid (grtE e = ((decide (40 < sizeE e) && decide (sizeE e ≤ 100)) || (decide (sizeE e ≤ 40) && lgE e))) := Lib.hid rfl
  generalize grtE e = R at HZ ⊢
  generalize sizeE e = q at HS HZ
  generalize lgE e = g at HG HZ
  clear hL bd HS0 HG0
  unfold exC Ret at HS HG
  unfold exC Ret
  have hw : 100 < q ∨ (40 < q ∧ q ≤ 100) ∨ q ≤ 40 := by omega
  rcases hw with hq | hq | hq
  · have a1 : decide ((q : Int) > 40) = true := decide_eq_true (by omega)
    have a2 : decide (40 < (q : Int)) = true := decide_eq_true (by omega)
    have a3 : decide (40 < q) = true := decide_eq_true (by omega)
    have b1 : decide ((q : Int) ≤ 100) = false := decide_eq_false (by omega)
    have b3 : decide (q ≤ 100) = false := decide_eq_false (by omega)
    have c1 : decide ((q : Int) ≤ 40) = false := decide_eq_false (by omega)
    have c3 : decide (q ≤ 40) = false := decide_eq_false (by omega)
    have HV : Hid (R = false) := Lib.hid (by rw [HZ.out, a3, b3, c3]; rfl)
    clear hq
    go_enter Tryz.func23, Tryz.ntmps23
    go_upto_region 1 with fail
    generalize w.alloc _ = w1 at hO ⊢
    obtain ⟨x0, x1, x2, x3, x4⟩ := bx5 hO.fst
    go_wp2_with fail
    refine (HS.out _ hO.below).mono ?_
    rintro e w5 ⟨rfl, hb5⟩
    have HB := Lib.hid (hO.below.trans (hb5.mono hO.below.size))
    clear x0 x1 x2 x3 x4 hb5 hO
    go_wp2_with fail
    go_ret
    exact ⟨by rw [HV.out]; rfl, HB.out⟩
  · have a1 : decide ((q : Int) > 40) = true := decide_eq_true (by omega)
    have a2 : decide (40 < (q : Int)) = true := decide_eq_true (by omega)
    have a3 : decide (40 < q) = true := decide_eq_true (by omega)
    have b1 : decide ((q : Int) ≤ 100) = true := decide_eq_true (by omega)
    have b3 : decide (q ≤ 100) = true := decide_eq_true (by omega)
    have HV : Hid (R = true) := Lib.hid (by rw [HZ.out, a3, b3]; rfl)
    clear hq
    go_enter Tryz.func23, Tryz.ntmps23
    go_upto_region 1 with fail
    generalize w.alloc _ = w1 at hO ⊢
    obtain ⟨x0, x1, x2, x3, x4⟩ := bx5 hO.fst
    go_wp2_with fail
    refine (HS.out _ hO.below).mono ?_
    rintro e w5 ⟨rfl, hb5⟩
    have HB := Lib.hid (hO.below.trans (hb5.mono hO.below.size))
    clear x0 x1 x2 x3 x4 hb5 hO
    go_wp2_with fail
    go_ret
    exact ⟨by rw [HV.out]; rfl, HB.out⟩
  · have a1 : decide ((q : Int) > 40) = false := decide_eq_false (by omega)
    have a2 : decide (40 < (q : Int)) = false := decide_eq_false (by omega)
    have a3 : decide (40 < q) = false := decide_eq_false (by omega)
    have c1 : decide ((q : Int) ≤ 40) = true := decide_eq_true (by omega)
    have c3 : decide (q ≤ 40) = true := decide_eq_true (by omega)
    have HV : Hid (R = g) := Lib.hid (by rw [HZ.out, a3, c3]; simp)
    clear hq
    go_enter Tryz.func23, Tryz.ntmps23
    go_upto_region 1 with fail
    generalize w.alloc _ = w1 at hO ⊢
    obtain ⟨x0, x1, x2, x3, x4⟩ := bx5 hO.fst
    go_wp2_with fail
    refine (HS.out _ hO.below).mono ?_
    rintro e w5 ⟨rfl, hb5⟩
    replace hO := hO.next hb5
    clear x0 x1 x2 x3 x4 hb5
    obtain ⟨x0, x1, x2, x3, x4⟩ := bx5 hO.fst
    go_wp2_with fail
    refine (HG.out _ hO.below).mono ?_
    rintro e w6 ⟨rfl, hb6⟩
    have HB := Lib.hid (hO.below.trans (hb6.mono hO.below.size))
    clear x0 x1 x2 x3 x4 hb6 hO
    go_wp2_with fail
    go_ret
    exact ⟨by rw [HV.out]; rfl, HB.out⟩
theorem grt_at {rs : List Rl} {j : Nat} (h : ∀ (q : Nat) (hq : q < rs.length), q < j → (grtE rs[q].cond || grtE rs[q].key) = false) (hj : j < rs.length) (h20 : ¬ 20 < rs.length) : ((grtE rs[j].cond || grtE rs[j].key) = true → grtP rs = true) ∧ ((grtE rs[j].cond || grtE rs[j].key) = false → ∀ (q : Nat) (hq : q < rs.length), q < j + 1 → (grtE rs[q].cond || grtE rs[q].key) = false) := by
  constructor
  · intro e
    unfold grtP
    rw [decide_eq_false h20, Bool.false_or, List.any_eq_true]
    exact ⟨rs[j], List.getElem_mem hj, e⟩
  · intro e q hq hqj
    by_cases e2 : q = j
    · subst e2; exact e
    · exact h q hq (by omega)
set_option maxRecDepth 100000 in
set_option maxHeartbeats 3200000 in
theorem great_any (A : Option Addr) (c B : Nat) (rs : List Rl) (w : World) (hP : LiesP w B A c rs) (hB : B ≤ w.heap.size) :
    Calls Tryz.prog 6 #[.agg #[.slice A rs.length c]] w (Ret (.bool (grtP rs)) w) := by
  have hl := hP.len
  have HP := Lib.hid hP
  have hO := one_new w #[.slice A rs.length c] 24
  unfold Ret
  clear hP
  by_cases h20 : 20 < rs.length
  · have e1 : decide ((rs.length : Int) > 20) = true := decide_eq_true (by omega)
    have e2 : decide (20 < (rs.length : Int)) = true := decide_eq_true (by omega)
    have e3 : decide (20 < rs.length) = true := decide_eq_true h20
    have HV : Hid (grtP rs = true) := Lib.hid (by unfold grtP; rw [e3]; rfl)
    clear h20
    go_enter Tryz.func6, Tryz.ntmps6
    go_upto_region 1 with fail
    generalize w.alloc _ = w1 at hO ⊢
    have x0 := hO.fst 0 _ rfl
    go_wp2_with fail
    go_ret
    exact ⟨by rw [HV.out]; rfl, hO.below⟩
  · have e1 : decide ((rs.length : Int) > 20) = false := decide_eq_false (by omega)
    have e2 : decide (20 < (rs.length : Int)) = false := decide_eq_false (by omega)
    have e3 : decide (20 < rs.length) = false := decide_eq_false h20
    have H20 := Lib.hid h20
    clear h20
    go_enter Tryz.func6, Tryz.ntmps6
    go_upto_region 1 with fail
    generalize w.alloc _ = w1 at hO ⊢
    have x0 := hO.fst 0 _ rfl
    go_wp2_with fail
    go_loopw [2, 3] (fun r i wr => r = .bool false ∧ ∃ j : Nat, i = .int .i64 (j : Nat) ∧ j ≤ rs.length ∧ Hid (∀ (q : Nat) (hq : q < rs.length), q < j → (grtE rs[q].cond || grtE rs[q].key) = false) ∧ Below w1.heap.size w1 wr) (fun _ i _ => rs.length - (intOf i).toNat)
    case atStart => exact ⟨rfl, 0, rfl, Nat.zero_le _, Lib.hid (fun q hq h => by omega), Below.refl _ _⟩
    case round =>
      clear x0
      obtain ⟨rfl, j, rfl, hj, hck, hb⟩ := hrel
      have hj0 : (0 : Int) ≤ (j : Int) := by omega
      have hOr := hO.next hb
      have x0 := hOr.fst 0 _ rfl
      have HBW := Lib.hid hOr.below
      have HB := Lib.hid hb
      by_cases hlt : j < rs.length
      · have hd1 : decide ((j : Int) < (rs.length : Int)) = true := decide_eq_true (by omega)
        have hwr1 : IntKind.i64.wrap ((j : Int) + 1) = (j : Int) + 1 := by rw [IntKind.wrap_i64]; omega
        have hd2 : decide (j < rs.length) = true := decide_eq_true hlt
        have hjl : (j : Int) < (rs.length : Int) := by omega
        obtain ⟨b, off, k, o, n, v, A1, m1, c1, k2, o2, n2, v2, A2, m2, c2, rfl, hb1, hL1, hL2, y0, y1, y2, y3, y4, y5, y6, y7, y8, y9⟩ := (HP.out.below' HBW.out hB).at_ j hlt
        have hlo : B ≤ wr.heap.size := Nat.le_trans hB HBW.out.size
        have HSTEP := Lib.hid (grt_at hck.out hlt H20.out)
        have HT1 : Hid (Calls Tryz.prog 23 #[.agg (exC k o n v A1 m1 c1).toArray] wr (Ret (.bool (grtE rs[j].cond)) wr)) := Lib.hid (grtE_any _ B _ wr hL1 hlo)
        have HT2 : Hid (∀ W, Below wr.heap.size wr W → Calls Tryz.prog 23 #[.agg (exC k2 o2 n2 v2 A2 m2 c2).toArray] W (Ret (.bool (grtE rs[j].key)) W)) := Lib.hid (fun W hW => grtE_any _ B _ W (hL2.below' hW hlo) (Nat.le_trans hlo hW.size))
        generalize grtE rs[j].cond = f1 at HT1 HSTEP
        generalize grtE rs[j].key = f2 at HT2 HSTEP
        unfold exC Ret at HT1 HT2
        have hzb : b < wr.heap.size := by omega
        clear hb hck hL1 hL2
        cases f1 with
        | true =>
          have HV := Lib.hid (HSTEP.out.1 rfl)
          go_wp2_with fail
          refine HT1.out.mono ?_
          rintro e w5 ⟨rfl, hb5⟩
          have HB9 := Lib.hid (HBW.out.trans (hb5.mono HBW.out.size))
          clear y0 y1 y2 y3 y4 y5 y6 y7 y8 y9 hb5 x0 hOr
          go_wp2_with fail
          go_ret
          exact ⟨by rw [HV.out]; rfl, HB9.out⟩
        | false =>
          go_wp2_with fail
          refine HT1.out.mono ?_
          rintro e w5 ⟨rfl, hb5⟩
          have x5 := (hOr.next hb5).fst 0 _ rfl
          have z5 := (hb5.cell (p := ⟨b, off + j * 10 + 5, none⟩) hzb).trans y5
          have z6 := (hb5.cell (p := ⟨b, off + j * 10 + 6, none⟩) hzb).trans y6
          have z7 := (hb5.cell (p := ⟨b, off + j * 10 + 7, none⟩) hzb).trans y7
          have z8 := (hb5.cell (p := ⟨b, off + j * 10 + 8, none⟩) hzb).trans y8
          have z9 := (hb5.cell (p := ⟨b, off + j * 10 + 9, none⟩) hzb).trans y9
          have HB5 := Lib.hid hb5
          clear y0 y1 y2 y3 y4 y5 y6 y7 y8 y9 hb5 x0 hOr
          cases f2 with
          | true =>
            have HV := Lib.hid (HSTEP.out.1 rfl)
            go_wp2_with fail
            refine (HT2.out _ HB5.out).mono ?_
            rintro e w6 ⟨rfl, hb6⟩
            have HB9 := Lib.hid (HBW.out.trans ((HB5.out.trans (hb6.mono HB5.out.size)).mono HBW.out.size))
            clear z5 z6 z7 z8 z9 x5 hb6
            go_wp2_with fail
            go_ret
            exact ⟨by rw [HV.out]; rfl, HB9.out⟩
          | false =>
            have HV := Lib.hid (HSTEP.out.2 rfl)
            go_wp2_with fail
            refine (HT2.out _ HB5.out).mono ?_
            rintro e w6 ⟨rfl, hb6⟩
            have HB9 := Lib.hid (HB.out.trans ((HB5.out.trans (hb6.mono HB5.out.size)).mono HB.out.size))
            clear z5 z6 z7 z8 z9 x5 hb6
            go_wp2_with fail
            exact ⟨⟨rfl, j + 1, by go_num, by omega, Lib.hid HV.out, HB9.out⟩, by simp [intOf]; omega⟩
      · have hd1 : decide ((j : Int) < (rs.length : Int)) = false := decide_eq_false (by omega)
        have hd2 : decide (j < rs.length) = false := decide_eq_false hlt
        have HV : Hid (grtP rs = false) := Lib.hid (by
          unfold grtP
          rw [decide_eq_false H20.out, Bool.false_or, List.any_eq_false]
          intro r hr
          obtain ⟨q, hq, rfl⟩ := List.getElem_of_mem hr
          have := hck.out q hq (by omega)
          rw [this]; simp)
        clear hck hOr hb
        go_wp2_with fail
        go_ret
        exact ⟨by rw [HV.out]; rfl, HBW.out⟩
end Go.Proofs.YtgdpjmckpjkmeaaGreatDoor
