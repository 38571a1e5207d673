/- nurseryref09.same and Equal, nurseryref55.Same: what reads alike is the same. Conditions: the expressions are valid and lie in memory. -/
import Derived.Test.YtgdpjmckpjkmeaaGreatDoorPsBk1
import Derived.Deep.RegionHeld3
namespace Go.Proofs.YtgdpjmckpjkmeaaGreatDoor
open Go.RowKit
set_option maxRecDepth 100000 in
set_option maxHeartbeats 6400000 in
theorem same_any : ∀ (e : Ex) (lo : Nat) (vs us : List Value) (w : World), LiesE w lo vs e → LiesE w lo us e → lo ≤ w.heap.size →
    Calls Tryz.prog 60 #[.agg vs.toArray, .agg us.toArray] w (Ret (.bool true) w) := by
  intro e
  induction e using Ex.ind with
  | h k o nm v xs ih =>
    intro lo vs us w hL hM hlo
    obtain ⟨A, cap, rfl, bd, harg⟩ := hL.arg
    obtain ⟨A', cap', rfl, bd', harg'⟩ := hM.arg
    have hO := two_new w #[.int .i64 k, .int .i64 o, .string nm, .int .i64 v, .slice A xs.length cap] #[.int .i64 k, .int .i64 o, .string nm, .int .i64 v, .slice A' xs.length cap'] 50 50
    have HARG := Lib.hid harg
    have HARG' := Lib.hid harg'
    have HIH := Lib.hid (fun a ha => ih a ha)
    have hbd := bd.2.2.2.2.1
    simp only [Ex.kind, Ex.op, Ex.name, Ex.val, Ex.args] at HARG HARG' hbd ⊢
    clear harg harg' ih hL hM bd bd'
    unfold exC Ret
    go_enter Tryz.func60, Tryz.ntmps60
    go_upto_region 1 with fail
    have hz1 : (w.alloc (.cells #[.int .i64 k, .int .i64 o, .string nm, .int .i64 v, .slice A xs.length cap] 50)).heap.size = w.heap.size + 1 := by simp
    generalize (w.alloc _).alloc _ = w1 at hO ⊢
    obtain ⟨x0, x1, x2, x3, x4⟩ := bx5 hO.fst
    obtain ⟨q0, q1, q2, q3, q4⟩ := bx5 hO.snd
    go_wp2_with fail
    go_loopw [4, 5] (fun r i wr => r = .bool false ∧ ∃ j : Nat, i = .int .i64 (j : Nat) ∧ j ≤ xs.length ∧ Below w1.heap.size w1 wr) (fun _ i _ => xs.length - (intOf i).toNat)
    case atStart => exact ⟨rfl, 0, rfl, Nat.zero_le _, Below.refl _ _⟩
    case round =>
      clear x0 x1 x2 x3 x4 q0 q1 q2 q3 q4
      obtain ⟨rfl, j, rfl, hj, hb⟩ := hrel
      have hj0 : (0 : Int) ≤ (j : Int) := by omega
      have hOr := hO.next hb
      obtain ⟨x0, x1, x2, x3, x4⟩ := bx5 hOr.fst
      obtain ⟨q0, q1, q2, q3, q4⟩ := bx5 hOr.snd
      have HOR := Lib.hid hOr
      have HBW := Lib.hid hOr.below
      have HB := Lib.hid hb
      clear hOr hb
      by_cases hlt : j < xs.length
      · have hd1 : decide ((j : Int) < (xs.length : Int)) = true := decide_eq_true (by omega)
        have hwr1 : IntKind.i64.wrap ((j : Int) + 1) = (j : Int) + 1 := by rw [IntKind.wrap_i64]; omega
        have hd2 : decide (j < xs.length) = true := decide_eq_true hlt
        have hjl : (j : Int) < (xs.length : Int) := by omega
        obtain ⟨b1, off, k1, o1, n1, v1, A1, m1, cap1, rfl, hb1, hL1, y0, y1, y2, y3, y4⟩ := HARG.out j hlt
        obtain ⟨b2, off2, k2, o2, n2, v2, A2, m2, cap2, rfl, hb2, hL2, y0', y1', y2', y3', y4'⟩ := HARG'.out j hlt
        have HC : Hid (∀ W, Below wr.heap.size wr W → W.cell? ⟨w.heap.size, 4, none⟩ = some (.slice (some ⟨b1, off, none⟩) xs.length cap) ∧ W.cell? ⟨w.heap.size + 1, 4, none⟩ = some (.slice (some ⟨b2, off2, none⟩) xs.length cap') ∧
          (W.cell? ⟨b1, off + j * 5, none⟩ = some (.int .i64 k1) ∧ W.cell? ⟨b1, off + j * 5 + 1, none⟩ = some (.int .i64 o1) ∧ W.cell? ⟨b1, off + j * 5 + 2, none⟩ = some (.string n1) ∧ W.cell? ⟨b1, off + j * 5 + 3, none⟩ = some (.int .i64 v1) ∧ W.cell? ⟨b1, off + j * 5 + 4, none⟩ = some (.slice A1 m1 cap1)) ∧
          (W.cell? ⟨b2, off2 + j * 5, none⟩ = some (.int .i64 k2) ∧ W.cell? ⟨b2, off2 + j * 5 + 1, none⟩ = some (.int .i64 o2) ∧ W.cell? ⟨b2, off2 + j * 5 + 2, none⟩ = some (.string n2) ∧ W.cell? ⟨b2, off2 + j * 5 + 3, none⟩ = some (.int .i64 v2) ∧ W.cell? ⟨b2, off2 + j * 5 + 4, none⟩ = some (.slice A2 m2 cap2))) := Lib.hid (fun W hW => by
          have h1 := HBW.out.trans (hW.mono HBW.out.size)
          have h2 := HOR.out.next hW
          exact ⟨h2.fst 4 _ rfl, h2.snd 4 _ rfl,
            ⟨(h1.cell (p := ⟨b1, off + j * 5, none⟩) (by show b1 < w.heap.size; omega)).trans y0, (h1.cell (p := ⟨b1, off + j * 5 + 1, none⟩) (by show b1 < w.heap.size; omega)).trans y1, (h1.cell (p := ⟨b1, off + j * 5 + 2, none⟩) (by show b1 < w.heap.size; omega)).trans y2, (h1.cell (p := ⟨b1, off + j * 5 + 3, none⟩) (by show b1 < w.heap.size; omega)).trans y3, (h1.cell (p := ⟨b1, off + j * 5 + 4, none⟩) (by show b1 < w.heap.size; omega)).trans y4⟩,
            ⟨(h1.cell (p := ⟨b2, off2 + j * 5, none⟩) (by show b2 < w.heap.size; omega)).trans y0', (h1.cell (p := ⟨b2, off2 + j * 5 + 1, none⟩) (by show b2 < w.heap.size; omega)).trans y1', (h1.cell (p := ⟨b2, off2 + j * 5 + 2, none⟩) (by show b2 < w.heap.size; omega)).trans y2', (h1.cell (p := ⟨b2, off2 + j * 5 + 3, none⟩) (by show b2 < w.heap.size; omega)).trans y3', (h1.cell (p := ⟨b2, off2 + j * 5 + 4, none⟩) (by show b2 < w.heap.size; omega)).trans y4'⟩⟩)
        have hs := fun (W : World) (hW : Below wr.heap.size wr W) => HIH.out xs[j] (List.getElem_mem _) lo _ _ W ((hL1.below' HBW.out hlo).below' hW (Nat.le_trans hlo HBW.out.size)) ((hL2.below' HBW.out hlo).below' hW (Nat.le_trans hlo HBW.out.size)) (Nat.le_trans (Nat.le_trans hlo HBW.out.size) hW.size)
        unfold exC Ret at hs
        have HS := Lib.hid hs
        clear hs hL1 hL2 y0 y1 y2 y3 y4 y0' y1' y2' y3' y4'
        go_upto_region 6 with fail
        go_cut [59] (fun r wx => r = .bool false ∧ Below wr.heap.size wr wx)
        case first =>
          have hB : Below wr.heap.size wr wr.drew := below_drews _ _ 1
          go_region_held3 (fun W => W.cell? ⟨w.heap.size, 4, none⟩ = some (.slice (some ⟨b1, off, none⟩) xs.length cap) ∧ W.cell? ⟨w.heap.size + 1, 4, none⟩ = some (.slice (some ⟨b2, off2, none⟩) xs.length cap') ∧
            (W.cell? ⟨b1, off + j * 5, none⟩ = some (.int .i64 k1) ∧ W.cell? ⟨b1, off + j * 5 + 1, none⟩ = some (.int .i64 o1) ∧ W.cell? ⟨b1, off + j * 5 + 2, none⟩ = some (.string n1) ∧ W.cell? ⟨b1, off + j * 5 + 3, none⟩ = some (.int .i64 v1) ∧ W.cell? ⟨b1, off + j * 5 + 4, none⟩ = some (.slice A1 m1 cap1)) ∧
            (W.cell? ⟨b2, off2 + j * 5, none⟩ = some (.int .i64 k2) ∧ W.cell? ⟨b2, off2 + j * 5 + 1, none⟩ = some (.int .i64 o2) ∧ W.cell? ⟨b2, off2 + j * 5 + 2, none⟩ = some (.string n2) ∧ W.cell? ⟨b2, off2 + j * 5 + 3, none⟩ = some (.int .i64 v2) ∧ W.cell? ⟨b2, off2 + j * 5 + 4, none⟩ = some (.slice A2 m2 cap2)))
            (first | exact HC.out _ hB | exact HC.out _ (below_drews _ _ 1))
            (first
            | (go_at_call 60; refine (HS.out _ hB).mono ?_; rintro e W ⟨rfl, hb5⟩; replace hB := hB.trans (hb5.mono hB.size)))
          go_wp2_with fail
          go_meet
          exact ⟨rfl, hB⟩
        case rest =>
          obtain ⟨rfl, hbx⟩ := hcut
          have HB5 := Lib.hid (HB.out.trans (hbx.mono HB.out.size))
          clear HS HC hbx x0 x1 x2 x3 x4 q0 q1 q2 q3 q4
          go_wp2_with fail
          exact ⟨⟨rfl, j + 1, by go_num, by omega, HB5.out⟩, by simp [intOf]; omega⟩
      · have hd1 : decide ((j : Int) < (xs.length : Int)) = false := decide_eq_false (by omega)
        have hd2 : decide (j < xs.length) = false := decide_eq_false hlt
        go_wp2_with fail
        go_ret
        exact ⟨rfl, HBW.out⟩
set_option maxRecDepth 100000 in
set_option maxHeartbeats 3200000 in
theorem requal_any (e : Ex) (hc : chkE e = 0) (lo : Nat) (vs us : List Value) (w : World) (hL : LiesE w lo vs e) (hM : LiesE w lo us e) (hlo : lo ≤ w.heap.size) :
    Calls Tryz.prog 31 #[.agg vs.toArray, .agg us.toArray] w (Ret (.bool true) w) := by
  have HC1 := Lib.hid (fun (W : World) (hb : Below w.heap.size w W) => rcheck_any e hc lo vs W (hL.below' hb hlo) (Nat.le_trans hlo hb.size))
  have HC2 := Lib.hid (fun (W : World) (hb : Below w.heap.size w W) => rcheck_any e hc lo us W (hM.below' hb hlo) (Nat.le_trans hlo hb.size))
  have HS := Lib.hid (fun (W : World) (hb : Below w.heap.size w W) => same_any e lo vs us W (hL.below' hb hlo) (hM.below' hb hlo) (Nat.le_trans hlo hb.size))
  obtain ⟨A, cap, rfl, bd, -⟩ := hL.arg
  obtain ⟨A', cap', rfl, bd', -⟩ := hM.arg
  have hO := two_new w #[.int .i64 e.kind, .int .i64 e.op, .string e.name, .int .i64 e.val, .slice A e.args.length cap] #[.int .i64 e.kind, .int .i64 e.op, .string e.name, .int .i64 e.val, .slice A' e.args.length cap'] 50 50
  unfold exC Ret at HC1 HC2 HS
  unfold exC Ret
  generalize e.kind = k at *
  generalize e.op = o at *
  generalize e.name = n at *
  generalize e.val = v at *
  generalize e.args.length = m at *
  clear hL hM bd bd' hc
  go_enter Tryz.func31, Tryz.ntmps31
  go_upto_region 1 with fail
  generalize (w.alloc _).alloc _ = w1 at hO ⊢
  obtain ⟨x0, x1, x2, x3, x4⟩ := bx5 hO.fst
  obtain ⟨q0, q1, q2, q3, q4⟩ := bx5 hO.snd
  go_wp2_with fail
  refine (HC1.out _ hO.below).mono ?_
  rintro e2 w2 ⟨rfl, hb2⟩
  clear x0 x1 x2 x3 x4 q0 q1 q2 q3 q4
  replace hO := hO.next hb2
  obtain ⟨x0, x1, x2, x3, x4⟩ := bx5 hO.fst
  obtain ⟨q0, q1, q2, q3, q4⟩ := bx5 hO.snd
  clear hb2
  go_wp2_with fail
  refine (HC2.out _ hO.below).mono ?_
  rintro e3 w3 ⟨rfl, hb3⟩
  clear x0 x1 x2 x3 x4 q0 q1 q2 q3 q4
  replace hO := hO.next hb3
  obtain ⟨x0, x1, x2, x3, x4⟩ := bx5 hO.fst
  obtain ⟨q0, q1, q2, q3, q4⟩ := bx5 hO.snd
  clear hb3
  go_wp2_with fail
  refine (HS.out _ hO.below).mono ?_
  rintro e4 w4 ⟨rfl, hb4⟩
  have HB := Lib.hid (hO.below.trans (hb4.mono hO.below.size))
  go_wp2_with fail
  go_ret
  exact ⟨rfl, HB.out⟩
set_option maxRecDepth 100000 in
set_option maxHeartbeats 12800000 in
theorem rsame_any (A A' : Option Addr) (c c' B : Nat) (rs : List Rl) (w : World) (hP : LiesP w B A c rs) (hP' : LiesP w B A' c' rs) (hB : B ≤ w.heap.size) (hv : ∀ r ∈ rs, chkE r.cond = 0 ∧ chkE r.key = 0) :
    Calls Tryz.prog 10 #[.agg #[.slice A rs.length c], .agg #[.slice A' rs.length c']] w (Ret (.bool true) w) := by
  have hl := hP.len
  have HP := Lib.hid hP
  have HP' := Lib.hid hP'
  have HVV := Lib.hid hv
  have hO := two_new w #[.slice A rs.length c] #[.slice A' rs.length c'] 24 24
  unfold Ret
  clear hP hP' hv
  go_enter Tryz.func10, Tryz.ntmps10
  go_upto_region 1 with fail
  generalize (w.alloc _).alloc _ = w1 at hO ⊢
  have x0 := hO.fst 0 _ rfl
  have q0 := hO.snd 0 _ rfl
  go_wp2_with fail
  go_loopw [4, 5] (fun r i wr => r = .bool false ∧ ∃ j : Nat, i = .int .i64 (j : Nat) ∧ j ≤ rs.length ∧ Below w1.heap.size w1 wr) (fun _ i _ => rs.length - (intOf i).toNat)
  case atStart => exact ⟨rfl, 0, rfl, Nat.zero_le _, Below.refl _ _⟩
  case round =>
    clear x0 q0
    obtain ⟨rfl, j, rfl, hj, hb⟩ := hrel
    have hj0 : (0 : Int) ≤ (j : Int) := by omega
    have hOr := hO.next hb
    have x0 := hOr.fst 0 _ rfl
    have q0 := hOr.snd 0 _ rfl
    have HOR := Lib.hid hOr
    have HBW := Lib.hid hOr.below
    have HB := Lib.hid hb
    clear hOr hb
    by_cases hlt : j < rs.length
    · have hd1 : decide ((j : Int) < (rs.length : Int)) = true := decide_eq_true (by omega)
      have hwr1 : IntKind.i64.wrap ((j : Int) + 1) = (j : Int) + 1 := by rw [IntKind.wrap_i64]; omega
      have hd2 : decide (j < rs.length) = true := decide_eq_true hlt
      have hjl : (j : Int) < (rs.length : Int) := by omega
      obtain ⟨b1, off, k1, o1, n1, v1, A1, m1, cap1, k2, o2, n2, v2, A2, m2, cap2, rfl, hb1, hL1, hL2, y0, y1, y2, y3, y4, y5, y6, y7, y8, y9⟩ := HP.out.at_ j hlt
      obtain ⟨b2, off2, k3, o3, n3, v3, A3, m3, cap3, k4, o4, n4, v4, A4, m4, cap4, rfl, hb2, hL3, hL4, z0, z1, z2, z3, z4, z5, z6, z7, z8, z9⟩ := HP'.out.at_ j hlt
      have HC : Hid (∀ W, Below wr.heap.size wr W → W.cell? ⟨w.heap.size, 0, none⟩ = some (.slice (some ⟨b1, off, none⟩) rs.length c) ∧ W.cell? ⟨w.heap.size + 1, 0, none⟩ = some (.slice (some ⟨b2, off2, none⟩) rs.length c') ∧
            (W.cell? ⟨b1, off + j * 10, none⟩ = some (.int .i64 k1) ∧ W.cell? ⟨b1, off + j * 10 + 1, none⟩ = some (.int .i64 o1) ∧ W.cell? ⟨b1, off + j * 10 + 2, none⟩ = some (.string n1) ∧ W.cell? ⟨b1, off + j * 10 + 3, none⟩ = some (.int .i64 v1) ∧ W.cell? ⟨b1, off + j * 10 + 4, none⟩ = some (.slice A1 m1 cap1)) ∧
            (W.cell? ⟨b1, off + j * 10 + 5, none⟩ = some (.int .i64 k2) ∧ W.cell? ⟨b1, off + j * 10 + 6, none⟩ = some (.int .i64 o2) ∧ W.cell? ⟨b1, off + j * 10 + 7, none⟩ = some (.string n2) ∧ W.cell? ⟨b1, off + j * 10 + 8, none⟩ = some (.int .i64 v2) ∧ W.cell? ⟨b1, off + j * 10 + 9, none⟩ = some (.slice A2 m2 cap2)) ∧
            (W.cell? ⟨b2, off2 + j * 10, none⟩ = some (.int .i64 k3) ∧ W.cell? ⟨b2, off2 + j * 10 + 1, none⟩ = some (.int .i64 o3) ∧ W.cell? ⟨b2, off2 + j * 10 + 2, none⟩ = some (.string n3) ∧ W.cell? ⟨b2, off2 + j * 10 + 3, none⟩ = some (.int .i64 v3) ∧ W.cell? ⟨b2, off2 + j * 10 + 4, none⟩ = some (.slice A3 m3 cap3)) ∧
            (W.cell? ⟨b2, off2 + j * 10 + 5, none⟩ = some (.int .i64 k4) ∧ W.cell? ⟨b2, off2 + j * 10 + 6, none⟩ = some (.int .i64 o4) ∧ W.cell? ⟨b2, off2 + j * 10 + 7, none⟩ = some (.string n4) ∧ W.cell? ⟨b2, off2 + j * 10 + 8, none⟩ = some (.int .i64 v4) ∧ W.cell? ⟨b2, off2 + j * 10 + 9, none⟩ = some (.slice A4 m4 cap4))) := Lib.hid (fun W hW => by
        have h1 := HBW.out.trans (hW.mono HBW.out.size)
        have h2 := HOR.out.next hW
        exact ⟨h2.fst 0 _ rfl, h2.snd 0 _ rfl, ⟨(h1.cell (p := ⟨b1, off + j * 10, none⟩) (by show b1 < w.heap.size; omega)).trans y0, (h1.cell (p := ⟨b1, off + j * 10 + 1, none⟩) (by show b1 < w.heap.size; omega)).trans y1, (h1.cell (p := ⟨b1, off + j * 10 + 2, none⟩) (by show b1 < w.heap.size; omega)).trans y2, (h1.cell (p := ⟨b1, off + j * 10 + 3, none⟩) (by show b1 < w.heap.size; omega)).trans y3, (h1.cell (p := ⟨b1, off + j * 10 + 4, none⟩) (by show b1 < w.heap.size; omega)).trans y4⟩, ⟨(h1.cell (p := ⟨b1, off + j * 10 + 5, none⟩) (by show b1 < w.heap.size; omega)).trans y5, (h1.cell (p := ⟨b1, off + j * 10 + 6, none⟩) (by show b1 < w.heap.size; omega)).trans y6, (h1.cell (p := ⟨b1, off + j * 10 + 7, none⟩) (by show b1 < w.heap.size; omega)).trans y7, (h1.cell (p := ⟨b1, off + j * 10 + 8, none⟩) (by show b1 < w.heap.size; omega)).trans y8, (h1.cell (p := ⟨b1, off + j * 10 + 9, none⟩) (by show b1 < w.heap.size; omega)).trans y9⟩, ⟨(h1.cell (p := ⟨b2, off2 + j * 10, none⟩) (by show b2 < w.heap.size; omega)).trans z0, (h1.cell (p := ⟨b2, off2 + j * 10 + 1, none⟩) (by show b2 < w.heap.size; omega)).trans z1, (h1.cell (p := ⟨b2, off2 + j * 10 + 2, none⟩) (by show b2 < w.heap.size; omega)).trans z2, (h1.cell (p := ⟨b2, off2 + j * 10 + 3, none⟩) (by show b2 < w.heap.size; omega)).trans z3, (h1.cell (p := ⟨b2, off2 + j * 10 + 4, none⟩) (by show b2 < w.heap.size; omega)).trans z4⟩, ⟨(h1.cell (p := ⟨b2, off2 + j * 10 + 5, none⟩) (by show b2 < w.heap.size; omega)).trans z5, (h1.cell (p := ⟨b2, off2 + j * 10 + 6, none⟩) (by show b2 < w.heap.size; omega)).trans z6, (h1.cell (p := ⟨b2, off2 + j * 10 + 7, none⟩) (by show b2 < w.heap.size; omega)).trans z7, (h1.cell (p := ⟨b2, off2 + j * 10 + 8, none⟩) (by show b2 < w.heap.size; omega)).trans z8, (h1.cell (p := ⟨b2, off2 + j * 10 + 9, none⟩) (by show b2 < w.heap.size; omega)).trans z9⟩⟩)
      obtain ⟨hv1, hv2⟩ := HVV.out rs[j] (List.getElem_mem hlt)
      have hs1 := fun (W : World) (hW : Below wr.heap.size wr W) => requal_any rs[j].cond hv1 B _ _ W ((hL1.below' HBW.out hB).below' hW (Nat.le_trans hB HBW.out.size)) ((hL3.below' HBW.out hB).below' hW (Nat.le_trans hB HBW.out.size)) (Nat.le_trans (Nat.le_trans hB HBW.out.size) hW.size)
      have hs2 := fun (W : World) (hW : Below wr.heap.size wr W) => requal_any rs[j].key hv2 B _ _ W ((hL2.below' HBW.out hB).below' hW (Nat.le_trans hB HBW.out.size)) ((hL4.below' HBW.out hB).below' hW (Nat.le_trans hB HBW.out.size)) (Nat.le_trans (Nat.le_trans hB HBW.out.size) hW.size)
      unfold exC Ret at hs1 hs2
      have HS : Hid (∀ W, Below wr.heap.size wr W → ∀ x y : Array Value, (x = #[.int .i64 k1, .int .i64 o1, .string n1, .int .i64 v1, .slice A1 m1 cap1] ∧ y = #[.int .i64 k3, .int .i64 o3, .string n3, .int .i64 v3, .slice A3 m3 cap3]) ∨ (x = #[.int .i64 k2, .int .i64 o2, .string n2, .int .i64 v2, .slice A2 m2 cap2] ∧ y = #[.int .i64 k4, .int .i64 o4, .string n4, .int .i64 v4, .slice A4 m4 cap4]) →
          Calls Tryz.prog 31 #[.agg x, .agg y] W fun e w' => e = .returned (.bool true) ∧ Below W.heap.size W w') := Lib.hid (fun W hW x y h => by
        rcases h with ⟨rfl, rfl⟩ | ⟨rfl, rfl⟩
        · exact hs1 W hW
        · exact hs2 W hW)
      clear hs1 hs2 hL1 hL2 hL3 hL4 y0 y1 y2 y3 y4 y5 y6 y7 y8 y9 z0 z1 z2 z3 z4 z5 z6 z7 z8 z9 hv1 hv2
      go_upto_region 6 with fail
      go_cut [49] (fun r wx => r = .bool false ∧ Below wr.heap.size wr wx)
      case first =>
        have hB : Below wr.heap.size wr wr.drew := below_drews _ _ 1
        go_region_held3 (fun W => W.cell? ⟨w.heap.size, 0, none⟩ = some (.slice (some ⟨b1, off, none⟩) rs.length c) ∧ W.cell? ⟨w.heap.size + 1, 0, none⟩ = some (.slice (some ⟨b2, off2, none⟩) rs.length c') ∧
            (W.cell? ⟨b1, off + j * 10, none⟩ = some (.int .i64 k1) ∧ W.cell? ⟨b1, off + j * 10 + 1, none⟩ = some (.int .i64 o1) ∧ W.cell? ⟨b1, off + j * 10 + 2, none⟩ = some (.string n1) ∧ W.cell? ⟨b1, off + j * 10 + 3, none⟩ = some (.int .i64 v1) ∧ W.cell? ⟨b1, off + j * 10 + 4, none⟩ = some (.slice A1 m1 cap1)) ∧
            (W.cell? ⟨b1, off + j * 10 + 5, none⟩ = some (.int .i64 k2) ∧ W.cell? ⟨b1, off + j * 10 + 6, none⟩ = some (.int .i64 o2) ∧ W.cell? ⟨b1, off + j * 10 + 7, none⟩ = some (.string n2) ∧ W.cell? ⟨b1, off + j * 10 + 8, none⟩ = some (.int .i64 v2) ∧ W.cell? ⟨b1, off + j * 10 + 9, none⟩ = some (.slice A2 m2 cap2)) ∧
            (W.cell? ⟨b2, off2 + j * 10, none⟩ = some (.int .i64 k3) ∧ W.cell? ⟨b2, off2 + j * 10 + 1, none⟩ = some (.int .i64 o3) ∧ W.cell? ⟨b2, off2 + j * 10 + 2, none⟩ = some (.string n3) ∧ W.cell? ⟨b2, off2 + j * 10 + 3, none⟩ = some (.int .i64 v3) ∧ W.cell? ⟨b2, off2 + j * 10 + 4, none⟩ = some (.slice A3 m3 cap3)) ∧
            (W.cell? ⟨b2, off2 + j * 10 + 5, none⟩ = some (.int .i64 k4) ∧ W.cell? ⟨b2, off2 + j * 10 + 6, none⟩ = some (.int .i64 o4) ∧ W.cell? ⟨b2, off2 + j * 10 + 7, none⟩ = some (.string n4) ∧ W.cell? ⟨b2, off2 + j * 10 + 8, none⟩ = some (.int .i64 v4) ∧ W.cell? ⟨b2, off2 + j * 10 + 9, none⟩ = some (.slice A4 m4 cap4)))
          (first | exact HC.out _ hB | exact HC.out _ (below_drews _ _ 1))
          (first
          | (go_at_call 31; refine (HS.out _ hB _ _ (by first | exact .inl ⟨rfl, rfl⟩ | exact .inr ⟨rfl, rfl⟩)).mono ?_; rintro e W ⟨rfl, hb5⟩; replace hB := hB.trans (hb5.mono hB.size)))
        go_wp2_with fail
        go_meet
        exact ⟨rfl, hB⟩
      case rest =>
        obtain ⟨rfl, hbx⟩ := hcut
        have HB5 := Lib.hid (HB.out.trans (hbx.mono HB.out.size))
        clear HS HC hbx x0 q0
        go_wp2_with fail
        exact ⟨⟨rfl, j + 1, by go_num, by omega, HB5.out⟩, by simp [intOf]; omega⟩
    · have hd1 : decide ((j : Int) < (rs.length : Int)) = false := decide_eq_false (by omega)
      have hd2 : decide (j < rs.length) = false := decide_eq_false hlt
      go_wp2_with fail
      go_ret
      exact ⟨rfl, HBW.out⟩
end Go.Proofs.YtgdpjmckpjkmeaaGreatDoor
