/- policy.Check, walked. Conditions: the policy lies in memory. -/
import Derived.Test.YtkiilaajomjinaaGreatDoorPrBnd
namespace Go.Proofs.YtkiilaajomjinaaGreatDoor
open Go.RowKit
def tyB (bs : List Bd) (e : Ex) (t : Int) : Nat := match typeE bs e with | .er f => f | .ok n => if n = t then 0 else 15
theorem tyB_kd (e : Ex) (t : Int) : tyB kdB e t = tyE e t := rfl
set_option maxRecDepth 100000 in
set_option maxHeartbeats 1600000 in
theorem pck1_any (bs : List Bd) (V : BdOk bs) (Ab : Option Addr) (cb Bb g : Nat) (t : Int) (e : Ex) (lo : Nat) (vs : List Value) (w : World) (hL : LiesE w lo vs e) (hlo : lo ≤ w.heap.size) (hR : RdB w Bb Ab bs) (hBb : Bb ≤ w.heap.size) (hg : w.cell? ⟨g, 0, none⟩ = some (.slice Ab bs.length cb)) :
    Calls Tryz.prog 41 #[.agg vs.toArray, .int .i64 t, .pointer (some ⟨g, 0, none⟩)] w (Ret (.int .i64 (tyB bs e t : Nat)) w) := by
  have HTY0 : ∀ W, Below w.heap.size w W → Calls Tryz.prog 42 #[.agg vs.toArray, .slice Ab bs.length cb] W (Ret (ansV (typeE bs e)) W) := fun W hW => typeV_any bs V Ab cb Bb e lo vs W (hL.below' hW hlo) (Nat.le_trans hlo hW.size) (Rd.below' hR hW hBb) (Nat.le_trans hBb hW.size)
  obtain ⟨A, cap, rfl, bd, -⟩ := hL.arg
  have HTY := Lib.hid HTY0
  have hO := one_new w #[.int .i64 e.kind, .int .i64 e.op, .string e.name, .int .i64 e.val, .slice A e.args.length cap] 51
  have hga := (World.cell?_alloc_lt w (.cells #[.int .i64 e.kind, .int .i64 e.op, .string e.name, .int .i64 e.val, .slice A e.args.length cap] 51) ⟨g, 0, none⟩ (World.block_lt_of_cell? _ _ hg)).trans hg
  clear hL hR bd V HTY0 hg
  unfold exC ansV Ret at HTY
  unfold exC Ret
  cases ht : typeE bs e with
  | er f =>
    have hf0 := typeE_ne bs e f ht
    have e1 : ((f : Int) == 0) = false := by simpa using hf0
    have e2 : (f == 0) = false := by simpa using hf0
    have HV : Hid (tyB bs e t = f) := Lib.hid (by unfold tyB; rw [ht])
    rw [ht] at HTY
    simp only [Ans.n, Ans.f] at HTY
    clear hf0 ht
    go_enter Tryz.func41, Tryz.ntmps41
    go_upto_region 1 with fail
    generalize w.alloc _ = w1 at hO hga ⊢
    obtain ⟨x0, x1, x2, x3, x4⟩ := bx5 hO.fst
    go_wp2_with fail
    refine (HTY.out _ hO.below).mono ?_
    rintro e5 w5 ⟨rfl, hb5⟩
    clear x0 x1 x2 x3 x4 hga
    have HB := Lib.hid (hO.below.trans (hb5.mono hO.below.size))
    clear hb5 hO
    go_wp2_with fail
    go_ret
    exact ⟨by rw [HV.out]; rfl, HB.out⟩
  | ok n =>
    rw [ht] at HTY
    simp only [Ans.n, Ans.f] at HTY
    by_cases hn : n = t
    · have HV : Hid (tyB bs e t = 0) := Lib.hid (by unfold tyB; rw [ht]; simp only; rw [if_pos hn])
      have e1 : (n != t) = false := by simpa using hn
      clear ht hn
      go_enter Tryz.func41, Tryz.ntmps41
      go_upto_region 1 with fail
      generalize w.alloc _ = w1 at hO hga ⊢
      obtain ⟨x0, x1, x2, x3, x4⟩ := bx5 hO.fst
      go_wp2_with fail
      refine (HTY.out _ hO.below).mono ?_
      rintro e5 w5 ⟨rfl, hb5⟩
      clear x0 x1 x2 x3 x4 hga
      have HB := Lib.hid (hO.below.trans (hb5.mono hO.below.size))
      clear hb5 hO
      go_wp2_with fail
      go_ret
      exact ⟨by rw [HV.out]; rfl, HB.out⟩
    · have HV : Hid (tyB bs e t = 15) := Lib.hid (by unfold tyB; rw [ht]; simp only; rw [if_neg hn])
      have e1 : (n != t) = true := by simpa using hn
      clear ht hn
      go_enter Tryz.func41, Tryz.ntmps41
      go_upto_region 1 with fail
      generalize w.alloc _ = w1 at hO hga ⊢
      obtain ⟨x0, x1, x2, x3, x4⟩ := bx5 hO.fst
      go_wp2_with fail
      refine (HTY.out _ hO.below).mono ?_
      rintro e5 w5 ⟨rfl, hb5⟩
      clear x0 x1 x2 x3 x4 hga
      have HB := Lib.hid (hO.below.trans (hb5.mono hO.below.size))
      clear hb5 hO
      go_wp2_with fail
      go_ret
      exact ⟨by rw [HV.out]; rfl, HB.out⟩
theorem chkR_at {rs : List Rl} {j : Nat} (h0 : chkR (rs.take j) = 0) (hj : j < rs.length) : (tyE rs[j].cond 2 ≠ 0 → chkR rs = tyE rs[j].cond 2) ∧ (tyE rs[j].cond 2 = 0 → tyE rs[j].key 1 ≠ 0 → chkR rs = tyE rs[j].key 1) ∧ (tyE rs[j].cond 2 = 0 → tyE rs[j].key 1 = 0 → chkR (rs.take (j + 1)) = 0) := by
  have e : chkR rs = chkR (rs.drop j) := by
    conv => lhs; rw [← List.take_append_drop j rs]
    rw [chkR_append, if_pos h0]
  rw [List.drop_eq_getElem_cons hj] at e
  refine ⟨fun h => ?_, fun h1 h2 => ?_, fun h1 h2 => ?_⟩
  · rw [e, chkR, if_neg h]
  · rw [e, chkR, if_pos h1, if_neg h2]
  · rw [List.take_add_one, List.getElem?_eq_getElem hj, chkR_append, if_pos h0]
    simp [chkR, h1, h2]
theorem bx10 {W : World} {g : Nat} {a b c d e f h i j k : Value} (hb : Bx W g [a, b, c, d, e, f, h, i, j, k]) : W.cell? ⟨g, 0, none⟩ = some a ∧ W.cell? ⟨g, 1, none⟩ = some b ∧ W.cell? ⟨g, 2, none⟩ = some c ∧ W.cell? ⟨g, 3, none⟩ = some d ∧ W.cell? ⟨g, 4, none⟩ = some e ∧ W.cell? ⟨g, 5, none⟩ = some f ∧ W.cell? ⟨g, 6, none⟩ = some h ∧ W.cell? ⟨g, 7, none⟩ = some i ∧ W.cell? ⟨g, 8, none⟩ = some j ∧ W.cell? ⟨g, 9, none⟩ = some k := ⟨hb 0 _ rfl, hb 1 _ rfl, hb 2 _ rfl, hb 3 _ rfl, hb 4 _ rfl, hb 5 _ rfl, hb 6 _ rfl, hb 7 _ rfl, hb 8 _ rfl, hb 9 _ rfl⟩
set_option maxRecDepth 100000 in
set_option maxHeartbeats 3200000 in
theorem pck_any (A : Option Addr) (c B : Nat) (rs : List Rl) (w : World) (hP : LiesP w B A c rs) (hB : B ≤ w.heap.size) :
    Calls Tryz.prog 12 #[.agg #[.slice A rs.length c]] w (Ret (.int .i64 (chkP rs : Nat)) w) := by
  have hl := hP.len
  have HP := Lib.hid hP
  have hO := one_new w #[.slice A rs.length c] 24
  unfold Ret
  clear hP
  by_cases h16 : 16 < rs.length
  · have e1 : decide ((rs.length : Int) > 16) = true := decide_eq_true (by omega)
    have e2 : decide (16 < (rs.length : Int)) = true := decide_eq_true (by omega)
    have e3 : decide (16 < rs.length) = true := decide_eq_true h16
    have HV : Hid (chkP rs = 4) := Lib.hid (by unfold chkP; rw [if_pos h16])
    clear h16
    go_enter Tryz.func12, Tryz.ntmps12
    go_upto_region 1 with fail
    generalize w.alloc _ = w1 at hO ⊢
    have x0 := hO.fst 0 _ rfl
    go_wp2_with fail
    go_ret
    exact ⟨by rw [HV.out]; rfl, hO.below⟩
  · have e1 : decide ((rs.length : Int) > 16) = false := decide_eq_false (by omega)
    have e2 : decide (16 < (rs.length : Int)) = false := decide_eq_false (by omega)
    have e3 : decide (16 < rs.length) = false := decide_eq_false h16
    have HCP : Hid (chkP rs = chkR rs) := Lib.hid (by unfold chkP; rw [if_neg h16])
    have HK := Lib.hid (fun W => kinds_any W)
    unfold KdsR at HK
    obtain ⟨ks, hks⟩ : ∃ ks, ks = kdB := ⟨_, rfl⟩
    rw [← hks] at HK
    have HKS := Lib.hid hks
    have hmf : ∀ (fn : Fn) (first cap : Array Value) (w : World), (Instr.makeFunc fn first cap).run Tryz.prog w = .ok (.func fn first cap) w := fun _ _ _ _ => rfl
    clear h16 hks
    go_enter Tryz.func12, Tryz.ntmps12
    go_upto_region 1 with fail
    generalize w.alloc _ = w1 at hO ⊢
    have x0 := hO.fst 0 _ rfl
    go_wp2_with fail
    refine (HK.out _).mono ?_
    rintro e w2 ⟨Ak, ck, rfl, hb2, hRk⟩
    clear x0
    replace hO := hO.next hb2
    have hO2 := one_new w2 #[.slice Ak ks.length ck] 39
    have hO1 := hO.next (below_alloc w2 (.cells #[.slice Ak ks.length ck] 39))
    have HRK : Hid (RdB (w2.alloc (.cells #[.slice Ak ks.length ck] 39)) w2.heap.size Ak ks) := Lib.hid (Rd.below' hRk (below_alloc _ _) (Nat.le_refl _))
    have hz2 := hO.size
    clear hb2 hRk hO HK
    go_upto_region 5 with fail
    generalize w2.alloc _ = w3 at hO1 hO2 HRK ⊢
    have x0 := hO1.fst 0 _ rfl
    have HC3 := Lib.hid (hO2.fst 0 _ rfl)
    have hz3 := hO2.size
    go_wp2_with fail
    go_loopw [2, 18] (fun r i wr => r = .int .i64 0 ∧ ∃ j : Nat, i = .int .i64 (j : Nat) ∧ j ≤ rs.length ∧ Hid (chkR (rs.take j) = 0) ∧ Below w3.heap.size w3 wr) (fun _ i _ => rs.length - (intOf i).toNat)
    case atStart => exact ⟨rfl, 0, rfl, Nat.zero_le _, Lib.hid rfl, Below.refl _ _⟩
    case round =>
      obtain ⟨rfl, j, rfl, hj, hck, hb⟩ := hrel
      have hj0 : (0 : Int) ≤ (j : Int) := by omega
      have HBW : Hid (Below w.heap.size w wr) := Lib.hid (hO1.below.trans (hb.mono hO1.below.size))
      by_cases hlt : j < rs.length
      · have hd1 : decide ((j : Int) < (rs.length : Int)) = true := decide_eq_true (by omega)
        have hwr1 : IntKind.i64.wrap ((j : Int) + 1) = (j : Int) + 1 := by rw [IntKind.wrap_i64]; omega
        have hd2 : decide (j < rs.length) = true := decide_eq_true hlt
        have hjl : (j : Int) < (rs.length : Int) := by omega
        obtain ⟨b, off, k, o, n, v, A1, m1, c1, k2, o2, n2, v2, A2, m2, c2, rfl, hb1, hL1, hL2, y0, y1, y2, y3, y4, y5, y6, y7, y8, y9⟩ := (HP.out.below' HBW.out hB).at_ j hlt
        have hO4 := one_new wr #[.int .i64 k, .int .i64 o, .string n, .int .i64 v, .slice A1 m1 c1, .int .i64 k2, .int .i64 o2, .string n2, .int .i64 v2, .slice A2 m2 c2] 53
        have HB := Lib.hid hb
        have hlo : B ≤ wr.heap.size := Nat.le_trans hB HBW.out.size
        have HSTEP := Lib.hid (chkR_at hck.out hlt)
        have HT1 : Hid (∀ W, Below wr.heap.size wr W → Calls Tryz.prog 41 #[.agg (exC k o n v A1 m1 c1).toArray, .int .i64 2, .pointer (some ⟨w2.heap.size, 0, none⟩)] W (Ret (.int .i64 (tyE rs[j].cond 2 : Nat)) W)) := Lib.hid (fun W hW => by
          have hV : BdOk ks := by rw [HKS.out]; exact bdok_kd
          have h3 := HB.out.trans (hW.mono HB.out.size)
          have := pck1_any ks hV Ak ck w2.heap.size w2.heap.size 2 rs[j].cond B _ W (hL1.below' hW hlo) (Nat.le_trans hlo hW.size) (Rd.below' HRK.out h3 (by omega)) (by have := h3.size; omega) ((h3.cell (p := ⟨w2.heap.size, 0, none⟩) (by show w2.heap.size < w3.heap.size; omega)).trans HC3.out)
          rwa [show tyB ks rs[j].cond 2 = tyE rs[j].cond 2 from by rw [HKS.out]; rfl] at this)
        have HT2 : Hid (∀ W, Below wr.heap.size wr W → Calls Tryz.prog 41 #[.agg (exC k2 o2 n2 v2 A2 m2 c2).toArray, .int .i64 1, .pointer (some ⟨w2.heap.size, 0, none⟩)] W (Ret (.int .i64 (tyE rs[j].key 1 : Nat)) W)) := Lib.hid (fun W hW => by
          have hV : BdOk ks := by rw [HKS.out]; exact bdok_kd
          have h3 := HB.out.trans (hW.mono HB.out.size)
          have := pck1_any ks hV Ak ck w2.heap.size w2.heap.size 1 rs[j].key B _ W (hL2.below' hW hlo) (Nat.le_trans hlo hW.size) (Rd.below' HRK.out h3 (by omega)) (by have := h3.size; omega) ((h3.cell (p := ⟨w2.heap.size, 0, none⟩) (by show w2.heap.size < w3.heap.size; omega)).trans HC3.out)
          rwa [show tyB ks rs[j].key 1 = tyE rs[j].key 1 from by rw [HKS.out]; rfl] at this)
        generalize tyE rs[j].cond 2 = f1 at HT1 HSTEP
        generalize tyE rs[j].key 1 = f2 at HT2 HSTEP
        unfold exC Ret at HT1 HT2
        have HO1 := Lib.hid hO1
        have HO2 := Lib.hid hO2
        clear hb hck hL1 hL2 x0 hO1 hO2
        go_upto_region 8 with fail
        clear y0 y1 y2 y3 y4 y5 y6 y7 y8 y9
        generalize wr.alloc _ = w4 at hO4 ⊢
        obtain ⟨q0, q1, q2, q3, q4, q5, q6, q7, q8, q9⟩ := bx10 hO4.fst
        by_cases h1 : f1 = 0
        rotate_left
        · have e1 : ((f1 : Int) != 0) = true := by simpa using h1
          have e2 : (f1 != 0) = true := by simpa using h1
          have HV := Lib.hid (HSTEP.out.1 h1)
          clear h1
          go_wp2_with fail
          refine (HT1.out _ hO4.below).mono ?_
          rintro e w5 ⟨rfl, hb5⟩
          have HB9 := Lib.hid (HBW.out.trans ((hO4.below.trans (hb5.mono hO4.below.size)).mono HBW.out.size))
          clear q0 q1 q2 q3 q4 q5 q6 q7 q8 q9 hb5 hO4
          go_wp2_with fail
          go_ret
          exact ⟨by rw [HCP.out, HV.out]; rfl, HB9.out⟩
        · subst h1
          go_wp2_with fail
          refine (HT1.out _ hO4.below).mono ?_
          rintro e w5 ⟨rfl, hb5⟩
          replace hO4 := hO4.next hb5
          clear q0 q1 q2 q3 q4 q5 q6 q7 q8 q9 hb5
          obtain ⟨q0, q1, q2, q3, q4, q5, q6, q7, q8, q9⟩ := bx10 hO4.fst
          by_cases h2 : f2 = 0
          rotate_left
          · have e1 : ((f2 : Int) != 0) = true := by simpa using h2
            have e2 : (f2 != 0) = true := by simpa using h2
            have HV := Lib.hid (HSTEP.out.2.1 (by first | rfl | exact True.intro) h2)
            clear h2
            go_wp2_with fail
            refine (HT2.out _ hO4.below).mono ?_
            rintro e w6 ⟨rfl, hb6⟩
            have HB9 := Lib.hid (HBW.out.trans ((hO4.below.trans (hb6.mono hO4.below.size)).mono HBW.out.size))
            clear q0 q1 q2 q3 q4 q5 q6 q7 q8 q9 hb6 hO4
            go_wp2_with fail
            go_ret
            exact ⟨by rw [HCP.out, HV.out]; rfl, HB9.out⟩
          · subst h2
            have HV := Lib.hid (HSTEP.out.2.2 (by first | rfl | exact True.intro) (by first | rfl | exact True.intro))
            go_wp2_with fail
            refine (HT2.out _ hO4.below).mono ?_
            rintro e w6 ⟨rfl, hb6⟩
            have HB9 := Lib.hid (HB.out.trans ((hO4.below.trans (hb6.mono hO4.below.size)).mono HB.out.size))
            clear q0 q1 q2 q3 q4 q5 q6 q7 q8 q9 hb6 hO4
            go_wp2_with fail
            exact ⟨⟨rfl, j + 1, by go_num, by omega, Lib.hid HV.out, HB9.out⟩, by simp [intOf]; omega⟩
      · have hd1 : decide ((j : Int) < (rs.length : Int)) = false := decide_eq_false (by omega)
        have hd2 : decide (j < rs.length) = false := decide_eq_false hlt
        have HV : Hid (chkR rs = 0) := Lib.hid (by
          have := hck.out
          rwa [List.take_of_length_le (by omega)] at this)
        clear hck
        go_wp2_with fail
        go_ret
        exact ⟨by rw [HCP.out, HV.out]; rfl, HBW.out⟩
end Go.Proofs.YtkiilaajomjinaaGreatDoor
