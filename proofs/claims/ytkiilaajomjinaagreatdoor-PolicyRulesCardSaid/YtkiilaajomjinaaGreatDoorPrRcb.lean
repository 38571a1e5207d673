/- PolicyRules, walked, behind its first tests. Conditions: the policy, the rule and the attributes lie in memory; the example gives true. -/
import Derived.Test.YtkiilaajomjinaaGreatDoorPrRca
namespace Go.Proofs.YtkiilaajomjinaaGreatDoor
open Go.RowKit
set_option maxRecDepth 100000 in
set_option maxHeartbeats 12800000 in
theorem rules_main (A : Option Addr) (c B : Nat) (rs : List Rl) (cs : List Value) (r : Rl) (Al : Option Addr) (cl : Nat) (ls : List At) (at_ : Nat) (w : World) (hP : LiesP w B A c rs) (hB : B ≤ w.heap.size) (hR : RuleB B w cs r) (hL : LiesA w B Al cl ls)
    (hAW : ∀ W, Below w.heap.size w W → Calls Tryz.prog 7 #[] W (Ret (.bool true) W)) (hat : at_ < 256) (hg : grtP rs = false) (hg2 : grtP [r] = false) (h12 : ls.length ≤ 12) (h16 : rs.length < 16) :
    Calls Tryz.prog 5 #[.agg #[.slice A rs.length c], .agg cs.toArray, .slice Al ls.length cl, .int .u8 (at_ : Nat)] w (Ret (.bool true) w) := by
  have hll := hL.len
  have hrl := hP.len
  have HGR := Lib.hid (fun (W : World) (hW : Below w.heap.size w W) => great_any A c B rs W (hP.below' hW hB) (Nat.le_trans hB hW.size))
  have HRB0 := Lib.hid (fun (W : World) (hW : Below w.heap.size w W) => hR.below' hW hB)
  have HP0 := Lib.hid (fun (W : World) (hW : Below w.heap.size w W) => hP.below' hW hB)
  have HL0 := Lib.hid (fun (W : World) (hW : Below w.heap.size w W) => hL.below' hW hB)
  have HAW := Lib.hid hAW
  obtain ⟨k1, o1, n1, v1, A1, m1, c1, k2, o2, n2, v2, A2, m2, c2, rfl, -, hE2⟩ := hR
  have HE2 := Lib.hid (fun (W : World) (hW : Below w.heap.size w W) => hE2.below' hW hB)
  clear hE2
  simp only [exC, List.cons_append, List.nil_append] at HRB0 ⊢
  have HGO := Lib.hid (fun (W : World) (hW : Below w.heap.size w W) => great_any (some ⟨W.heap.size, 0, none⟩) 1 (W.heap.size + 1) [r] (W.alloc (.cells #[.int .i64 k1, .int .i64 o1, .string n1, .int .i64 v1, .slice A1 m1 c1, .int .i64 k2, .int .i64 o2, .string n2, .int .i64 v2, .slice A2 m2 c2] 53)) (lies_one (B := B) (HRB0.out _ (hW.trans ((below_alloc W (.cells #[.int .i64 k1, .int .i64 o1, .string n1, .int .i64 v1, .slice A1 m1 c1, .int .i64 k2, .int .i64 o2, .string n2, .int .i64 v2, .slice A2 m2 c2] 53)).mono hW.size))) (heap_alloc_new W _) (Nat.le_trans hB hW.size)) (by simp))
  have hO := three_new w #[.slice A rs.length c] #[.int .i64 k1, .int .i64 o1, .string n1, .int .i64 v1, .slice A1 m1 c1, .int .i64 k2, .int .i64 o2, .string n2, .int .i64 v2, .slice A2 m2 c2] #[.slice Al ls.length cl] 24 53 35
  unfold Ret at HGR HGO HAW
  unfold Ret
  clear hP hL hAW
  rw [hg] at HGR
  rw [hg2] at HGO
  have d1 : decide ((ls.length : Int) > 12) = false := decide_eq_false (by omega)
  have d2 : decide (12 < (ls.length : Int)) = false := decide_eq_false (by omega)
  have d3 : decide (12 < ls.length) = false := decide_eq_false (by omega)
  have f1 : decide ((rs.length : Int) ≥ 16) = false := decide_eq_false (by omega)
  have f2 : decide (16 ≤ (rs.length : Int)) = false := decide_eq_false (by omega)
  have f3 : decide (16 ≤ rs.length) = false := decide_eq_false (by omega)
  clear hg hg2
  go_enter Tryz.func5, Tryz.ntmps5
  go_upto_region 1 with fail
  generalize World.alloc _ _ = w1 at hO ⊢
  have x0 := hO.two.fst 0 _ rfl
  obtain ⟨q0, q1, q2, q3, q4, q5, q6, q7, q8, q9⟩ := bx10 hO.two.snd
  have l0 := hO.thd 0 _ rfl
  go_wp2_with fail
  refine (HGR.out _ hO.two.below).mono ?_
  rintro e w2 ⟨rfl, hb2⟩
  clear x0 q0 q1 q2 q3 q4 q5 q6 q7 q8 q9 l0
  replace hO := hO.next hb2
  clear hb2
  have x0 := hO.two.fst 0 _ rfl
  obtain ⟨q0, q1, q2, q3, q4, q5, q6, q7, q8, q9⟩ := bx10 hO.two.snd
  have l0 := hO.thd 0 _ rfl
  have HG2 := Lib.hid (HGO.out w2 hO.two.below)
  replace hO := hO.next (below_alloc w2 (.cells #[.int .i64 k1, .int .i64 o1, .string n1, .int .i64 v1, .slice A1 m1 c1, .int .i64 k2, .int .i64 o2, .string n2, .int .i64 v2, .slice A2 m2 c2] 53))
  go_wp2_with fail
  refine HG2.out.mono ?_
  rintro e w3 ⟨rfl, hb3⟩
  clear x0 q0 q1 q2 q3 q4 q5 q6 q7 q8 q9 l0
  replace hO := hO.next hb3
  clear hb3 HG2
  have HL16 := Lib.hid h16
  have HL12 := Lib.hid h12
  have x0 := hO.two.fst 0 _ rfl
  obtain ⟨q0, q1, q2, q3, q4, q5, q6, q7, q8, q9⟩ := bx10 hO.two.snd
  have l0 := hO.thd 0 _ rfl
  go_upto_region 3 with fail
  go_wp2_with fail
  refine (order_any A c B rs Al cl ls w3 (HP0.out _ hO.two.below) (Nat.le_trans hB hO.two.below.size) (HL0.out _ hO.two.below) h12).mono ?_
  rintro e w4 h4
  obtain ⟨hb4, A9, n9, c9, f9, rfl, HQ9⟩ := ordR_form h4
  clear x0 q0 q1 q2 q3 q4 q5 q6 q7 q8 q9 l0
  clear h4 d1 d2 d3 f1 f2 f3 HGR HGO
  replace hO := hO.next hb4
  clear hb4
  have x0 := hO.two.fst 0 _ rfl
  obtain ⟨q0, q1, q2, q3, q4, q5, q6, q7, q8, q9⟩ := bx10 hO.two.snd
  have l0 := hO.thd 0 _ rfl
  obtain ⟨rs2, hrs2⟩ : ∃ rs2, rs2 = rs ++ [r] := ⟨_, rfl⟩
  have HRS2 := Lib.hid hrs2
  clear hrs2
  have HO4 := Lib.hid hO
  have HC : Hid (∀ W, Below w4.heap.size w4 W → W.cell? ⟨w.heap.size, 0, none⟩ = some (.slice A rs.length c) ∧ (W.cell? ⟨w.heap.size + 1, 0, none⟩ = some (.int .i64 k1) ∧ W.cell? ⟨w.heap.size + 1, 1, none⟩ = some (.int .i64 o1) ∧ W.cell? ⟨w.heap.size + 1, 2, none⟩ = some (.string n1) ∧ W.cell? ⟨w.heap.size + 1, 3, none⟩ = some (.int .i64 v1) ∧ W.cell? ⟨w.heap.size + 1, 4, none⟩ = some (.slice A1 m1 c1) ∧ W.cell? ⟨w.heap.size + 1, 5, none⟩ = some (.int .i64 k2) ∧ W.cell? ⟨w.heap.size + 1, 6, none⟩ = some (.int .i64 o2) ∧ W.cell? ⟨w.heap.size + 1, 7, none⟩ = some (.string n2) ∧ W.cell? ⟨w.heap.size + 1, 8, none⟩ = some (.int .i64 v2) ∧ W.cell? ⟨w.heap.size + 1, 9, none⟩ = some (.slice A2 m2 c2)) ∧ W.cell? ⟨w.heap.size + 2, 0, none⟩ = some (.slice Al ls.length cl)) := Lib.hid (fun W hW => by
    have h := HO4.out.next hW
    exact ⟨h.two.fst 0 _ rfl, bx10 h.two.snd, h.thd 0 _ rfl⟩)
  have HBW4 := Lib.hid (fun (W : World) (hW : Below w4.heap.size w4 W) => HO4.out.two.below.trans (hW.mono HO4.out.two.below.size))
  have hB4 : B ≤ w4.heap.size := Nat.le_trans hB HO4.out.two.below.size
  have HB4 := Lib.hid hB4
  have HCL := Lib.hid (fun (W : World) (hW : Below w4.heap.size w4 W) => (rclone_any A c B rs W (HP0.out _ (HBW4.out _ hW)) (Nat.le_trans HB4.out hW.size) (by have := HL16.out; omega)).mono (fun e W' h => by
    obtain ⟨h1, v, rcs, h2, h3⟩ := h
    exact (⟨h1, v, rcs, h2, h3.more HB4.out⟩ : Below W.heap.size W W' ∧ ∃ v rcs, e = .returned v ∧ OwnQ w4.heap.size W' W.heap.size v rs rcs)))
  have HRB := Lib.hid (fun (W : World) (hW : Below w4.heap.size w4 W) => (HRB0.out _ (HBW4.out _ hW)).more HB4.out)
  have HOR2 := Lib.hid (fun (W : World) (hW : Below w4.heap.size w4 W) (A5 : Option Addr) (c5 : Nat) (h5 : LiesP W W.heap.size A5 c5 rs2) => order_any A5 c5 W.heap.size rs2 Al cl ls W h5 (Nat.le_refl _) ((HL0.out _ (HBW4.out _ hW)).more (Nat.le_trans HB4.out hW.size)) HL12.out)
  clear hB4 hO
  go_upto_region 4 with fail
  go_cut [11, 12] (fun a b wx => ∃ (A8 : Option Addr) (n8 c8 f8 : Nat), a = .slice A8 n8 c8 ∧ b = .int .i64 (f8 : Nat) ∧ Hid (OrdQ rs2 ls wx A8 n8 c8 f8) ∧ Below w4.heap.size w4 wx)
  case first =>
    have hB : Below w4.heap.size w4 w4.drew := below_drews _ _ 1
    refine wp_region_held_drew (S := fun W => W.cell? ⟨w.heap.size, 0, none⟩ = some (.slice A rs.length c) ∧ (W.cell? ⟨w.heap.size + 1, 0, none⟩ = some (.int .i64 k1) ∧ W.cell? ⟨w.heap.size + 1, 1, none⟩ = some (.int .i64 o1) ∧ W.cell? ⟨w.heap.size + 1, 2, none⟩ = some (.string n1) ∧ W.cell? ⟨w.heap.size + 1, 3, none⟩ = some (.int .i64 v1) ∧ W.cell? ⟨w.heap.size + 1, 4, none⟩ = some (.slice A1 m1 c1) ∧ W.cell? ⟨w.heap.size + 1, 5, none⟩ = some (.int .i64 k2) ∧ W.cell? ⟨w.heap.size + 1, 6, none⟩ = some (.int .i64 o2) ∧ W.cell? ⟨w.heap.size + 1, 7, none⟩ = some (.string n2) ∧ W.cell? ⟨w.heap.size + 1, 8, none⟩ = some (.int .i64 v2) ∧ W.cell? ⟨w.heap.size + 1, 9, none⟩ = some (.slice A2 m2 c2)) ∧ W.cell? ⟨w.heap.size + 2, 0, none⟩ = some (.slice Al ls.length cl)) (by kernel_rfl) ⟨x0, ⟨q0, q1, q2, q3, q4, q5, q6, q7, q8, q9⟩, l0⟩ (fun hHeld => ?_)
    have HZ0 : Hid (w4.heap.size = w4.drew.heap.size) := Lib.hid rfl
    clear x0 q0 q1 q2 q3 q4 q5 q6 q7 q8 q9 l0
    generalize w4.drew = w0 at hB hHeld HZ0 ⊢
    refine wpAnyH_take (i := 0) (v := ?_) rfl (by kernel_rfl) (by kernel_rfl) (by kernel_rfl) (fun _ _ _ h => h) (Or.inl ⟨by kernel_rfl, ?_⟩) (by assumption) ?_
    rotate_left
    · intro w hSw; (try dsimp only at hSw); go_simp; with_reducible rfl
    try simp only [List.getElem_toArray, List.getElem_cons_zero, Act.put, List.setIfInBounds_toArray, List.set_cons_zero, List.set_cons_succ]
    refine wpAnyH_take (i := 1) (v := ?_) rfl (by kernel_rfl) (by kernel_rfl) (by kernel_rfl) (fun _ _ _ h => h) (Or.inl ⟨by kernel_rfl, ?_⟩) (by assumption) ?_
    rotate_left
    · intro w hSw; (try dsimp only at hSw); go_simp; with_reducible rfl
    try simp only [List.getElem_toArray, List.getElem_cons_succ, List.getElem_cons_zero, Act.put, List.setIfInBounds_toArray, List.set_cons_zero, List.set_cons_succ]
    refine wpAnyH_take (i := 3) (v := ?_) rfl (by kernel_rfl) (by kernel_rfl) (by kernel_rfl) (fun _ _ _ h => h) (Or.inl ⟨by kernel_rfl, ?_⟩) (by assumption) ?_
    rotate_left
    · intro w hSw; (try dsimp only at hSw); go_simp; with_reducible rfl
    try simp only [List.getElem_toArray, List.getElem_cons_succ, List.getElem_cons_zero, Act.put, List.setIfInBounds_toArray, List.set_cons_zero, List.set_cons_succ]
    refine wpAnyH_take (i := 7) (v := ?_) rfl (by kernel_rfl) (by kernel_rfl) (by kernel_rfl) (fun _ _ _ h => h) (Or.inl ⟨by kernel_rfl, ?_⟩) (by assumption) ?_
    rotate_left
    · intro w hSw; (try dsimp only at hSw); go_simp; with_reducible rfl
    try simp only [List.getElem_toArray, List.getElem_cons_succ, List.getElem_cons_zero, Act.put, List.setIfInBounds_toArray, List.set_cons_zero, List.set_cons_succ]
    refine wpAnyH_ready (rs := [2, 4]) (by kernel_rfl) (by simp) ?_
    refine (AllReadyH.cons rfl (fun K hK => ?_) (AllReadyH.cons rfl (fun K hK => ?_) AllReadyH.nil))
    · clear hHeld
      go_simp
      refine (HCL.out _ hB).mono ?_
      rintro e W2 ⟨hb2, v2', rc2, rfl, hq2⟩
      obtain ⟨p2, d2, e2⟩ := own_form hq2.row
      subst e2
      replace hB := hB.trans (hb2.mono hB.size)
      clear hb2
      refine hK.out _ _ ?_ (fun hHeld => ?_)
      · exact HC.out _ hB
      clear hK K
      try simp only [List.getElem_toArray, List.getElem_cons_succ, List.getElem_cons_zero, Act.put, List.setIfInBounds_toArray, List.set_cons_zero, List.set_cons_succ]
      refine wpAnyH_ready (rs := [4]) (by kernel_rfl) (by simp) ?_
      refine AllReadyH.cons rfl (fun K hK => ?_) AllReadyH.nil
      clear hHeld
      go_simp
      have hv5 := heap_alloc_new W2 (.cells #[.int .i64 k1, .int .i64 o1, .string n1, .int .i64 v1, .slice A1 m1 c1, .int .i64 k2, .int .i64 o2, .string n2, .int .i64 v2, .slice A2 m2 c2] 53)
      have hob : (Value.slice p2 rs.length d2).ownBlock ≠ some W2.heap.size := fun e => by have := World.ownsRow.lt hq2.row _ e; omega
      replace hq2 := hq2.next (below_alloc W2 (.cells #[.int .i64 k1, .int .i64 o1, .string n1, .int .i64 v1, .slice A1 m1 c1, .int .i64 k2, .int .i64 o2, .string n2, .int .i64 v2, .slice A2 m2 c2] 53)) hB.size
      replace hB := hB.trans ((below_alloc W2 (.cells #[.int .i64 k1, .int .i64 o1, .string n1, .int .i64 v1, .slice A1 m1 c1, .int .i64 k2, .int .i64 o2, .string n2, .int .i64 v2, .slice A2 m2 c2] 53)).mono hB.size)
      have hbs5 : W2.heap.size ≤ (W2.alloc (.cells #[.int .i64 k1, .int .i64 o1, .string n1, .int .i64 v1, .slice A1 m1 c1, .int .i64 k2, .int .i64 o2, .string n2, .int .i64 v2, .slice A2 m2 c2] 53)).heap.size := by simp
      generalize W2.alloc _ = W4 at hB hv5 hq2 hbs5 ⊢
      refine hK.out _ _ ?_ (fun hHeld => ?_)
      · exact HC.out _ hB
      clear hK K
      try simp only [List.getElem_toArray, List.getElem_cons_succ, List.getElem_cons_zero, Act.put, List.setIfInBounds_toArray, List.set_cons_zero, List.set_cons_succ]
      refine wpAnyH_ready (rs := [5]) (by kernel_rfl) (by simp) ?_
      refine AllReadyH.cons rfl (fun K hK => ?_) AllReadyH.nil
      clear hHeld
      obtain ⟨A5, c5, W5, hrun5, hP5, hb5⟩ := app_rule (B := w4.heap.size) rs2 HRS2.out hq2 (Nat.le_of_eq HZ0.out) (by have := HZ0.out; have := hB.size; omega) (by have := HL16.out; omega) hv5 (HRB.out _ hB) 22
      refine step_app rfl (.tmp 50) (.tmp 52) _ rfl rfl rfl hrun5 ?_
      replace hB := hB.trans (hb5.mono (Nat.le_of_eq HZ0.out))
      clear hb5 hrun5
      refine hK.out _ _ ?_ (fun hHeld => ?_)
      · exact HC.out _ hB
      clear hK K
      try simp only [List.getElem_toArray, List.getElem_cons_succ, List.getElem_cons_zero, Act.put, List.setIfInBounds_toArray, List.set_cons_zero, List.set_cons_succ]
      refine wpAnyH_take (i := 6) (v := ?_) rfl (by kernel_rfl) (by kernel_rfl) (by kernel_rfl) (fun _ _ _ h => h) (Or.inl ⟨by kernel_rfl, ?_⟩) (by assumption) ?_
      rotate_left
      · intro w hSw; (try dsimp only at hSw); go_simp; with_reducible rfl
      try simp only [List.getElem_toArray, List.getElem_cons_succ, List.getElem_cons_zero, Act.put, List.setIfInBounds_toArray, List.set_cons_zero, List.set_cons_succ]
      refine wpAnyH_ready (rs := [8]) (by kernel_rfl) (by simp) ?_
      refine AllReadyH.cons rfl (fun K hK => ?_) AllReadyH.nil
      clear hHeld
      go_simp
      refine (HOR2.out _ hB A5 c5 hP5).mono ?_
      rintro e W8 h8
      obtain ⟨hb8, A8, n8, c8, f8, rfl, HQ8⟩ := ordR_form h8
      replace hB := hB.trans (hb8.mono hB.size)
      clear hb8 h8
      try dsimp only
      refine hK.out _ _ ?_ (fun hHeld => ?_)
      · exact HC.out _ hB
      clear hK K
      try simp only [List.getElem_toArray, List.getElem_cons_succ, List.getElem_cons_zero, Act.put, List.setIfInBounds_toArray, List.set_cons_zero, List.set_cons_succ]
      refine wpAnyH_take (i := 9) (v := ?_) rfl (by kernel_rfl) (by kernel_rfl) (by kernel_rfl) (fun _ _ _ h => h) (Or.inl ⟨by kernel_rfl, ?_⟩) (by assumption) ?_
      rotate_left
      · intro w hSw; (try dsimp only at hSw); go_simp; with_reducible rfl
      try simp only [List.getElem_toArray, List.getElem_cons_succ, List.getElem_cons_zero, Act.put, List.setIfInBounds_toArray, List.set_cons_zero, List.set_cons_succ]
      refine wpAnyH_take (i := 10) (v := ?_) rfl (by kernel_rfl) (by kernel_rfl) (by kernel_rfl) (fun _ _ _ h => h) (Or.inl ⟨by kernel_rfl, ?_⟩) (by assumption) ?_
      rotate_left
      · intro w hSw; (try dsimp only at hSw); go_simp; with_reducible rfl
      try simp only [List.getElem_toArray, List.getElem_cons_succ, List.getElem_cons_zero, Act.put, List.setIfInBounds_toArray, List.set_cons_zero, List.set_cons_succ]
      refine wpAnyH_take (i := 11) (v := ?_) rfl (by kernel_rfl) (by kernel_rfl) (by kernel_rfl) (fun _ _ _ h => h) (Or.inl ⟨by kernel_rfl, ?_⟩) (by assumption) ?_
      rotate_left
      · intro w hSw; (try dsimp only at hSw); go_simp; with_reducible rfl
      try simp only [List.getElem_toArray, List.getElem_cons_succ, List.getElem_cons_zero, Act.put, List.setIfInBounds_toArray, List.set_cons_zero, List.set_cons_succ]
      refine wpAnyH_ready (rs := [12]) (by kernel_rfl) (by simp) ?_
      refine AllReadyH.cons rfl (fun K hK => ?_) AllReadyH.nil
      clear hHeld
      go_simp
      refine hK.out _ _ ?_ (fun hHeld => ?_)
      · exact HC.out _ hB
      clear hK K
      try simp only [List.getElem_toArray, List.getElem_cons_succ, List.getElem_cons_zero, Act.put, List.setIfInBounds_toArray, List.set_cons_zero, List.set_cons_succ]
      refine wpAnyH_ready (rs := [13]) (by kernel_rfl) (by simp) ?_
      refine AllReadyH.cons rfl (fun K hK => ?_) AllReadyH.nil
      clear hHeld
      go_simp
      refine hK.out _ _ ?_ (fun hHeld => ?_)
      · exact HC.out _ hB
      clear hK K
      try simp only [List.getElem_toArray, List.getElem_cons_succ, List.getElem_cons_zero, Act.put, List.setIfInBounds_toArray, List.set_cons_zero, List.set_cons_succ]
      refine wpAnyH_done (by kernel_rfl) ?_ _
      try dsimp only [Exit.then]
      clear HC
      go_wp2_with fail
      go_meet
      case rel => exact ⟨A8, n8, c8, f8, rfl, rfl, HQ8, hB⟩
    · clear hHeld
      go_simp
      have hv4 := heap_alloc_new w0 (.cells #[.int .i64 k1, .int .i64 o1, .string n1, .int .i64 v1, .slice A1 m1 c1, .int .i64 k2, .int .i64 o2, .string n2, .int .i64 v2, .slice A2 m2 c2] 53)
      have hvlt : w0.heap.size < (w0.alloc (.cells #[.int .i64 k1, .int .i64 o1, .string n1, .int .i64 v1, .slice A1 m1 c1, .int .i64 k2, .int .i64 o2, .string n2, .int .i64 v2, .slice A2 m2 c2] 53)).heap.size := by simp
      replace hB := hB.trans ((below_alloc w0 (.cells #[.int .i64 k1, .int .i64 o1, .string n1, .int .i64 v1, .slice A1 m1 c1, .int .i64 k2, .int .i64 o2, .string n2, .int .i64 v2, .slice A2 m2 c2] 53)).mono hB.size)
      generalize w0.alloc _ = W4 at hB hv4 hvlt ⊢
      refine hK.out _ _ ?_ (fun hHeld => ?_)
      · exact HC.out _ hB
      clear hK K
      try simp only [List.getElem_toArray, List.getElem_cons_succ, List.getElem_cons_zero, Act.put, List.setIfInBounds_toArray, List.set_cons_zero, List.set_cons_succ]
      refine wpAnyH_ready (rs := [2]) (by kernel_rfl) (by simp) ?_
      refine AllReadyH.cons rfl (fun K hK => ?_) AllReadyH.nil
      clear hHeld
      go_simp
      refine (HCL.out _ hB).mono ?_
      rintro e W2 ⟨hb2, v2', rc2, rfl, hq2⟩
      obtain ⟨p2, d2, e2⟩ := own_form hq2.row
      subst e2
      have hv5 := (hb2.block _ hvlt).trans hv4
      have hbs5 := hb2.size
      have hob : (Value.slice p2 rs.length d2).ownBlock ≠ some w0.heap.size := fun e => by have := World.ownsRow.lt hq2.row _ e; omega
      replace hB := hB.trans (hb2.mono hB.size)
      clear hb2
      refine hK.out _ _ ?_ (fun hHeld => ?_)
      · exact HC.out _ hB
      clear hK K
      try simp only [List.getElem_toArray, List.getElem_cons_succ, List.getElem_cons_zero, Act.put, List.setIfInBounds_toArray, List.set_cons_zero, List.set_cons_succ]
      refine wpAnyH_ready (rs := [5]) (by kernel_rfl) (by simp) ?_
      refine AllReadyH.cons rfl (fun K hK => ?_) AllReadyH.nil
      clear hHeld
      obtain ⟨A5, c5, W5, hrun5, hP5, hb5⟩ := app_rule (B := w4.heap.size) rs2 HRS2.out hq2 (by have := HZ0.out; omega) hbs5 (by have := HL16.out; omega) hv5 (HRB.out _ hB) 22
      refine step_app rfl (.tmp 50) (.tmp 52) _ rfl rfl rfl hrun5 ?_
      replace hB := hB.trans (hb5.mono (by have := HZ0.out; omega))
      clear hb5 hrun5
      refine hK.out _ _ ?_ (fun hHeld => ?_)
      · exact HC.out _ hB
      clear hK K
      try simp only [List.getElem_toArray, List.getElem_cons_succ, List.getElem_cons_zero, Act.put, List.setIfInBounds_toArray, List.set_cons_zero, List.set_cons_succ]
      refine wpAnyH_take (i := 6) (v := ?_) rfl (by kernel_rfl) (by kernel_rfl) (by kernel_rfl) (fun _ _ _ h => h) (Or.inl ⟨by kernel_rfl, ?_⟩) (by assumption) ?_
      rotate_left
      · intro w hSw; (try dsimp only at hSw); go_simp; with_reducible rfl
      try simp only [List.getElem_toArray, List.getElem_cons_succ, List.getElem_cons_zero, Act.put, List.setIfInBounds_toArray, List.set_cons_zero, List.set_cons_succ]
      refine wpAnyH_ready (rs := [8]) (by kernel_rfl) (by simp) ?_
      refine AllReadyH.cons rfl (fun K hK => ?_) AllReadyH.nil
      clear hHeld
      go_simp
      refine (HOR2.out _ hB A5 c5 hP5).mono ?_
      rintro e W8 h8
      obtain ⟨hb8, A8, n8, c8, f8, rfl, HQ8⟩ := ordR_form h8
      replace hB := hB.trans (hb8.mono hB.size)
      clear hb8 h8
      try dsimp only
      refine hK.out _ _ ?_ (fun hHeld => ?_)
      · exact HC.out _ hB
      clear hK K
      try simp only [List.getElem_toArray, List.getElem_cons_succ, List.getElem_cons_zero, Act.put, List.setIfInBounds_toArray, List.set_cons_zero, List.set_cons_succ]
      refine wpAnyH_take (i := 9) (v := ?_) rfl (by kernel_rfl) (by kernel_rfl) (by kernel_rfl) (fun _ _ _ h => h) (Or.inl ⟨by kernel_rfl, ?_⟩) (by assumption) ?_
      rotate_left
      · intro w hSw; (try dsimp only at hSw); go_simp; with_reducible rfl
      try simp only [List.getElem_toArray, List.getElem_cons_succ, List.getElem_cons_zero, Act.put, List.setIfInBounds_toArray, List.set_cons_zero, List.set_cons_succ]
      refine wpAnyH_take (i := 10) (v := ?_) rfl (by kernel_rfl) (by kernel_rfl) (by kernel_rfl) (fun _ _ _ h => h) (Or.inl ⟨by kernel_rfl, ?_⟩) (by assumption) ?_
      rotate_left
      · intro w hSw; (try dsimp only at hSw); go_simp; with_reducible rfl
      try simp only [List.getElem_toArray, List.getElem_cons_succ, List.getElem_cons_zero, Act.put, List.setIfInBounds_toArray, List.set_cons_zero, List.set_cons_succ]
      refine wpAnyH_take (i := 11) (v := ?_) rfl (by kernel_rfl) (by kernel_rfl) (by kernel_rfl) (fun _ _ _ h => h) (Or.inl ⟨by kernel_rfl, ?_⟩) (by assumption) ?_
      rotate_left
      · intro w hSw; (try dsimp only at hSw); go_simp; with_reducible rfl
      try simp only [List.getElem_toArray, List.getElem_cons_succ, List.getElem_cons_zero, Act.put, List.setIfInBounds_toArray, List.set_cons_zero, List.set_cons_succ]
      refine wpAnyH_ready (rs := [12]) (by kernel_rfl) (by simp) ?_
      refine AllReadyH.cons rfl (fun K hK => ?_) AllReadyH.nil
      clear hHeld
      go_simp
      refine hK.out _ _ ?_ (fun hHeld => ?_)
      · exact HC.out _ hB
      clear hK K
      try simp only [List.getElem_toArray, List.getElem_cons_succ, List.getElem_cons_zero, Act.put, List.setIfInBounds_toArray, List.set_cons_zero, List.set_cons_succ]
      refine wpAnyH_ready (rs := [13]) (by kernel_rfl) (by simp) ?_
      refine AllReadyH.cons rfl (fun K hK => ?_) AllReadyH.nil
      clear hHeld
      go_simp
      refine hK.out _ _ ?_ (fun hHeld => ?_)
      · exact HC.out _ hB
      clear hK K
      try simp only [List.getElem_toArray, List.getElem_cons_succ, List.getElem_cons_zero, Act.put, List.setIfInBounds_toArray, List.set_cons_zero, List.set_cons_succ]
      refine wpAnyH_done (by kernel_rfl) ?_ _
      try dsimp only [Exit.then]
      clear HC
      go_wp2_with fail
      go_meet
      case rel => exact ⟨A8, n8, c8, f8, rfl, rfl, HQ8, hB⟩
  case rest =>
    obtain ⟨A8, n8, c8, f8, rfl, rfl, HQ8, hbx⟩ := hcut
    have hO := HO4.out.next hbx
    clear x0 q0 q1 q2 q3 q4 q5 q6 q7 q8 q9 l0 HC HCL HRB HOR2
    have hB5 : B ≤ wc.heap.size := Nat.le_trans hB hO.two.below.size
    have x0 := hO.two.fst 0 _ rfl
    obtain ⟨q0, q1, q2, q3, q4, q5, q6, q7, q8, q9⟩ := bx10 hO.two.snd
    have l0 := hO.thd 0 _ rfl
    by_cases e9 : f9 = 0
    rotate_left
    · have z1 : ((f9 : Int) != 0) = true := by simpa using e9
      have z2 : (f9 != 0) = true := by simpa using e9
      clear e9
      go_wp2_with (go_at_call 7; refine (HAW.out _ hO.two.below).mono ?_; rintro e w9 ⟨rfl, hb9⟩)
      go_ret
      exact ⟨rfl, hO.two.below.trans (hb9.mono hO.two.below.size)⟩
    subst e9
    by_cases e8 : f8 = 0
    rotate_left
    · have z1 : ((f8 : Int) != 0) = true := by simpa using e8
      have z2 : (f8 != 0) = true := by simpa using e8
      clear e8
      go_wp2_with (go_at_call 7; refine (HAW.out _ hO.two.below).mono ?_; rintro e w9 ⟨rfl, hb9⟩)
      go_ret
      exact ⟨rfl, hO.two.below.trans (hb9.mono hO.two.below.size)⟩
    subst e8
    rcases HQ9.out with ⟨h, _⟩ | ⟨_, hn9, -, hck, hfit, l9, ho9, hr9⟩
    · exact absurd rfl h
    rcases HQ8.out with ⟨h, _⟩ | ⟨_, hn8, -, hck2, _, l8, ho8, hr8⟩
    · exact absurd rfl h
    subst hn9 hn8
    have HR9 := Lib.hid hr9
    have HR8 := Lib.hid hr8
    have HO9 := Lib.hid ho9
    have HO8 := Lib.hid ho8
    have HCK := Lib.hid hck
    have HCK2 := Lib.hid hck2
    have HFIT := Lib.hid hfit
    have HBX := Lib.hid hbx
    clear hr9 hr8 ho9 ho8 hck hck2 hfit HQ9 HQ8 hbx
    have HOR7 : Hid (Calls Tryz.prog 18 #[.agg #[.slice none 0 0], .slice Al ls.length cl] wc (OrdR [] ls wc)) := Lib.hid (order_any none 0 B [] Al cl ls wc (lies_nil _ _) hB5 (HL0.out _ hO.two.below) HL12.out)
    go_upto_region 7 with fail
    go_wp2_with fail
    refine HOR7.out.mono ?_
    rintro e w7 h7
    obtain ⟨hb7, A7, n7, c7, f7, rfl, HQ7⟩ := ordR_form h7
    obtain ⟨e7, hn7, -, l7, ho7, hr7⟩ := HQ7.out.ok rfl HFIT.out
    have e10 := ord_nil (fun k => (ls.getD k ⟨0, 0, []⟩).vals) ho7
    subst e7 hn7 e10
    clear x0 q0 q1 q2 q3 q4 q5 q6 q7 q8 q9 l0 h7 HQ7 HOR7 ho7 hB5
    replace hO := hO.next hb7
    have HR7 := Lib.hid hr7
    have HB7 := Lib.hid hb7
    have HO7 := Lib.hid hO
    clear hr7 hb7
    have x0 := hO.two.fst 0 _ rfl
    obtain ⟨q0, q1, q2, q3, q4, q5, q6, q7, q8, q9⟩ := bx10 hO.two.snd
    have l0 := hO.thd 0 _ rfl
    go_wp2_with fail
    go_loopw [8, 15, 16, 74] (fun r _ _ i wr => r = .bool false ∧ Hid (Below w7.heap.size w7 wr) ∧ ∃ j : Nat, i = .int .i64 (j : Nat) ∧ j ≤ ls.length) (fun _ _ _ i _ => ls.length - (intOf i).toNat)
    case atStart => exact ⟨rfl, Lib.hid (Below.refl _ _), 0, rfl, Nat.zero_le _⟩
    case round =>
      clear x0 q0 q1 q2 q3 q4 q5 q6 q7 q8 q9 l0 hO
      obtain ⟨rfl, HB, j, rfl, hj⟩ := hrel
      have hj0 : (0 : Int) ≤ (j : Int) := by omega
      have hO := HO7.out.next HB.out
      have x0 := hO.two.fst 0 _ rfl
      obtain ⟨q0, q1, q2, q3, q4, q5, q6, q7, q8, q9⟩ := bx10 hO.two.snd
      have l0 := hO.thd 0 _ rfl
      by_cases hlt : j < ls.length
      · have hd1 : decide ((j : Int) < (ls.length : Int)) = true := decide_eq_true (by omega)
        have hd2 : decide (j < ls.length) = true := decide_eq_true hlt
        have hjl : (j : Int) < (ls.length : Int) := by omega
        have hwr1 : IntKind.i64.wrap ((j : Int) + 1) = (j : Int) + 1 := by rw [IntKind.wrap_i64]; omega
        obtain ⟨b7, off7, hA7, -, hcell⟩ := (Rd.below' HR7.out HB.out (Nat.le_refl _)).addr (by omega)
        subst hA7
        have y := hcell j _ (range_at hlt)
        unfold natV at y
        clear hcell
        go_wp2_with fail
        exact ⟨⟨rfl, HB, j + 1, by go_num, by omega⟩, by simp [intOf]; omega⟩
      · have hd1 : decide ((j : Int) < (ls.length : Int)) = false := decide_eq_false (by omega)
        have hd2 : decide (j < ls.length) = false := decide_eq_false hlt
        have hba := below_alloc wr (.cells #[.func (.func 22) #[] #[.pointer (some ⟨w.heap.size + 2, 0, none⟩), .pointer (some ⟨w.heap.size, 0, none⟩)]] 57)
        have y0 := bx_new wr #[.func (.func 22) #[] #[.pointer (some ⟨w.heap.size + 2, 0, none⟩), .pointer (some ⟨w.heap.size, 0, none⟩)]] 57 0 _ rfl
        have hzF : wr.heap.size < (wr.alloc (.cells #[.func (.func 22) #[] #[.pointer (some ⟨w.heap.size + 2, 0, none⟩), .pointer (some ⟨w.heap.size, 0, none⟩)]] 57)).heap.size := by simp
        go_upto_region 15 with fail
        generalize wr.alloc _ = w10 at hba y0 hzF ⊢
        clear x0 q0 q1 q2 q3 q4 q5 q6 q7 q8 q9 l0 hd1 hd2 hj hj0 hlt
        have hB10 : Below w4.heap.size w4 w10 := HBX.out.trans ((HB7.out.trans ((HB.out.trans (hba.mono HB.out.size)).mono HB7.out.size)).mono HBX.out.size)
        have hB10c : Below wc.heap.size wc w10 := HB7.out.trans ((HB.out.trans (hba.mono HB.out.size)).mono HB7.out.size)
        replace hO := hO.next hba
        have HO10 := Lib.hid hO
        have HF := Lib.hid (fun (W : World) (hW : Below w10.heap.size w10 W) => (hW.cell (p := ⟨wr.heap.size, 0, none⟩) hzF).trans y0)
        have HV := Lib.hid (fun (k : Nat) (hk : k < ls.length) => fit_at HFIT.out k hk)
        have HA1 := Lib.hid (fun (W : World) (hW : Below w10.heap.size w10 W) (k : Nat) (hk : k < ls.length) => applies_any A c B rs Al cl ls k w.heap.size (w.heap.size + 2) W (HP0.out _ (HO10.out.two.below.trans (hW.mono HO10.out.two.below.size))) (Nat.le_trans hB (Nat.le_trans HO10.out.two.below.size hW.size)) (HL0.out _ (HO10.out.two.below.trans (hW.mono HO10.out.two.below.size))) hk (HV.out k hk) ((HO10.out.next hW).two.fst 0 _ rfl) ((HO10.out.next hW).thd 0 _ rfl))
        have HP2 := Lib.hid (fun (W : World) (hW : Below w10.heap.size w10 W) (k : Nat) (hk : k < ls.length) => not2_any (appP rs ls k) k wr.heap.size w.heap.size (w.heap.size + 2) W (HF.out W hW) (fun W' hW' => HA1.out W' (hW.trans (hW'.mono hW.size)) k hk))
        have HP3 := Lib.hid (fun (W : World) (hW : Below w10.heap.size w10 W) (k : Nat) (hk : k < ls.length) => not3_any (appP rs ls k) k wr.heap.size w.heap.size (w.heap.size + 2) W (HF.out W hW) (fun W' hW' => HA1.out W' (hW.trans (hW'.mono hW.size)) k hk))
        have HAP : Hid (l8.filter (fun x => !(!appP rs ls x)) = l9.filter (fun x => !(!appP rs ls x))) := Lib.hid (by
          have h8 := HO8.out
          rw [HRS2.out] at h8
          have := ord_app (fun k => (ls.getD k ⟨0, 0, []⟩).vals) rs r HO9.out h8
          simp only [Bool.not_not]
          exact this.symm)
        have hl9 : ls.length = l9.length := HO9.out.len.symm
        have hl8 : ls.length = l8.length := HO8.out.len.symm
        have HFL : Hid ((l9.filter (fun x => !(!appP rs ls x))).length ≤ 64) := Lib.hid (by have := List.length_filter_le (fun x => !(!appP rs ls x)) l9; have := HL12.out; omega)
        obtain ⟨FL, hF9⟩ : ∃ FL, l9.filter (fun x => !(!appP rs ls x)) = FL := ⟨_, rfl⟩
        rw [hF9] at HAP HFL
        have HF9 := Lib.hid hF9
        have HL9 := Lib.hid hl9
        have HL8 := Lib.hid hl8
        clear hl9 hl8 hF9 hba y0 hzF hO
        have HCL9 := Lib.hid (clone_n A9 c9 w4.heap.size ls.length l9 w10 HL9.out (Rd.below' HR9.out hB10 (Nat.le_refl _)) (by have := HL12.out; omega))
        have HB10 := Lib.hid hB10
        have HB10c := Lib.hid hB10c
        clear hB10 hB10c
        go_wp2_with fail
        refine HCL9.out.mono ?_
        rintro e w11 ⟨hb11, A11, c11, rfl, hown11⟩
        have HD9 := Lib.hid (del_rd 26 wr.heap.size enter2 (fun k => !appP rs ls k) w10.heap.size A11 c11 ls.length l9 FL w11 HL9.out HF9.out (by have := HL12.out; omega) hb11.size hown11 (fun W hW x hx => HP2.out W (hb11.trans hW) x (HO9.out.mem hx)))
        clear HCL9 hown11
        go_wp2_with fail
        refine HD9.out.mono ?_
        rintro e w12 ⟨hb12, A12, c12, rfl, hr12⟩
        have hB12 : Below w10.heap.size w10 w12 := hb11.trans hb12
        have HCL8 := Lib.hid (clone_n A8 c8 wc.heap.size ls.length l8 w12 HL8.out (Rd.below' HR8.out (HB10c.out.trans (hB12.mono HB10c.out.size)) (Nat.le_refl _)) (by have := HL12.out; omega))
        have HB12 := Lib.hid hB12
        have HR12 := Lib.hid hr12
        clear HD9 hb11 hb12 hB12 hr12
        go_wp2_with fail
        refine HCL8.out.mono ?_
        rintro e w13 ⟨hb13, A13, c13, rfl, hown13⟩
        have HD8 := Lib.hid (del_rd 27 wr.heap.size enter3 (fun k => !appP rs ls k) w12.heap.size A13 c13 ls.length l8 FL w13 HL8.out HAP.out (by have := HL12.out; omega) hb13.size hown13 (fun W hW x hx => HP3.out W (HB12.out.trans ((hb13.trans hW).mono HB12.out.size)) x (HO8.out.mem hx)))
        clear HCL8 hown13
        go_wp2_with fail
        refine HD8.out.mono ?_
        rintro e w14 ⟨hb14, A14, c14, rfl, hr14⟩
        have hB14 : Below w12.heap.size w12 w14 := hb13.trans hb14
        have HEQ := Lib.hid (eq_n A12 A14 c12 c14 w12.heap.size w14.heap.size FL.length FL w14 rfl (Rd.below' HR12.out hB14 (Nat.le_refl _)) hr14 HFL.out)
        have HB14 := Lib.hid (HB12.out.trans (hB14.mono HB12.out.size))
        unfold Ret at HEQ
        clear HD8 hb13 hb14 hB14 hr14 HR12
        go_wp2_with fail
        refine HEQ.out.mono ?_
        rintro e w15 ⟨rfl, hb15⟩
        have HB15 := Lib.hid (HB14.out.trans (hb15.mono HB14.out.size))
        clear HEQ hb15 HA1 HP2 HP3 HF HV HAP HFL HF9
        have hO := HO10.out.next HB15.out
        have x0 := hO.two.fst 0 _ rfl
        obtain ⟨q0, q1, q2, q3, q4, q5, q6, q7, q8, q9⟩ := bx10 hO.two.snd
        have l0 := hO.thd 0 _ rfl
        have hba := below_alloc w15 (.cells #[.int .i64 k1, .int .i64 o1, .string n1, .int .i64 v1, .slice A1 m1 c1, .int .i64 k2, .int .i64 o2, .string n2, .int .i64 v2, .slice A2 m2 c2] 53)
        have hv17 := heap_alloc_new w15 (.cells #[.int .i64 k1, .int .i64 o1, .string n1, .int .i64 v1, .slice A1 m1 c1, .int .i64 k2, .int .i64 o2, .string n2, .int .i64 v2, .slice A2 m2 c2] 53)
        have hzN : w15.heap.size < (w15.alloc (.cells #[.int .i64 k1, .int .i64 o1, .string n1, .int .i64 v1, .slice A1 m1 c1, .int .i64 k2, .int .i64 o2, .string n2, .int .i64 v2, .slice A2 m2 c2] 53)).heap.size := by simp
        go_upto_region 18 with fail
        generalize hw17 : w15.alloc _ = w17 at hba hv17 hzN ⊢
        clear hw17
        clear x0 q0 q1 q2 q3 q4 q5 q6 q7 q8 q9 l0
        obtain ⟨NB, hNB⟩ : ∃ NB, NB = w15.heap.size := ⟨_, rfl⟩
        rw [← hNB] at hv17 hzN hba ⊢
        have HNB := Lib.hid hNB
        clear hNB
        have g0 : w17.frozen? ⟨NB, 0, none⟩ = false := by simp [World.frozen?, hv17]
        have g1 : w17.frozen? ⟨NB, 1, none⟩ = false := by simp [World.frozen?, hv17]
        have g2 : w17.frozen? ⟨NB, 2, none⟩ = false := by simp [World.frozen?, hv17]
        have g3 : w17.frozen? ⟨NB, 3, none⟩ = false := by simp [World.frozen?, hv17]
        have g4 : w17.frozen? ⟨NB, 4, none⟩ = false := by simp [World.frozen?, hv17]
        have y0 := cell_of_cells (j := 0) hv17 rfl
        have y1 := cell_of_cells (j := 1) hv17 rfl
        have y2 := cell_of_cells (j := 2) hv17 rfl
        have y3 := cell_of_cells (j := 3) hv17 rfl
        have y4 := cell_of_cells (j := 4) hv17 rfl
        have HV17 := Lib.hid hv17
        have HZN := Lib.hid hzN
        have HBA := Lib.hid hba
        clear hv17 hba
        go_upto_region 19 with fail
        clear g0 g1 g2 g3 g4 y0 y1 y2 y3 y4 hzN
        obtain ⟨hs1, -, hs3, hs4⟩ := set5_row HV17.out (.int .i64 4) (.int .i64 10) (.string ⟨#[]⟩) (.int .i64 0) (.slice (some ⟨w17.heap.size, 0, none⟩) 2 2)
        generalize World.setCell _ _ _ = ws at hs1 hs3 hs4 ⊢
        have hK := heap_alloc_new ws (.cells #[.int .i64 1, .int .i64 0, .string ⟨#[]⟩, .int .i64 1, .slice none 0 0, .int .i64 1, .int .i64 0, .string ⟨#[]⟩, .int .i64 0, .slice none 0 0] 51)
        have hba := below_alloc ws (.cells #[.int .i64 1, .int .i64 0, .string ⟨#[]⟩, .int .i64 1, .slice none 0 0, .int .i64 1, .int .i64 0, .string ⟨#[]⟩, .int .i64 0, .slice none 0 0] 51)
        have hKz : ws.heap.size < (ws.alloc (.cells #[.int .i64 1, .int .i64 0, .string ⟨#[]⟩, .int .i64 1, .slice none 0 0, .int .i64 1, .int .i64 0, .string ⟨#[]⟩, .int .i64 0, .slice none 0 0] 51)).heap.size := by simp
        have hN := (hba.block NB (by rw [hs4]; exact HZN.out)).trans hs1
        have hB17 := (hs3 NB w15 HBA.out (Nat.le_refl _)).trans (hba.mono (by rw [hs4]; exact Nat.le_of_lt HZN.out))
        generalize ws.alloc _ = w18 at hK hba hKz hN hB17 ⊢
        rw [hs4] at hK hKz
        obtain ⟨KB, hKB⟩ : ∃ KB, KB = w17.heap.size := ⟨_, rfl⟩
        rw [← hKB] at hK hKz hN ⊢
        have HNN := Lib.hid hN
        have HKK := Lib.hid hK
        have HKZ := Lib.hid hKz
        have hNz : NB < w18.heap.size := (Array.getElem?_eq_some_iff.1 hN).1
        rw [HNB.out] at hB17
        have hB18 := HB15.out.trans (hB17.mono HB15.out.size)
        have hO := HO10.out.next hB18
        have HO18 := Lib.hid hO
        have HB18 := Lib.hid hB18
        have HNZ := Lib.hid hNz
        clear hs1 hs3 hs4 hK hba hKz hN hB17 hKB hB18
        obtain ⟨ii, hii⟩ : ∃ ii, ii = at_ % (rs.length + 1) := ⟨_, rfl⟩
        have hil : ii ≤ rs.length := by have := Nat.mod_lt at_ (show rs.length + 1 > 0 by omega); omega
        have HII := Lib.hid hil
        have hrem : (at_ : Int).tmod ((rs.length : Int) + 1) = (ii : Int) := by
          rw [hii, show (rs.length : Int) + 1 = ((rs.length + 1 : Nat) : Int) from by omega]
          exact (Int.ofNat_tmod at_ (rs.length + 1)).symm
        have hcv : IntKind.i64.wrap (at_ : Int) = (at_ : Int) := by rw [IntKind.wrap_i64]; have := hat; omega
        have hln : IntKind.i64.wrap ((rs.length : Int) + 1) = (rs.length : Int) + 1 := by rw [IntKind.wrap_i64]; have := HL16.out; omega
        have hiw : IntKind.i64.wrap (ii : Int) = (ii : Int) := by rw [IntKind.wrap_i64]; have := HL16.out; omega
        have hnz : ¬ ((rs.length : Int) + 1 = 0) := by omega
        have hnz2 : ((rs.length : Int) + 1 == 0) = false := by simpa using hnz
        obtain ⟨rs3, hrs3⟩ : ∃ rs3, rs3 = rs.take ii ++ (⟨nvE, r.key⟩ : Rl) :: rs.drop ii := ⟨_, rfl⟩
        have HRS3 := Lib.hid hrs3
        clear hii hil hrs3
        have HBWw := Lib.hid (fun (W : World) (hW : Below w18.heap.size w18 W) => HO18.out.two.below.trans (hW.mono HO18.out.two.below.size))
        have HB4 := Lib.hid (Nat.le_trans hB HO18.out.two.below.size)
        have HC : Hid (∀ W, Below w18.heap.size w18 W → W.cell? ⟨w.heap.size, 0, none⟩ = some (.slice A rs.length c) ∧ (W.cell? ⟨NB, 0, none⟩ = some (.int .i64 4) ∧ W.cell? ⟨NB, 1, none⟩ = some (.int .i64 10) ∧ W.cell? ⟨NB, 2, none⟩ = some (.string ⟨#[]⟩) ∧ W.cell? ⟨NB, 3, none⟩ = some (.int .i64 0) ∧ W.cell? ⟨NB, 4, none⟩ = some (.slice (some ⟨KB, 0, none⟩) 2 2) ∧ W.cell? ⟨NB, 5, none⟩ = some (.int .i64 k2) ∧ W.cell? ⟨NB, 6, none⟩ = some (.int .i64 o2) ∧ W.cell? ⟨NB, 7, none⟩ = some (.string n2) ∧ W.cell? ⟨NB, 8, none⟩ = some (.int .i64 v2) ∧ W.cell? ⟨NB, 9, none⟩ = some (.slice A2 m2 c2)) ∧ W.cell? ⟨w.heap.size + 2, 0, none⟩ = some (.slice Al ls.length cl)) := Lib.hid (fun W hW => by
          have h := HO18.out.next hW
          have hn := (hW.block NB HNZ.out).trans HNN.out
          exact ⟨h.two.fst 0 _ rfl, ⟨cell_of_cells hn rfl, cell_of_cells hn rfl, cell_of_cells hn rfl, cell_of_cells hn rfl, cell_of_cells hn rfl, cell_of_cells hn rfl, cell_of_cells hn rfl, cell_of_cells hn rfl, cell_of_cells hn rfl, cell_of_cells hn rfl⟩, h.thd 0 _ rfl⟩)
        have HCL := Lib.hid (fun (W : World) (hW : Below w18.heap.size w18 W) => (rclone_any A c B rs W (HP0.out _ (HBWw.out _ hW)) (Nat.le_trans HB4.out hW.size) (by have := HL16.out; omega)).mono (fun e W' h => by
          obtain ⟨h1, v, rcs, h2, h3⟩ := h
          exact (⟨h1, v, rcs, h2, h3.more HB4.out⟩ : Below W.heap.size W W' ∧ ∃ v rcs, e = .returned v ∧ OwnQ w18.heap.size W' W.heap.size v rs rcs)))
        have HRN : Hid (∀ W, Below w18.heap.size w18 W → RuleB w18.heap.size W [.int .i64 4, .int .i64 10, .string ⟨#[]⟩, .int .i64 0, .slice (some ⟨KB, 0, none⟩) 2 2, .int .i64 k2, .int .i64 o2, .string n2, .int .i64 v2, .slice A2 m2 c2] ⟨nvE, r.key⟩) := Lib.hid (fun W hW =>
          ⟨4, 10, ByteArray.empty, 0, some ⟨KB, 0, none⟩, 2, 2, k2, o2, n2, v2, A2, m2, c2, rfl, nv_lies (K := KB) (B := w18.heap.size) HKZ.out ((hW.block KB HKZ.out).trans HKK.out), (HE2.out _ (HBWw.out _ hW)).more HB4.out⟩)
        have HOR3 := Lib.hid (fun (W : World) (hW : Below w18.heap.size w18 W) (A5 : Option Addr) (c5 : Nat) (h5 : LiesP W W.heap.size A5 c5 rs3) => order_any A5 c5 W.heap.size rs3 Al cl ls W h5 (Nat.le_refl _) ((HL0.out _ (HBWw.out _ hW)).more (Nat.le_trans HB4.out hW.size)) HL12.out)
        obtain ⟨x0, ⟨y0, y1, y2, y3, y4, y5, y6, y7, y8, y9⟩, l0⟩ := HC.out w18 (Below.refl _ _)
        go_cut [19, 20] (fun a b wx => ∃ (A8 : Option Addr) (n8 c8 f8 : Nat), a = .slice A8 n8 c8 ∧ b = .int .i64 (f8 : Nat) ∧ Hid (OrdQ rs3 ls wx A8 n8 c8 f8) ∧ Below w18.heap.size w18 wx)
        case first =>
          have hB : Below w18.heap.size w18 w18.drew := below_drews _ _ 1
          refine wp_region_held_drew (S := fun W => W.cell? ⟨w.heap.size, 0, none⟩ = some (.slice A rs.length c) ∧ (W.cell? ⟨NB, 0, none⟩ = some (.int .i64 4) ∧ W.cell? ⟨NB, 1, none⟩ = some (.int .i64 10) ∧ W.cell? ⟨NB, 2, none⟩ = some (.string ⟨#[]⟩) ∧ W.cell? ⟨NB, 3, none⟩ = some (.int .i64 0) ∧ W.cell? ⟨NB, 4, none⟩ = some (.slice (some ⟨KB, 0, none⟩) 2 2) ∧ W.cell? ⟨NB, 5, none⟩ = some (.int .i64 k2) ∧ W.cell? ⟨NB, 6, none⟩ = some (.int .i64 o2) ∧ W.cell? ⟨NB, 7, none⟩ = some (.string n2) ∧ W.cell? ⟨NB, 8, none⟩ = some (.int .i64 v2) ∧ W.cell? ⟨NB, 9, none⟩ = some (.slice A2 m2 c2)) ∧ W.cell? ⟨w.heap.size + 2, 0, none⟩ = some (.slice Al ls.length cl)) (by kernel_rfl) ⟨x0, ⟨y0, y1, y2, y3, y4, y5, y6, y7, y8, y9⟩, l0⟩ (fun hHeld => ?_)
          have HZ0 : Hid (w18.heap.size = w18.drew.heap.size) := Lib.hid rfl
          clear x0 y0 y1 y2 y3 y4 y5 y6 y7 y8 y9 l0
          generalize w18.drew = w0 at hB hHeld HZ0 ⊢
          refine wpAnyH_take (i := 0) (v := ?_) rfl (by kernel_rfl) (by kernel_rfl) (by kernel_rfl) (fun _ _ _ h => h) (Or.inl ⟨by kernel_rfl, ?_⟩) (by assumption) ?_
          rotate_left
          · intro w hSw; (try dsimp only at hSw); go_simp; with_reducible rfl
          try simp only [List.getElem_toArray, List.getElem_cons_zero, Act.put, List.setIfInBounds_toArray, List.set_cons_zero, List.set_cons_succ]
          refine wpAnyH_take (i := 1) (v := ?_) rfl (by kernel_rfl) (by kernel_rfl) (by kernel_rfl) (fun _ _ _ h => h) (Or.inl ⟨by kernel_rfl, ?_⟩) (by assumption) ?_
          rotate_left
          · intro w hSw; (try dsimp only at hSw); go_simp; with_reducible rfl
          try simp only [List.getElem_toArray, List.getElem_cons_succ, List.getElem_cons_zero, Act.put, List.setIfInBounds_toArray, List.set_cons_zero, List.set_cons_succ]
          refine wpAnyH_take (i := 3) (v := ?_) rfl (by kernel_rfl) (by kernel_rfl) (by kernel_rfl) (fun _ _ _ h => h) (Or.inl ⟨by kernel_rfl, ?_⟩) (by assumption) ?_
          rotate_left
          · intro w hSw; (try dsimp only at hSw); go_simp; with_reducible rfl
          try simp only [List.getElem_toArray, List.getElem_cons_succ, List.getElem_cons_zero, Act.put, List.setIfInBounds_toArray, List.set_cons_zero, List.set_cons_succ]
          refine wpAnyH_take (i := 4) (v := ?_) rfl (by kernel_rfl) (by kernel_rfl) (by kernel_rfl) (fun _ _ _ h => h) (Or.inl ⟨by kernel_rfl, ?_⟩) (by assumption) ?_
          rotate_left
          · intro w hSw; (try dsimp only at hSw); go_simp; with_reducible rfl
          try simp only [List.getElem_toArray, List.getElem_cons_succ, List.getElem_cons_zero, Act.put, List.setIfInBounds_toArray, List.set_cons_zero, List.set_cons_succ]
          refine wpAnyH_take (i := 5) (v := ?_) rfl (by kernel_rfl) (by kernel_rfl) (by kernel_rfl) (fun _ _ _ h => h) (Or.inl ⟨by kernel_rfl, ?_⟩) (by assumption) ?_
          rotate_left
          · intro w hSw; (try dsimp only at hSw); go_simp; with_reducible rfl
          try simp only [List.getElem_toArray, List.getElem_cons_succ, List.getElem_cons_zero, Act.put, List.setIfInBounds_toArray, List.set_cons_zero, List.set_cons_succ]
          refine wpAnyH_take (i := 6) (v := ?_) rfl (by kernel_rfl) (by kernel_rfl) (by kernel_rfl) (fun _ _ _ h => h) (Or.inl ⟨by kernel_rfl, ?_⟩) (by assumption) ?_
          rotate_left
          · intro w hSw; (try dsimp only at hSw); go_simp; with_reducible rfl
          try simp only [List.getElem_toArray, List.getElem_cons_succ, List.getElem_cons_zero, Act.put, List.setIfInBounds_toArray, List.set_cons_zero, List.set_cons_succ]
          refine wpAnyH_take (i := 7) (v := ?_) rfl (by kernel_rfl) (by kernel_rfl) (by kernel_rfl) (fun _ _ _ h => h) (Or.inl ⟨by kernel_rfl, ?_⟩) (by assumption) ?_
          rotate_left
          · intro w hSw; (try dsimp only at hSw); go_simp; with_reducible rfl
          try simp only [List.getElem_toArray, List.getElem_cons_succ, List.getElem_cons_zero, Act.put, List.setIfInBounds_toArray, List.set_cons_zero, List.set_cons_succ]
          refine wpAnyH_take (i := 8) (v := ?_) rfl (by kernel_rfl) (by kernel_rfl) (by kernel_rfl) (fun _ _ _ h => h) (Or.inl ⟨by kernel_rfl, ?_⟩) (by assumption) ?_
          rotate_left
          · intro w hSw; (try dsimp only at hSw); go_simp; with_reducible rfl
          try simp only [List.getElem_toArray, List.getElem_cons_succ, List.getElem_cons_zero, Act.put, List.setIfInBounds_toArray, List.set_cons_zero, List.set_cons_succ]
          refine wpAnyH_take (i := 9) (v := ?_) rfl (by kernel_rfl) (by kernel_rfl) (by kernel_rfl) (fun _ _ _ h => h) (Or.inl ⟨by kernel_rfl, ?_⟩) (by assumption) ?_
          rotate_left
          · intro w hSw; (try dsimp only at hSw); go_simp; with_reducible rfl
          try simp only [List.getElem_toArray, List.getElem_cons_succ, List.getElem_cons_zero, Act.put, List.setIfInBounds_toArray, List.set_cons_zero, List.set_cons_succ]
          refine wpAnyH_take (i := 10) (v := ?_) rfl (by kernel_rfl) (by kernel_rfl) (by kernel_rfl) (fun _ _ _ h => h) (Or.inl ⟨by kernel_rfl, ?_⟩) (by assumption) ?_
          rotate_left
          · intro w hSw; (try dsimp only at hSw); go_simp; with_reducible rfl
          try simp only [List.getElem_toArray, List.getElem_cons_succ, List.getElem_cons_zero, Act.put, List.setIfInBounds_toArray, List.set_cons_zero, List.set_cons_succ]
          refine wpAnyH_take (i := 14) (v := ?_) rfl (by kernel_rfl) (by kernel_rfl) (by kernel_rfl) (fun _ _ _ h => h) (Or.inl ⟨by kernel_rfl, ?_⟩) (by assumption) ?_
          rotate_left
          · intro w hSw; (try dsimp only at hSw); go_simp; with_reducible rfl
          try simp only [List.getElem_toArray, List.getElem_cons_succ, List.getElem_cons_zero, Act.put, List.setIfInBounds_toArray, List.set_cons_zero, List.set_cons_succ]
          refine wpAnyH_ready (rs := [2, 11]) (by kernel_rfl) (by simp) ?_
          refine (AllReadyH.cons rfl (fun K hK => ?_) (AllReadyH.cons rfl (fun K hK => ?_) AllReadyH.nil))
          · clear hHeld
            go_simp
            refine (HCL.out _ hB).mono ?_
            rintro e W2 ⟨hb2, v2', rc2, rfl, hq2⟩
            obtain ⟨p2, d2, e2⟩ := own_form hq2.row
            subst e2
            replace hB := hB.trans (hb2.mono hB.size)
            clear hb2
            refine hK.out _ _ ?_ (fun hHeld => ?_)
            · exact HC.out _ hB
            clear hK K
            try simp only [List.getElem_toArray, List.getElem_cons_succ, List.getElem_cons_zero, Act.put, List.setIfInBounds_toArray, List.set_cons_zero, List.set_cons_succ]
            refine wpAnyH_ready (rs := [11]) (by kernel_rfl) (by simp) ?_
            refine AllReadyH.cons rfl (fun K hK => ?_) AllReadyH.nil
            clear hHeld
            go_simp
            have hv5 := heap_alloc_new W2 (.cells #[.int .i64 4, .int .i64 10, .string ⟨#[]⟩, .int .i64 0, .slice (some ⟨KB, 0, none⟩) 2 2, .int .i64 k2, .int .i64 o2, .string n2, .int .i64 v2, .slice A2 m2 c2] 53)
            have hob : (Value.slice p2 rs.length d2).ownBlock ≠ some W2.heap.size := fun e => by have := World.ownsRow.lt hq2.row _ e; omega
            replace hq2 := hq2.next (below_alloc W2 (.cells #[.int .i64 4, .int .i64 10, .string ⟨#[]⟩, .int .i64 0, .slice (some ⟨KB, 0, none⟩) 2 2, .int .i64 k2, .int .i64 o2, .string n2, .int .i64 v2, .slice A2 m2 c2] 53)) hB.size
            replace hB := hB.trans ((below_alloc W2 (.cells #[.int .i64 4, .int .i64 10, .string ⟨#[]⟩, .int .i64 0, .slice (some ⟨KB, 0, none⟩) 2 2, .int .i64 k2, .int .i64 o2, .string n2, .int .i64 v2, .slice A2 m2 c2] 53)).mono hB.size)
            have hbs5 : W2.heap.size ≤ (W2.alloc (.cells #[.int .i64 4, .int .i64 10, .string ⟨#[]⟩, .int .i64 0, .slice (some ⟨KB, 0, none⟩) 2 2, .int .i64 k2, .int .i64 o2, .string n2, .int .i64 v2, .slice A2 m2 c2] 53)).heap.size := by simp
            generalize W2.alloc _ = W4 at hB hv5 hq2 hbs5 ⊢
            refine hK.out _ _ ?_ (fun hHeld => ?_)
            · exact HC.out _ hB
            clear hK K
            try simp only [List.getElem_toArray, List.getElem_cons_succ, List.getElem_cons_zero, Act.put, List.setIfInBounds_toArray, List.set_cons_zero, List.set_cons_succ]
            refine wpAnyH_ready (rs := [12]) (by kernel_rfl) (by simp) ?_
            refine AllReadyH.cons rfl (fun K hK => ?_) AllReadyH.nil
            clear hHeld
            go_simp
            refine (ins_rule (B := w18.heap.size) rs3 HRS3.out HII.out hq2 (Nat.le_of_eq HZ0.out) (by have := HZ0.out; have := hB.size; omega) (by have := HL16.out; omega) hob hv5 (HRN.out _ hB)).mono ?_
            rintro e W5 ⟨hb5, A5, c5, rfl, hP5⟩
            replace hB := hB.trans (hb5.mono (Nat.le_of_eq HZ0.out))
            clear hb5
            try dsimp only
            refine hK.out _ _ ?_ (fun hHeld => ?_)
            · exact HC.out _ hB
            clear hK K
            try simp only [List.getElem_toArray, List.getElem_cons_succ, List.getElem_cons_zero, Act.put, List.setIfInBounds_toArray, List.set_cons_zero, List.set_cons_succ]
            refine wpAnyH_take (i := 13) (v := ?_) rfl (by kernel_rfl) (by kernel_rfl) (by kernel_rfl) (fun _ _ _ h => h) (Or.inl ⟨by kernel_rfl, ?_⟩) (by assumption) ?_
            rotate_left
            · intro w hSw; (try dsimp only at hSw); go_simp; with_reducible rfl
            try simp only [List.getElem_toArray, List.getElem_cons_succ, List.getElem_cons_zero, Act.put, List.setIfInBounds_toArray, List.set_cons_zero, List.set_cons_succ]
            refine wpAnyH_ready (rs := [15]) (by kernel_rfl) (by simp) ?_
            refine AllReadyH.cons rfl (fun K hK => ?_) AllReadyH.nil
            clear hHeld
            go_simp
            refine (HOR3.out _ hB A5 c5 hP5).mono ?_
            rintro e W8 h8
            obtain ⟨hb8, A8, n8, c8, f8, rfl, HQ8⟩ := ordR_form h8
            replace hB := hB.trans (hb8.mono hB.size)
            clear hb8 h8
            try dsimp only
            refine hK.out _ _ ?_ (fun hHeld => ?_)
            · exact HC.out _ hB
            clear hK K
            try simp only [List.getElem_toArray, List.getElem_cons_succ, List.getElem_cons_zero, Act.put, List.setIfInBounds_toArray, List.set_cons_zero, List.set_cons_succ]
            refine wpAnyH_take (i := 16) (v := ?_) rfl (by kernel_rfl) (by kernel_rfl) (by kernel_rfl) (fun _ _ _ h => h) (Or.inl ⟨by kernel_rfl, ?_⟩) (by assumption) ?_
            rotate_left
            · intro w hSw; (try dsimp only at hSw); go_simp; with_reducible rfl
            try simp only [List.getElem_toArray, List.getElem_cons_succ, List.getElem_cons_zero, Act.put, List.setIfInBounds_toArray, List.set_cons_zero, List.set_cons_succ]
            refine wpAnyH_take (i := 17) (v := ?_) rfl (by kernel_rfl) (by kernel_rfl) (by kernel_rfl) (fun _ _ _ h => h) (Or.inl ⟨by kernel_rfl, ?_⟩) (by assumption) ?_
            rotate_left
            · intro w hSw; (try dsimp only at hSw); go_simp; with_reducible rfl
            try simp only [List.getElem_toArray, List.getElem_cons_succ, List.getElem_cons_zero, Act.put, List.setIfInBounds_toArray, List.set_cons_zero, List.set_cons_succ]
            refine wpAnyH_take (i := 18) (v := ?_) rfl (by kernel_rfl) (by kernel_rfl) (by kernel_rfl) (fun _ _ _ h => h) (Or.inl ⟨by kernel_rfl, ?_⟩) (by assumption) ?_
            rotate_left
            · intro w hSw; (try dsimp only at hSw); go_simp; with_reducible rfl
            try simp only [List.getElem_toArray, List.getElem_cons_succ, List.getElem_cons_zero, Act.put, List.setIfInBounds_toArray, List.set_cons_zero, List.set_cons_succ]
            refine wpAnyH_ready (rs := [19]) (by kernel_rfl) (by simp) ?_
            refine AllReadyH.cons rfl (fun K hK => ?_) AllReadyH.nil
            clear hHeld
            go_simp
            refine hK.out _ _ ?_ (fun hHeld => ?_)
            · exact HC.out _ hB
            clear hK K
            try simp only [List.getElem_toArray, List.getElem_cons_succ, List.getElem_cons_zero, Act.put, List.setIfInBounds_toArray, List.set_cons_zero, List.set_cons_succ]
            refine wpAnyH_ready (rs := [20]) (by kernel_rfl) (by simp) ?_
            refine AllReadyH.cons rfl (fun K hK => ?_) AllReadyH.nil
            clear hHeld
            go_simp
            refine hK.out _ _ ?_ (fun hHeld => ?_)
            · exact HC.out _ hB
            clear hK K
            try simp only [List.getElem_toArray, List.getElem_cons_succ, List.getElem_cons_zero, Act.put, List.setIfInBounds_toArray, List.set_cons_zero, List.set_cons_succ]
            refine wpAnyH_done (by kernel_rfl) ?_ _
            try dsimp only [Exit.then]
            clear HC
            go_wp2_with fail
            go_meet
            case rel => exact ⟨A8, n8, c8, f8, rfl, rfl, HQ8, hB⟩
          · clear hHeld
            go_simp
            have hv4 := heap_alloc_new w0 (.cells #[.int .i64 4, .int .i64 10, .string ⟨#[]⟩, .int .i64 0, .slice (some ⟨KB, 0, none⟩) 2 2, .int .i64 k2, .int .i64 o2, .string n2, .int .i64 v2, .slice A2 m2 c2] 53)
            have hvlt : w0.heap.size < (w0.alloc (.cells #[.int .i64 4, .int .i64 10, .string ⟨#[]⟩, .int .i64 0, .slice (some ⟨KB, 0, none⟩) 2 2, .int .i64 k2, .int .i64 o2, .string n2, .int .i64 v2, .slice A2 m2 c2] 53)).heap.size := by simp
            replace hB := hB.trans ((below_alloc w0 (.cells #[.int .i64 4, .int .i64 10, .string ⟨#[]⟩, .int .i64 0, .slice (some ⟨KB, 0, none⟩) 2 2, .int .i64 k2, .int .i64 o2, .string n2, .int .i64 v2, .slice A2 m2 c2] 53)).mono hB.size)
            generalize w0.alloc _ = W4 at hB hv4 hvlt ⊢
            refine hK.out _ _ ?_ (fun hHeld => ?_)
            · exact HC.out _ hB
            clear hK K
            try simp only [List.getElem_toArray, List.getElem_cons_succ, List.getElem_cons_zero, Act.put, List.setIfInBounds_toArray, List.set_cons_zero, List.set_cons_succ]
            refine wpAnyH_ready (rs := [2]) (by kernel_rfl) (by simp) ?_
            refine AllReadyH.cons rfl (fun K hK => ?_) AllReadyH.nil
            clear hHeld
            go_simp
            refine (HCL.out _ hB).mono ?_
            rintro e W2 ⟨hb2, v2', rc2, rfl, hq2⟩
            obtain ⟨p2, d2, e2⟩ := own_form hq2.row
            subst e2
            have hv5 := (hb2.block _ hvlt).trans hv4
            have hbs5 := hb2.size
            have hob : (Value.slice p2 rs.length d2).ownBlock ≠ some w0.heap.size := fun e => by have := World.ownsRow.lt hq2.row _ e; omega
            replace hB := hB.trans (hb2.mono hB.size)
            clear hb2
            refine hK.out _ _ ?_ (fun hHeld => ?_)
            · exact HC.out _ hB
            clear hK K
            try simp only [List.getElem_toArray, List.getElem_cons_succ, List.getElem_cons_zero, Act.put, List.setIfInBounds_toArray, List.set_cons_zero, List.set_cons_succ]
            refine wpAnyH_ready (rs := [12]) (by kernel_rfl) (by simp) ?_
            refine AllReadyH.cons rfl (fun K hK => ?_) AllReadyH.nil
            clear hHeld
            go_simp
            refine (ins_rule (B := w18.heap.size) rs3 HRS3.out HII.out hq2 (by have := HZ0.out; omega) hbs5 (by have := HL16.out; omega) hob hv5 (HRN.out _ hB)).mono ?_
            rintro e W5 ⟨hb5, A5, c5, rfl, hP5⟩
            replace hB := hB.trans (hb5.mono (by have := HZ0.out; omega))
            clear hb5
            try dsimp only
            refine hK.out _ _ ?_ (fun hHeld => ?_)
            · exact HC.out _ hB
            clear hK K
            try simp only [List.getElem_toArray, List.getElem_cons_succ, List.getElem_cons_zero, Act.put, List.setIfInBounds_toArray, List.set_cons_zero, List.set_cons_succ]
            refine wpAnyH_take (i := 13) (v := ?_) rfl (by kernel_rfl) (by kernel_rfl) (by kernel_rfl) (fun _ _ _ h => h) (Or.inl ⟨by kernel_rfl, ?_⟩) (by assumption) ?_
            rotate_left
            · intro w hSw; (try dsimp only at hSw); go_simp; with_reducible rfl
            try simp only [List.getElem_toArray, List.getElem_cons_succ, List.getElem_cons_zero, Act.put, List.setIfInBounds_toArray, List.set_cons_zero, List.set_cons_succ]
            refine wpAnyH_ready (rs := [15]) (by kernel_rfl) (by simp) ?_
            refine AllReadyH.cons rfl (fun K hK => ?_) AllReadyH.nil
            clear hHeld
            go_simp
            refine (HOR3.out _ hB A5 c5 hP5).mono ?_
            rintro e W8 h8
            obtain ⟨hb8, A8, n8, c8, f8, rfl, HQ8⟩ := ordR_form h8
            replace hB := hB.trans (hb8.mono hB.size)
            clear hb8 h8
            try dsimp only
            refine hK.out _ _ ?_ (fun hHeld => ?_)
            · exact HC.out _ hB
            clear hK K
            try simp only [List.getElem_toArray, List.getElem_cons_succ, List.getElem_cons_zero, Act.put, List.setIfInBounds_toArray, List.set_cons_zero, List.set_cons_succ]
            refine wpAnyH_take (i := 16) (v := ?_) rfl (by kernel_rfl) (by kernel_rfl) (by kernel_rfl) (fun _ _ _ h => h) (Or.inl ⟨by kernel_rfl, ?_⟩) (by assumption) ?_
            rotate_left
            · intro w hSw; (try dsimp only at hSw); go_simp; with_reducible rfl
            try simp only [List.getElem_toArray, List.getElem_cons_succ, List.getElem_cons_zero, Act.put, List.setIfInBounds_toArray, List.set_cons_zero, List.set_cons_succ]
            refine wpAnyH_take (i := 17) (v := ?_) rfl (by kernel_rfl) (by kernel_rfl) (by kernel_rfl) (fun _ _ _ h => h) (Or.inl ⟨by kernel_rfl, ?_⟩) (by assumption) ?_
            rotate_left
            · intro w hSw; (try dsimp only at hSw); go_simp; with_reducible rfl
            try simp only [List.getElem_toArray, List.getElem_cons_succ, List.getElem_cons_zero, Act.put, List.setIfInBounds_toArray, List.set_cons_zero, List.set_cons_succ]
            refine wpAnyH_take (i := 18) (v := ?_) rfl (by kernel_rfl) (by kernel_rfl) (by kernel_rfl) (fun _ _ _ h => h) (Or.inl ⟨by kernel_rfl, ?_⟩) (by assumption) ?_
            rotate_left
            · intro w hSw; (try dsimp only at hSw); go_simp; with_reducible rfl
            try simp only [List.getElem_toArray, List.getElem_cons_succ, List.getElem_cons_zero, Act.put, List.setIfInBounds_toArray, List.set_cons_zero, List.set_cons_succ]
            refine wpAnyH_ready (rs := [19]) (by kernel_rfl) (by simp) ?_
            refine AllReadyH.cons rfl (fun K hK => ?_) AllReadyH.nil
            clear hHeld
            go_simp
            refine hK.out _ _ ?_ (fun hHeld => ?_)
            · exact HC.out _ hB
            clear hK K
            try simp only [List.getElem_toArray, List.getElem_cons_succ, List.getElem_cons_zero, Act.put, List.setIfInBounds_toArray, List.set_cons_zero, List.set_cons_succ]
            refine wpAnyH_ready (rs := [20]) (by kernel_rfl) (by simp) ?_
            refine AllReadyH.cons rfl (fun K hK => ?_) AllReadyH.nil
            clear hHeld
            go_simp
            refine hK.out _ _ ?_ (fun hHeld => ?_)
            · exact HC.out _ hB
            clear hK K
            try simp only [List.getElem_toArray, List.getElem_cons_succ, List.getElem_cons_zero, Act.put, List.setIfInBounds_toArray, List.set_cons_zero, List.set_cons_succ]
            refine wpAnyH_done (by kernel_rfl) ?_ _
            try dsimp only [Exit.then]
            clear HC
            go_wp2_with fail
            go_meet
            case rel => exact ⟨A8, n8, c8, f8, rfl, rfl, HQ8, hB⟩
        case rest =>
          obtain ⟨A19, n19, c19, f19, rfl, rfl, HQ19, hbx⟩ := hcut
          clear x0 y0 y1 y2 y3 y4 y5 y6 y7 y8 y9 l0 HC HCL HRN HOR3
          have hO := HO18.out.next hbx
          obtain ⟨e19, hn19, -, l19, ho19, hr19⟩ := HQ19.out.ok (by rw [HRS3.out]; exact chk_ins HCK.out (by have := HCK2.out; rwa [HRS2.out] at this) HL16.out ii) HFIT.out
          have hi19 : l19 = l9 := by
            rw [HRS3.out] at ho19
            exact ord_ins (fun k => (ls.getD k ⟨0, 0, []⟩).vals) rs ⟨nvE, r.key⟩ (fun l => nv_key l r.key) ii HII.out HO9.out ho19
          subst e19 hn19 hi19
          have HB19 := Lib.hid (HB18.out.trans (hbx.mono HB18.out.size))
          have HEQ := Lib.hid (eq_n A19 A9 c19 c9 _ _ ls.length l19 _ HL9.out hr19 (Rd.below' HR9.out (HB10.out.trans (HB19.out.mono HB10.out.size)) (Nat.le_refl _)) (by have := HL12.out; omega))
          unfold Ret at HEQ
          have HBL := Lib.hid hO.two.below
          have x0 := hO.two.fst 0 _ rfl
          obtain ⟨q0, q1, q2, q3, q4, q5, q6, q7, q8, q9⟩ := bx10 hO.two.snd
          have l0 := hO.thd 0 _ rfl
          clear hr19 ho19 HQ19 hO hbx hrem hcv hln hiw hnz hnz2
          go_wp2_with (first
            | (go_at_call 20; refine HEQ.out.mono ?_; rintro e w20 ⟨rfl, hb20⟩; have HB20 := Lib.hid (HBL.out.trans (hb20.mono HBL.out.size)))
            | (go_at_call 7; refine (HAW.out _ HB20.out).mono ?_; rintro e w21 ⟨rfl, hb21⟩))
          go_ret
          exact ⟨rfl, HB20.out.trans (hb21.mono HB20.out.size)⟩
theorem rules_any (A : Option Addr) (c B : Nat) (rs : List Rl) (cs : List Value) (r : Rl) (Al : Option Addr) (cl : Nat) (ls : List At) (at_ : Nat) (w : World) (hP : LiesP w B A c rs) (hB : B ≤ w.heap.size) (hR : RuleB B w cs r) (hL : LiesA w B Al cl ls)
    (hAW : ∀ W, Below w.heap.size w W → Calls Tryz.prog 7 #[] W (Ret (.bool true) W)) (hat : at_ < 256) :
    Calls Tryz.prog 5 #[.agg #[.slice A rs.length c], .agg cs.toArray, .slice Al ls.length cl, .int .u8 (at_ : Nat)] w (Ret (.bool true) w) := by
  cases hg : grtP rs with
  | true => exact rules_e1 A c B rs cs r Al cl ls at_ w hP hB hR hL hAW hg
  | false =>
    cases hg2 : grtP [r] with
    | true => exact rules_e2 A c B rs cs r Al cl ls at_ w hP hB hR hL hAW hg hg2
    | false =>
      by_cases h12 : ls.length ≤ 12
      rotate_left
      · exact rules_e3 A c B rs cs r Al cl ls at_ w hP hB hR hL hAW hg hg2 (by omega)
      by_cases h16 : rs.length < 16
      · exact rules_main A c B rs cs r Al cl ls at_ w hP hB hR hL hAW hat hg hg2 h12 h16
      · exact rules_e4 A c B rs cs r Al cl ls at_ w hP hB hR hL hAW hg hg2 h12 (by omega)
end Go.Proofs.YtkiilaajomjinaaGreatDoor
