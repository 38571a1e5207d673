/- PolicyRules, walked. Conditions: the policy, the rule and the attributes lie in memory; the example gives true. -/
import Derived.Test.YtkiilaajomjinaaGreatDoorPrRc6
import Derived.Test.YtkiilaajomjinaaGreatDoorPrPs0
import Derived.Deep.Cut
import Derived.Deep.DeepCutAuto
namespace Go.Proofs.YtkiilaajomjinaaGreatDoor
open Go.RowKit
theorem rd_more {W : World} {B B' s n : Nat} {A : Option Addr} {xs : List Value} (h : Rd W B s A n xs) (hB : B ≤ B') : Rd W B' s A n xs := by
  refine ⟨h.1, ?_⟩
  rcases h.2 with h0 | ⟨b, off, e, hb, hc⟩
  · exact .inl h0
  · exact .inr ⟨b, off, e, by omega, hc⟩
theorem LiesA.more {w : World} {B B' : Nat} {A : Option Addr} {c : Nat} {ls : List At} (h : LiesA w B A c ls) (hB : B ≤ B') : LiesA w B' A c ls := by
  refine ⟨h.len, fun i hi => ?_⟩
  obtain ⟨hl, b, off, A', c', e, hbB, hr, x0, x1, x2⟩ := h.at_ i hi
  exact ⟨hl, b, off, A', c', e, by omega, rd_more hr hB, x0, x1, x2⟩
set_option maxRecDepth 100000 in
set_option maxHeartbeats 12800000 in
theorem rules_e1 (A : Option Addr) (c B : Nat) (rs : List Rl) (cs : List Value) (r : Rl) (Al : Option Addr) (cl : Nat) (ls : List At) (at_ : Nat) (w : World) (hP : LiesP w B A c rs) (hB : B ≤ w.heap.size) (hR : RuleB B w cs r) (hL : LiesA w B Al cl ls)
    (hAW : ∀ W, Below w.heap.size w W → Calls Tryz.prog 7 #[] W (Ret (.bool true) W)) (hg : grtP rs = true) :
    Calls Tryz.prog 5 #[.agg #[.slice A rs.length c], .agg cs.toArray, .slice Al ls.length cl, .int .u8 (at_ : Nat)] w (Ret (.bool true) w) := by
  have hll := hL.len
  have hrl := hP.len
  have HGR := Lib.hid (fun (W : World) (hW : Below w.heap.size w W) => great_any A c B rs W (hP.below' hW hB) (Nat.le_trans hB hW.size))
  have HRB0 := Lib.hid (fun (W : World) (hW : Below w.heap.size w W) => hR.below' hW hB)
  have HP0 := Lib.hid (fun (W : World) (hW : Below w.heap.size w W) => hP.below' hW hB)
  have HL0 := Lib.hid (fun (W : World) (hW : Below w.heap.size w W) => hL.below' hW hB)
  have HAW := Lib.hid hAW
  obtain ⟨k1, o1, n1, v1, A1, m1, c1, k2, o2, n2, v2, A2, m2, c2, rfl, -, -⟩ := hR
  simp only [exC, List.cons_append, List.nil_append] at HRB0 ⊢
  have HGO := Lib.hid (fun (W : World) (hW : Below w.heap.size w W) => great_any (some ⟨W.heap.size, 0, none⟩) 1 (W.heap.size + 1) [r] (W.alloc (.cells #[.int .i64 k1, .int .i64 o1, .string n1, .int .i64 v1, .slice A1 m1 c1, .int .i64 k2, .int .i64 o2, .string n2, .int .i64 v2, .slice A2 m2 c2] 53)) (lies_one (B := B) (HRB0.out _ (hW.trans ((below_alloc W (.cells #[.int .i64 k1, .int .i64 o1, .string n1, .int .i64 v1, .slice A1 m1 c1, .int .i64 k2, .int .i64 o2, .string n2, .int .i64 v2, .slice A2 m2 c2] 53)).mono hW.size))) (heap_alloc_new W _) (Nat.le_trans hB hW.size)) (by simp))
  have hO := three_new w #[.slice A rs.length c] #[.int .i64 k1, .int .i64 o1, .string n1, .int .i64 v1, .slice A1 m1 c1, .int .i64 k2, .int .i64 o2, .string n2, .int .i64 v2, .slice A2 m2 c2] #[.slice Al ls.length cl] 24 53 35
  unfold Ret at HGR HGO HAW
  unfold Ret
  clear hP hL hAW
  rw [hg] at HGR
  clear hg
  go_enter Tryz.func5, Tryz.ntmps5
  go_upto_region 1 with fail
  generalize World.alloc _ _ = w1 at hO ⊢
  have x0 := hO.two.fst 0 _ rfl
  obtain ⟨q0, q1, q2, q3, q4, q5, q6, q7, q8, q9⟩ := bx10 hO.two.snd
  have l0 := hO.thd 0 _ rfl
  go_wp2_with fail
  refine (HGR.out _ hO.two.below).mono ?_
  rintro e w2 ⟨rfl, hb2⟩
  clear x0 q0 q1 q2 q3 q4 q5 q6 q7 q8 q9 l0
  replace hO := hO.next hb2
  clear hb2
  have x0 := hO.two.fst 0 _ rfl
  obtain ⟨q0, q1, q2, q3, q4, q5, q6, q7, q8, q9⟩ := bx10 hO.two.snd
  have l0 := hO.thd 0 _ rfl
  go_wp2_with (go_at_call 7; refine (HAW.out _ hO.two.below).mono ?_; rintro e w9 ⟨rfl, hb9⟩)
  go_ret
  exact ⟨rfl, hO.two.below.trans (hb9.mono hO.two.below.size)⟩
set_option maxRecDepth 100000 in
set_option maxHeartbeats 12800000 in
theorem rules_e2 (A : Option Addr) (c B : Nat) (rs : List Rl) (cs : List Value) (r : Rl) (Al : Option Addr) (cl : Nat) (ls : List At) (at_ : Nat) (w : World) (hP : LiesP w B A c rs) (hB : B ≤ w.heap.size) (hR : RuleB B w cs r) (hL : LiesA w B Al cl ls)
    (hAW : ∀ W, Below w.heap.size w W → Calls Tryz.prog 7 #[] W (Ret (.bool true) W)) (hg : grtP rs = false) (hg2 : grtP [r] = true) :
    Calls Tryz.prog 5 #[.agg #[.slice A rs.length c], .agg cs.toArray, .slice Al ls.length cl, .int .u8 (at_ : Nat)] w (Ret (.bool true) w) := by
  have hll := hL.len
  have hrl := hP.len
  have HGR := Lib.hid (fun (W : World) (hW : Below w.heap.size w W) => great_any A c B rs W (hP.below' hW hB) (Nat.le_trans hB hW.size))
  have HRB0 := Lib.hid (fun (W : World) (hW : Below w.heap.size w W) => hR.below' hW hB)
  have HP0 := Lib.hid (fun (W : World) (hW : Below w.heap.size w W) => hP.below' hW hB)
  have HL0 := Lib.hid (fun (W : World) (hW : Below w.heap.size w W) => hL.below' hW hB)
  have HAW := Lib.hid hAW
  obtain ⟨k1, o1, n1, v1, A1, m1, c1, k2, o2, n2, v2, A2, m2, c2, rfl, -, -⟩ := hR
  simp only [exC, List.cons_append, List.nil_append] at HRB0 ⊢
  have HGO := Lib.hid (fun (W : World) (hW : Below w.heap.size w W) => great_any (some ⟨W.heap.size, 0, none⟩) 1 (W.heap.size + 1) [r] (W.alloc (.cells #[.int .i64 k1, .int .i64 o1, .string n1, .int .i64 v1, .slice A1 m1 c1, .int .i64 k2, .int .i64 o2, .string n2, .int .i64 v2, .slice A2 m2 c2] 53)) (lies_one (B := B) (HRB0.out _ (hW.trans ((below_alloc W (.cells #[.int .i64 k1, .int .i64 o1, .string n1, .int .i64 v1, .slice A1 m1 c1, .int .i64 k2, .int .i64 o2, .string n2, .int .i64 v2, .slice A2 m2 c2] 53)).mono hW.size))) (heap_alloc_new W _) (Nat.le_trans hB hW.size)) (by simp))
  have hO := three_new w #[.slice A rs.length c] #[.int .i64 k1, .int .i64 o1, .string n1, .int .i64 v1, .slice A1 m1 c1, .int .i64 k2, .int .i64 o2, .string n2, .int .i64 v2, .slice A2 m2 c2] #[.slice Al ls.length cl] 24 53 35
  unfold Ret at HGR HGO HAW
  unfold Ret
  clear hP hL hAW
  rw [hg] at HGR
  rw [hg2] at HGO
  clear hg hg2
  go_enter Tryz.func5, Tryz.ntmps5
  go_upto_region 1 with fail
  generalize World.alloc _ _ = w1 at hO ⊢
  have x0 := hO.two.fst 0 _ rfl
  obtain ⟨q0, q1, q2, q3, q4, q5, q6, q7, q8, q9⟩ := bx10 hO.two.snd
  have l0 := hO.thd 0 _ rfl
  go_wp2_with fail
  refine (HGR.out _ hO.two.below).mono ?_
  rintro e w2 ⟨rfl, hb2⟩
  clear x0 q0 q1 q2 q3 q4 q5 q6 q7 q8 q9 l0
  replace hO := hO.next hb2
  clear hb2
  have x0 := hO.two.fst 0 _ rfl
  obtain ⟨q0, q1, q2, q3, q4, q5, q6, q7, q8, q9⟩ := bx10 hO.two.snd
  have l0 := hO.thd 0 _ rfl
  have HG2 := Lib.hid (HGO.out w2 hO.two.below)
  replace hO := hO.next (below_alloc w2 (.cells #[.int .i64 k1, .int .i64 o1, .string n1, .int .i64 v1, .slice A1 m1 c1, .int .i64 k2, .int .i64 o2, .string n2, .int .i64 v2, .slice A2 m2 c2] 53))
  go_wp2_with fail
  refine HG2.out.mono ?_
  rintro e w3 ⟨rfl, hb3⟩
  clear x0 q0 q1 q2 q3 q4 q5 q6 q7 q8 q9 l0
  replace hO := hO.next hb3
  clear hb3 HG2
  have x0 := hO.two.fst 0 _ rfl
  obtain ⟨q0, q1, q2, q3, q4, q5, q6, q7, q8, q9⟩ := bx10 hO.two.snd
  have l0 := hO.thd 0 _ rfl
  go_wp2_with (go_at_call 7; refine (HAW.out _ hO.two.below).mono ?_; rintro e w9 ⟨rfl, hb9⟩)
  go_ret
  exact ⟨rfl, hO.two.below.trans (hb9.mono hO.two.below.size)⟩
set_option maxRecDepth 100000 in
set_option maxHeartbeats 12800000 in
theorem rules_e3 (A : Option Addr) (c B : Nat) (rs : List Rl) (cs : List Value) (r : Rl) (Al : Option Addr) (cl : Nat) (ls : List At) (at_ : Nat) (w : World) (hP : LiesP w B A c rs) (hB : B ≤ w.heap.size) (hR : RuleB B w cs r) (hL : LiesA w B Al cl ls)
    (hAW : ∀ W, Below w.heap.size w W → Calls Tryz.prog 7 #[] W (Ret (.bool true) W)) (hg : grtP rs = false) (hg2 : grtP [r] = false) (h12 : 12 < ls.length) :
    Calls Tryz.prog 5 #[.agg #[.slice A rs.length c], .agg cs.toArray, .slice Al ls.length cl, .int .u8 (at_ : Nat)] w (Ret (.bool true) w) := by
  have hll := hL.len
  have hrl := hP.len
  have HGR := Lib.hid (fun (W : World) (hW : Below w.heap.size w W) => great_any A c B rs W (hP.below' hW hB) (Nat.le_trans hB hW.size))
  have HRB0 := Lib.hid (fun (W : World) (hW : Below w.heap.size w W) => hR.below' hW hB)
  have HP0 := Lib.hid (fun (W : World) (hW : Below w.heap.size w W) => hP.below' hW hB)
  have HL0 := Lib.hid (fun (W : World) (hW : Below w.heap.size w W) => hL.below' hW hB)
  have HAW := Lib.hid hAW
  obtain ⟨k1, o1, n1, v1, A1, m1, c1, k2, o2, n2, v2, A2, m2, c2, rfl, -, -⟩ := hR
  simp only [exC, List.cons_append, List.nil_append] at HRB0 ⊢
  have HGO := Lib.hid (fun (W : World) (hW : Below w.heap.size w W) => great_any (some ⟨W.heap.size, 0, none⟩) 1 (W.heap.size + 1) [r] (W.alloc (.cells #[.int .i64 k1, .int .i64 o1, .string n1, .int .i64 v1, .slice A1 m1 c1, .int .i64 k2, .int .i64 o2, .string n2, .int .i64 v2, .slice A2 m2 c2] 53)) (lies_one (B := B) (HRB0.out _ (hW.trans ((below_alloc W (.cells #[.int .i64 k1, .int .i64 o1, .string n1, .int .i64 v1, .slice A1 m1 c1, .int .i64 k2, .int .i64 o2, .string n2, .int .i64 v2, .slice A2 m2 c2] 53)).mono hW.size))) (heap_alloc_new W _) (Nat.le_trans hB hW.size)) (by simp))
  have hO := three_new w #[.slice A rs.length c] #[.int .i64 k1, .int .i64 o1, .string n1, .int .i64 v1, .slice A1 m1 c1, .int .i64 k2, .int .i64 o2, .string n2, .int .i64 v2, .slice A2 m2 c2] #[.slice Al ls.length cl] 24 53 35
  unfold Ret at HGR HGO HAW
  unfold Ret
  clear hP hL hAW
  rw [hg] at HGR
  rw [hg2] at HGO
  have d1 : decide ((ls.length : Int) > 12) = true := decide_eq_true (by omega)
  have d2 : decide (12 < (ls.length : Int)) = true := decide_eq_true (by omega)
  have d3 : decide (12 < ls.length) = true := decide_eq_true (by omega)
  clear hg hg2
  go_enter Tryz.func5, Tryz.ntmps5
  go_upto_region 1 with fail
  generalize World.alloc _ _ = w1 at hO ⊢
  have x0 := hO.two.fst 0 _ rfl
  obtain ⟨q0, q1, q2, q3, q4, q5, q6, q7, q8, q9⟩ := bx10 hO.two.snd
  have l0 := hO.thd 0 _ rfl
  go_wp2_with fail
  refine (HGR.out _ hO.two.below).mono ?_
  rintro e w2 ⟨rfl, hb2⟩
  clear x0 q0 q1 q2 q3 q4 q5 q6 q7 q8 q9 l0
  replace hO := hO.next hb2
  clear hb2
  have x0 := hO.two.fst 0 _ rfl
  obtain ⟨q0, q1, q2, q3, q4, q5, q6, q7, q8, q9⟩ := bx10 hO.two.snd
  have l0 := hO.thd 0 _ rfl
  have HG2 := Lib.hid (HGO.out w2 hO.two.below)
  replace hO := hO.next (below_alloc w2 (.cells #[.int .i64 k1, .int .i64 o1, .string n1, .int .i64 v1, .slice A1 m1 c1, .int .i64 k2, .int .i64 o2, .string n2, .int .i64 v2, .slice A2 m2 c2] 53))
  go_wp2_with fail
  refine HG2.out.mono ?_
  rintro e w3 ⟨rfl, hb3⟩
  clear x0 q0 q1 q2 q3 q4 q5 q6 q7 q8 q9 l0
  replace hO := hO.next hb3
  clear hb3 HG2
  have x0 := hO.two.fst 0 _ rfl
  obtain ⟨q0, q1, q2, q3, q4, q5, q6, q7, q8, q9⟩ := bx10 hO.two.snd
  have l0 := hO.thd 0 _ rfl
  go_wp2_with (go_at_call 7; refine (HAW.out _ hO.two.below).mono ?_; rintro e w9 ⟨rfl, hb9⟩)
  go_ret
  exact ⟨rfl, hO.two.below.trans (hb9.mono hO.two.below.size)⟩
set_option maxRecDepth 100000 in
set_option maxHeartbeats 12800000 in
theorem rules_e4 (A : Option Addr) (c B : Nat) (rs : List Rl) (cs : List Value) (r : Rl) (Al : Option Addr) (cl : Nat) (ls : List At) (at_ : Nat) (w : World) (hP : LiesP w B A c rs) (hB : B ≤ w.heap.size) (hR : RuleB B w cs r) (hL : LiesA w B Al cl ls)
    (hAW : ∀ W, Below w.heap.size w W → Calls Tryz.prog 7 #[] W (Ret (.bool true) W)) (hg : grtP rs = false) (hg2 : grtP [r] = false) (h12 : ls.length ≤ 12) (h16 : 16 ≤ rs.length) :
    Calls Tryz.prog 5 #[.agg #[.slice A rs.length c], .agg cs.toArray, .slice Al ls.length cl, .int .u8 (at_ : Nat)] w (Ret (.bool true) w) := by
  have hll := hL.len
  have hrl := hP.len
  have HGR := Lib.hid (fun (W : World) (hW : Below w.heap.size w W) => great_any A c B rs W (hP.below' hW hB) (Nat.le_trans hB hW.size))
  have HRB0 := Lib.hid (fun (W : World) (hW : Below w.heap.size w W) => hR.below' hW hB)
  have HP0 := Lib.hid (fun (W : World) (hW : Below w.heap.size w W) => hP.below' hW hB)
  have HL0 := Lib.hid (fun (W : World) (hW : Below w.heap.size w W) => hL.below' hW hB)
  have HAW := Lib.hid hAW
  obtain ⟨k1, o1, n1, v1, A1, m1, c1, k2, o2, n2, v2, A2, m2, c2, rfl, -, -⟩ := hR
  simp only [exC, List.cons_append, List.nil_append] at HRB0 ⊢
  have HGO := Lib.hid (fun (W : World) (hW : Below w.heap.size w W) => great_any (some ⟨W.heap.size, 0, none⟩) 1 (W.heap.size + 1) [r] (W.alloc (.cells #[.int .i64 k1, .int .i64 o1, .string n1, .int .i64 v1, .slice A1 m1 c1, .int .i64 k2, .int .i64 o2, .string n2, .int .i64 v2, .slice A2 m2 c2] 53)) (lies_one (B := B) (HRB0.out _ (hW.trans ((below_alloc W (.cells #[.int .i64 k1, .int .i64 o1, .string n1, .int .i64 v1, .slice A1 m1 c1, .int .i64 k2, .int .i64 o2, .string n2, .int .i64 v2, .slice A2 m2 c2] 53)).mono hW.size))) (heap_alloc_new W _) (Nat.le_trans hB hW.size)) (by simp))
  have hO := three_new w #[.slice A rs.length c] #[.int .i64 k1, .int .i64 o1, .string n1, .int .i64 v1, .slice A1 m1 c1, .int .i64 k2, .int .i64 o2, .string n2, .int .i64 v2, .slice A2 m2 c2] #[.slice Al ls.length cl] 24 53 35
  unfold Ret at HGR HGO HAW
  unfold Ret
  clear hP hL hAW
  rw [hg] at HGR
  rw [hg2] at HGO
  have d1 : decide ((ls.length : Int) > 12) = false := decide_eq_false (by omega)
  have d2 : decide (12 < (ls.length : Int)) = false := decide_eq_false (by omega)
  have d3 : decide (12 < ls.length) = false := decide_eq_false (by omega)
  have f1 : decide ((rs.length : Int) ≥ 16) = true := decide_eq_true (by omega)
  have f2 : decide (16 ≤ (rs.length : Int)) = true := decide_eq_true (by omega)
  have f3 : decide (16 ≤ rs.length) = true := decide_eq_true (by omega)
  clear hg hg2
  go_enter Tryz.func5, Tryz.ntmps5
  go_upto_region 1 with fail
  generalize World.alloc _ _ = w1 at hO ⊢
  have x0 := hO.two.fst 0 _ rfl
  obtain ⟨q0, q1, q2, q3, q4, q5, q6, q7, q8, q9⟩ := bx10 hO.two.snd
  have l0 := hO.thd 0 _ rfl
  go_wp2_with fail
  refine (HGR.out _ hO.two.below).mono ?_
  rintro e w2 ⟨rfl, hb2⟩
  clear x0 q0 q1 q2 q3 q4 q5 q6 q7 q8 q9 l0
  replace hO := hO.next hb2
  clear hb2
  have x0 := hO.two.fst 0 _ rfl
  obtain ⟨q0, q1, q2, q3, q4, q5, q6, q7, q8, q9⟩ := bx10 hO.two.snd
  have l0 := hO.thd 0 _ rfl
  have HG2 := Lib.hid (HGO.out w2 hO.two.below)
  replace hO := hO.next (below_alloc w2 (.cells #[.int .i64 k1, .int .i64 o1, .string n1, .int .i64 v1, .slice A1 m1 c1, .int .i64 k2, .int .i64 o2, .string n2, .int .i64 v2, .slice A2 m2 c2] 53))
  go_wp2_with fail
  refine HG2.out.mono ?_
  rintro e w3 ⟨rfl, hb3⟩
  clear x0 q0 q1 q2 q3 q4 q5 q6 q7 q8 q9 l0
  replace hO := hO.next hb3
  clear hb3 HG2
  have x0 := hO.two.fst 0 _ rfl
  obtain ⟨q0, q1, q2, q3, q4, q5, q6, q7, q8, q9⟩ := bx10 hO.two.snd
  have l0 := hO.thd 0 _ rfl
  go_wp2_with (go_at_call 7; refine (HAW.out _ hO.two.below).mono ?_; rintro e w9 ⟨rfl, hb9⟩)
  go_ret
  exact ⟨rfl, hO.two.below.trans (hb9.mono hO.two.below.size)⟩
end Go.Proofs.YtkiilaajomjinaaGreatDoor
