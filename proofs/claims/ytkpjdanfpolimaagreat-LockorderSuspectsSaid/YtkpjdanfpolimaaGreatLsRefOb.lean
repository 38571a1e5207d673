/- ref13.checkObject, walked. Conditions: the program lies in memory. -/
import Derived.Test.YtkpjdanfpolimaaGreatLsSlice
import Derived.Deep.QuietTactic
import Derived.BigQuiet
set_option maxRecDepth 100000
set_option maxHeartbeats 3200000
namespace Go.Proofs.YtkpjdanfpolimaaGreat
open Go.RowKit
theorem below_drews (B : Nat) (w : World) (n : Nat) : Below B w (w.drewN n) := ⟨rfl, rfl, rfl, Nat.le_refl _, fun _ _ => rfl⟩
theorem refOb_any (p : Prg) (k : Nat) (hk : k < p.obs.length) (w : World) (h : Lies w w.heap.size p) : Calls Tryz.prog 62 #[p.val, .int .i64 k] w (RetE (obOk p k p.obs[k]) w) := by
 have hn := h.obN
 unfold maxLen at hn
 obtain ⟨b, off, hA, hb, c0, c1, c2, c3⟩ := h.ob hk
 have hnm := h.obNm p.obs[k] (List.getElem_mem _)
 obtain ⟨o, ho⟩ : ∃ o, p.obs[k] = o := ⟨_, rfl⟩
 rw [ho] at c0 c1 c2 c3 hnm ⊢
 obtain ⟨nm, kd, sz, ot⟩ := o
 dsimp only at c0 c1 c2 c3 hnm
 obtain ⟨V, hV⟩ : ∃ V, V = obOk p k ⟨nm, kd, sz, ot⟩ := ⟨_, rfl⟩
 rw [← hV]
 have HV := Lib.hid (show V ↔ obOk p k ⟨nm, kd, sz, ot⟩ from by rw [hV])
 clear hV
 have hk0 : (0 : Int) ≤ (k : Int) := by omega
 have hk1 : (k : Int) < (p.obs.length : Int) := by omega
 have hval : p.val = .agg #[.slice p.funA p.funs.length p.funC, .slice (some ⟨b, off, none⟩) p.obs.length p.obC, .slice p.vrA p.vrs.length p.vrC] := by rw [Prg.val, hA]
 rw [hval]
 have hT := two_new w #[.slice p.funA p.funs.length p.funC, .slice (some ⟨b, off, none⟩) p.obs.length p.obC, .slice p.vrA p.vrs.length p.vrC] #[.string nm, .int .i64 kd, .int .i64 sz, .int .i64 ot] 26 65
 go_enter Tryz.func62, Tryz.ntmps62
 go_wp2_with fail
 generalize World.alloc (World.alloc w _) _ = W1 at hT ⊢
 refine (refName_any nm hnm _).mono ?_
 cases hq1 : nameOk nm.data.toList with
 | false =>
  rintro e W4 ⟨rfl, hb4⟩
  have hT4 := hT.next hb4
  have hno : ¬ V := fun v => by rw [HV.out] at v; exact absurd (hq1.symm.trans v.1) (by decide)
  clear HV hq1
  go_wp2_with fail
  go_ret
  exact retE_no (by decide) hno hT4.below
 | true =>
  rintro e W4 ⟨rfl, hb4⟩
  have hT4 := hT.next hb4
  obtain ⟨x40, x41, x42⟩ := bx3 hT4.fst
  obtain ⟨y40, y41, y42, y43⟩ := bx4 hT4.snd
  have HQ1 := Lib.hid hq1
  clear hq1
  go_wp2_with fail
  refine (between_any _ _ _ _).mono ?_
  cases hq2 : inR2 kd 1 9 with
  | false =>
   rintro e W5 ⟨rfl, hb5⟩
   have hT5 := hT4.next hb5
   have hno : ¬ V := fun v => by rw [HV.out] at v; exact absurd (hq2.symm.trans v.2.1) (by decide)
   clear HV hq2
   go_wp2_with fail
   go_ret
   exact retE_no (by decide) hno hT5.below
  | true =>
   rintro e W5 ⟨rfl, hb5⟩
   have hT5 := hT4.next hb5
   obtain ⟨x50, x51, x52⟩ := bx3 hT5.fst
   obtain ⟨y50, y51, y52, y53⟩ := bx4 hT5.snd
   have HQ2 := Lib.hid hq2
   have hkr : 1 ≤ kd ∧ kd ≤ 9 := by unfold inR2 at hq2; simpa using hq2
   clear hq2 x40 x41 x42 y40 y41 y42 y43
   have hkd : kd = 1 ∨ kd = 2 ∨ kd = 3 ∨ kd = 4 ∨ kd = 5 ∨ kd = 6 ∨ kd = 7 ∨ kd = 8 ∨ kd = 9 := by omega
   clear hkr
   rcases hkd with rfl | rfl | rfl | rfl | rfl | rfl | rfl | rfl | rfl
   ·have HV2 := Lib.hid (show V ↔ nameOk nm.data.toList = true ∧ inR2 1 1 9 = true ∧ inR2 sz 0 0 = true ∧ inR2 ot 0 0 = true ∧ ((1 : Int) = 3 → ∃ q, p.obs[ot.toNat]? = some q ∧ q.kind = 1) ∧ ∀ q ∈ p.obs.take k, q.name ≠ nm from HV.out)
    clear HV
    have hwr : IntKind.i64.wrap ((p.obs.length : Int) - 1) = (p.obs.length : Int) - 1 := by rw [IntKind.wrap_i64]; omega
    go_wp2_with fail
    refine (between_any _ _ _ _).mono ?_
    cases hq3 : inR2 sz 0 0 with
    | false =>
     rintro e W6 ⟨rfl, hb6⟩
     have hT6 := hT5.next hb6
     have hno : ¬ V := fun v => by rw [HV2.out] at v; exact absurd (hq3.symm.trans v.2.2.1) (by decide)
     clear HV2 hq3
     go_wp2_with fail
     go_ret
     exact retE_no (by decide) hno hT6.below
    | true =>
     rintro e W6 ⟨rfl, hb6⟩
     have hT6 := hT5.next hb6
     obtain ⟨x60, x61, x62⟩ := bx3 hT6.fst
     obtain ⟨y60, y61, y62, y63⟩ := bx4 hT6.snd
     have HQ3 := Lib.hid hq3
     clear hq3 x50 x51 x52 y50 y51 y52 y53
     go_wp2_with fail
     refine (between_any _ _ _ _).mono ?_
     cases hq4 : inR2 ot 0 0 with
     | false =>
      rintro e W7 ⟨rfl, hb7⟩
      have hT7 := hT6.next hb7
      have hno : ¬ V := fun v => by rw [HV2.out] at v; exact absurd (hq4.symm.trans v.2.2.2.1) (by decide)
      clear HV2 hq4
      go_wp2_with fail
      go_ret
      exact retE_no (by decide) hno hT7.below
     | true =>
      rintro e W7 ⟨rfl, hb7⟩
      have hT7 := hT6.next hb7
      obtain ⟨x70, x71, x72⟩ := bx3 hT7.fst
      obtain ⟨y70, y71, y72, y73⟩ := bx4 hT7.snd
      clear x60 x61 x62 y60 y61 y62 y63
      have HC := Lib.hid (show nameOk nm.data.toList = true ∧ inR2 1 1 9 = true ∧ inR2 sz 0 0 = true ∧ inR2 ot 0 0 = true ∧ ((1 : Int) = 3 → ∃ q, p.obs[ot.toNat]? = some q ∧ q.kind = 1) from ⟨HQ1.out, HQ2.out, HQ3.out, hq4, fun e => absurd e (by decide)⟩)
      clear hq4
      go_wp2_with fail
      go_loopw [8] (fun i wr => ∃ j : Nat, i = .int .i64 j ∧ j ≤ k ∧ Hid ((p.obs.take j).any (fun x => x.name == nm) = false) ∧ Two w wr [.slice p.funA p.funs.length p.funC, .slice (some ⟨b, off, none⟩) p.obs.length p.obC, .slice p.vrA p.vrs.length p.vrC] [.string nm, .int .i64 1, .int .i64 sz, .int .i64 ot]) (fun i _ => k - (intOf i).toNat)
      case atStart => exact ⟨0, rfl, by omega, Lib.hid (by simp), hT7⟩
      case round =>
       obtain ⟨j, rfl, hj, hnone, hTr⟩ := hrel
       obtain ⟨x80, x81, x82⟩ := bx3 hTr.fst
       obtain ⟨y80, y81, y82, y83⟩ := bx4 hTr.snd
       have hj0 : (0 : Int) ≤ (j : Int) := by omega
       have hwr1 : IntKind.i64.wrap ((j : Int) + 1) = (j : Int) + 1 := by rw [IntKind.wrap_i64]; omega
       by_cases hlt : j < k
       ·have hd1 : decide ((j : Int) < (k : Int)) = true := decide_eq_true (by omega)
        have hd2 : decide (j < k) = true := decide_eq_true hlt
        have hjl : j < p.obs.length := by omega
        have hjl2 : (j : Int) < (p.obs.length : Int) := by omega
        obtain ⟨b9, off9, hA9, hb9, d0, -, -, -⟩ := h.ob hjl
        obtain ⟨rfl, rfl⟩ : b9 = b ∧ off9 = off := by rw [hA] at hA9; injection hA9 with e; injection e with e1 e2; exact ⟨e1.symm, e2.symm⟩
        have hs := any_take p.obs hjl hnone.out
        obtain ⟨nm', hnm'⟩ : ∃ nm', p.obs[j].name = nm' := ⟨_, rfl⟩
        rw [hnm'] at d0
        rw [hnm'] at hs
        have d0' := (hTr.below.cell (p := ⟨b9, off9 + j * 4, none⟩) hb9).trans d0
        have hbt := beq_toListBytes nm' nm
        obtain ⟨q, hq⟩ : ∃ q, (nm' == nm) = q := ⟨_, rfl⟩
        rw [hq] at hbt hs
        have hbt2 : (nm'.toList == nm.toList) = q := hbt.symm
        have HS := Lib.hid hs
        clear hbt hq hs d0 hA9 hnm' hnone
        cases q with
        | true =>
         have hno : ¬ V := fun v => by
          rw [HV2.out] at v
          have h9 := (names_iff (nmOf := Ob.name) _ _).2 v.2.2.2.2.2
          have h10 : (p.obs.take k).any (fun x => x.name == nm) = true := by
           have e : (p.obs.take k).take (j + 1) = p.obs.take (j + 1) := by rw [List.take_take, Nat.min_eq_left (by omega)]
           exact any_of_take' (k := j) (by rw [e]; exact HS.out)
          rw [h10] at h9; cases h9
         clear HV2 HC
         go_wp2_with fail
         go_quiet (fail)
         go_wp2_with fail
         go_ret
         exact retE_no (by decide) hno (hTr.below.trans (below_drews _ _ _))
        | false =>
         clear HC
         go_wp2_with fail
         go_quiet (fail)
         go_wp2_with fail
         exact ⟨⟨j + 1, by go_num, by omega, Lib.hid HS.out, hTr.next (below_drews _ _ _)⟩, by simp [intOf]; omega⟩
       ·have hd1 : decide ((j : Int) < (k : Int)) = false := decide_eq_false (by omega)
        have hd2 : decide (j < k) = false := decide_eq_false hlt
        obtain rfl : j = k := by omega
        have hyes : V := by
         rw [HV2.out]
         exact ⟨HC.out.1, HC.out.2.1, HC.out.2.2.1, HC.out.2.2.2.1, HC.out.2.2.2.2, (names_iff (nmOf := Ob.name) _ _).1 hnone.out⟩
        clear HV2 HC
        go_wp2_with fail
        go_ret
        exact retE_ok hyes hTr.below
   ·have HV2 := Lib.hid (show V ↔ nameOk nm.data.toList = true ∧ inR2 2 1 9 = true ∧ inR2 sz 0 0 = true ∧ inR2 ot 0 0 = true ∧ ((2 : Int) = 3 → ∃ q, p.obs[ot.toNat]? = some q ∧ q.kind = 1) ∧ ∀ q ∈ p.obs.take k, q.name ≠ nm from HV.out)
    clear HV
    have hwr : IntKind.i64.wrap ((p.obs.length : Int) - 1) = (p.obs.length : Int) - 1 := by rw [IntKind.wrap_i64]; omega
    go_wp2_with fail
    refine (between_any _ _ _ _).mono ?_
    cases hq3 : inR2 sz 0 0 with
    | false =>
     rintro e W6 ⟨rfl, hb6⟩
     have hT6 := hT5.next hb6
     have hno : ¬ V := fun v => by rw [HV2.out] at v; exact absurd (hq3.symm.trans v.2.2.1) (by decide)
     clear HV2 hq3
     go_wp2_with fail
     go_ret
     exact retE_no (by decide) hno hT6.below
    | true =>
     rintro e W6 ⟨rfl, hb6⟩
     have hT6 := hT5.next hb6
     obtain ⟨x60, x61, x62⟩ := bx3 hT6.fst
     obtain ⟨y60, y61, y62, y63⟩ := bx4 hT6.snd
     have HQ3 := Lib.hid hq3
     clear hq3 x50 x51 x52 y50 y51 y52 y53
     go_wp2_with fail
     refine (between_any _ _ _ _).mono ?_
     cases hq4 : inR2 ot 0 0 with
     | false =>
      rintro e W7 ⟨rfl, hb7⟩
      have hT7 := hT6.next hb7
      have hno : ¬ V := fun v => by rw [HV2.out] at v; exact absurd (hq4.symm.trans v.2.2.2.1) (by decide)
      clear HV2 hq4
      go_wp2_with fail
      go_ret
      exact retE_no (by decide) hno hT7.below
     | true =>
      rintro e W7 ⟨rfl, hb7⟩
      have hT7 := hT6.next hb7
      obtain ⟨x70, x71, x72⟩ := bx3 hT7.fst
      obtain ⟨y70, y71, y72, y73⟩ := bx4 hT7.snd
      clear x60 x61 x62 y60 y61 y62 y63
      have HC := Lib.hid (show nameOk nm.data.toList = true ∧ inR2 2 1 9 = true ∧ inR2 sz 0 0 = true ∧ inR2 ot 0 0 = true ∧ ((2 : Int) = 3 → ∃ q, p.obs[ot.toNat]? = some q ∧ q.kind = 1) from ⟨HQ1.out, HQ2.out, HQ3.out, hq4, fun e => absurd e (by decide)⟩)
      clear hq4
      go_wp2_with fail
      go_loopw [8] (fun i wr => ∃ j : Nat, i = .int .i64 j ∧ j ≤ k ∧ Hid ((p.obs.take j).any (fun x => x.name == nm) = false) ∧ Two w wr [.slice p.funA p.funs.length p.funC, .slice (some ⟨b, off, none⟩) p.obs.length p.obC, .slice p.vrA p.vrs.length p.vrC] [.string nm, .int .i64 2, .int .i64 sz, .int .i64 ot]) (fun i _ => k - (intOf i).toNat)
      case atStart => exact ⟨0, rfl, by omega, Lib.hid (by simp), hT7⟩
      case round =>
       obtain ⟨j, rfl, hj, hnone, hTr⟩ := hrel
       obtain ⟨x80, x81, x82⟩ := bx3 hTr.fst
       obtain ⟨y80, y81, y82, y83⟩ := bx4 hTr.snd
       have hj0 : (0 : Int) ≤ (j : Int) := by omega
       have hwr1 : IntKind.i64.wrap ((j : Int) + 1) = (j : Int) + 1 := by rw [IntKind.wrap_i64]; omega
       by_cases hlt : j < k
       ·have hd1 : decide ((j : Int) < (k : Int)) = true := decide_eq_true (by omega)
        have hd2 : decide (j < k) = true := decide_eq_true hlt
        have hjl : j < p.obs.length := by omega
        have hjl2 : (j : Int) < (p.obs.length : Int) := by omega
        obtain ⟨b9, off9, hA9, hb9, d0, -, -, -⟩ := h.ob hjl
        obtain ⟨rfl, rfl⟩ : b9 = b ∧ off9 = off := by rw [hA] at hA9; injection hA9 with e; injection e with e1 e2; exact ⟨e1.symm, e2.symm⟩
        have hs := any_take p.obs hjl hnone.out
        obtain ⟨nm', hnm'⟩ : ∃ nm', p.obs[j].name = nm' := ⟨_, rfl⟩
        rw [hnm'] at d0
        rw [hnm'] at hs
        have d0' := (hTr.below.cell (p := ⟨b9, off9 + j * 4, none⟩) hb9).trans d0
        have hbt := beq_toListBytes nm' nm
        obtain ⟨q, hq⟩ : ∃ q, (nm' == nm) = q := ⟨_, rfl⟩
        rw [hq] at hbt hs
        have hbt2 : (nm'.toList == nm.toList) = q := hbt.symm
        have HS := Lib.hid hs
        clear hbt hq hs d0 hA9 hnm' hnone
        cases q with
        | true =>
         have hno : ¬ V := fun v => by
          rw [HV2.out] at v
          have h9 := (names_iff (nmOf := Ob.name) _ _).2 v.2.2.2.2.2
          have h10 : (p.obs.take k).any (fun x => x.name == nm) = true := by
           have e : (p.obs.take k).take (j + 1) = p.obs.take (j + 1) := by rw [List.take_take, Nat.min_eq_left (by omega)]
           exact any_of_take' (k := j) (by rw [e]; exact HS.out)
          rw [h10] at h9; cases h9
         clear HV2 HC
         go_wp2_with fail
         go_quiet (fail)
         go_wp2_with fail
         go_ret
         exact retE_no (by decide) hno (hTr.below.trans (below_drews _ _ _))
        | false =>
         clear HC
         go_wp2_with fail
         go_quiet (fail)
         go_wp2_with fail
         exact ⟨⟨j + 1, by go_num, by omega, Lib.hid HS.out, hTr.next (below_drews _ _ _)⟩, by simp [intOf]; omega⟩
       ·have hd1 : decide ((j : Int) < (k : Int)) = false := decide_eq_false (by omega)
        have hd2 : decide (j < k) = false := decide_eq_false hlt
        obtain rfl : j = k := by omega
        have hyes : V := by
         rw [HV2.out]
         exact ⟨HC.out.1, HC.out.2.1, HC.out.2.2.1, HC.out.2.2.2.1, HC.out.2.2.2.2, (names_iff (nmOf := Ob.name) _ _).1 hnone.out⟩
        clear HV2 HC
        go_wp2_with fail
        go_ret
        exact retE_ok hyes hTr.below
   ·have HV2 := Lib.hid (show V ↔ nameOk nm.data.toList = true ∧ inR2 3 1 9 = true ∧ inR2 sz 0 0 = true ∧ inR2 ot 0 ((p.obs.length : Int) - 1) = true ∧ ((3 : Int) = 3 → ∃ q, p.obs[ot.toNat]? = some q ∧ q.kind = 1) ∧ ∀ q ∈ p.obs.take k, q.name ≠ nm from HV.out)
    clear HV
    have hwr : IntKind.i64.wrap ((p.obs.length : Int) - 1) = (p.obs.length : Int) - 1 := by rw [IntKind.wrap_i64]; omega
    go_wp2_with fail
    refine (between_any _ _ _ _).mono ?_
    cases hq3 : inR2 sz 0 0 with
    | false =>
     rintro e W6 ⟨rfl, hb6⟩
     have hT6 := hT5.next hb6
     have hno : ¬ V := fun v => by rw [HV2.out] at v; exact absurd (hq3.symm.trans v.2.2.1) (by decide)
     clear HV2 hq3
     go_wp2_with fail
     go_ret
     exact retE_no (by decide) hno hT6.below
    | true =>
     rintro e W6 ⟨rfl, hb6⟩
     have hT6 := hT5.next hb6
     obtain ⟨x60, x61, x62⟩ := bx3 hT6.fst
     obtain ⟨y60, y61, y62, y63⟩ := bx4 hT6.snd
     have HQ3 := Lib.hid hq3
     clear hq3 x50 x51 x52 y50 y51 y52 y53
     go_wp2_with fail
     refine (between_any _ _ _ _).mono ?_
     cases hq4 : inR2 ot 0 ((p.obs.length : Int) - 1) with
     | false =>
      rintro e W7 ⟨rfl, hb7⟩
      have hT7 := hT6.next hb7
      have hno : ¬ V := fun v => by rw [HV2.out] at v; exact absurd (hq4.symm.trans v.2.2.2.1) (by decide)
      clear HV2 hq4
      go_wp2_with fail
      go_ret
      exact retE_no (by decide) hno hT7.below
     | true =>
      rintro e W7 ⟨rfl, hb7⟩
      have hT7 := hT6.next hb7
      obtain ⟨x70, x71, x72⟩ := bx3 hT7.fst
      obtain ⟨y70, y71, y72, y73⟩ := bx4 hT7.snd
      clear x60 x61 x62 y60 y61 y62 y63
      have hrng : 0 ≤ ot ∧ ot ≤ (p.obs.length : Int) - 1 := by unfold inR2 at hq4; simpa using hq4
      obtain ⟨u, hu⟩ : ∃ u : Nat, ot = (u : Int) := ⟨ot.toNat, by omega⟩
      subst hu
      have hul : u < p.obs.length := by omega
      obtain ⟨b', off', hA', hb', d0, d1, d2, d3⟩ := h.ob hul
      obtain ⟨rfl, rfl⟩ : b' = b ∧ off' = off := by rw [hA] at hA'; injection hA' with e; injection e with e1 e2; exact ⟨e1.symm, e2.symm⟩
      have d1' := (hT7.below.cell (p := ⟨b', off' + u * 4 + 1, none⟩) hb').trans d1
      clear d0 d1 d2 d3 hA'
      have hul2 : (u : Int) < (p.obs.length : Int) := by omega
      by_cases hm1 : p.obs[u].kind = 1
      ·have e1 : (p.obs[u].kind != 1) = false := by simpa using hm1
       have HC := Lib.hid (show nameOk nm.data.toList = true ∧ inR2 3 1 9 = true ∧ inR2 sz 0 0 = true ∧ inR2 (u : Int) 0 ((p.obs.length : Int) - 1) = true ∧ ((3 : Int) = 3 → ∃ q, p.obs[((u : Nat) : Int).toNat]? = some q ∧ q.kind = 1) from ⟨HQ1.out, HQ2.out, HQ3.out, hq4, fun _ => ⟨p.obs[u], by rw [show ((u : Nat) : Int).toNat = u from by simp]; exact List.getElem?_eq_getElem hul, hm1⟩⟩)
       clear hq4
       go_wp2_with fail
       go_loopw [8] (fun i wr => ∃ j : Nat, i = .int .i64 j ∧ j ≤ k ∧ Hid ((p.obs.take j).any (fun x => x.name == nm) = false) ∧ Two w wr [.slice p.funA p.funs.length p.funC, .slice (some ⟨b', off', none⟩) p.obs.length p.obC, .slice p.vrA p.vrs.length p.vrC] [.string nm, .int .i64 3, .int .i64 sz, .int .i64 (u : Int)]) (fun i _ => k - (intOf i).toNat)
       case atStart => exact ⟨0, rfl, by omega, Lib.hid (by simp), hT7⟩
       case round =>
        obtain ⟨j, rfl, hj, hnone, hTr⟩ := hrel
        obtain ⟨x80, x81, x82⟩ := bx3 hTr.fst
        obtain ⟨y80, y81, y82, y83⟩ := bx4 hTr.snd
        have hj0 : (0 : Int) ≤ (j : Int) := by omega
        have hwr1 : IntKind.i64.wrap ((j : Int) + 1) = (j : Int) + 1 := by rw [IntKind.wrap_i64]; omega
        by_cases hlt : j < k
        ·have hd1 : decide ((j : Int) < (k : Int)) = true := decide_eq_true (by omega)
         have hd2 : decide (j < k) = true := decide_eq_true hlt
         have hjl : j < p.obs.length := by omega
         have hjl2 : (j : Int) < (p.obs.length : Int) := by omega
         obtain ⟨b9, off9, hA9, hb9, d0, -, -, -⟩ := h.ob hjl
         obtain ⟨rfl, rfl⟩ : b9 = b' ∧ off9 = off' := by rw [hA] at hA9; injection hA9 with e; injection e with e1 e2; exact ⟨e1.symm, e2.symm⟩
         have hs := any_take p.obs hjl hnone.out
         obtain ⟨nm', hnm'⟩ : ∃ nm', p.obs[j].name = nm' := ⟨_, rfl⟩
         rw [hnm'] at d0
         rw [hnm'] at hs
         have d0' := (hTr.below.cell (p := ⟨b9, off9 + j * 4, none⟩) hb9).trans d0
         have hbt := beq_toListBytes nm' nm
         obtain ⟨q, hq⟩ : ∃ q, (nm' == nm) = q := ⟨_, rfl⟩
         rw [hq] at hbt hs
         have hbt2 : (nm'.toList == nm.toList) = q := hbt.symm
         have HS := Lib.hid hs
         clear hbt hq hs d0 hA9 hnm' hnone
         cases q with
         | true =>
          have hno : ¬ V := fun v => by
           rw [HV2.out] at v
           have h9 := (names_iff (nmOf := Ob.name) _ _).2 v.2.2.2.2.2
           have h10 : (p.obs.take k).any (fun x => x.name == nm) = true := by
            have e : (p.obs.take k).take (j + 1) = p.obs.take (j + 1) := by rw [List.take_take, Nat.min_eq_left (by omega)]
            exact any_of_take' (k := j) (by rw [e]; exact HS.out)
           rw [h10] at h9; cases h9
          clear HV2 HC
          go_wp2_with fail
          go_quiet (fail)
          go_wp2_with fail
          go_ret
          exact retE_no (by decide) hno (hTr.below.trans (below_drews _ _ _))
         | false =>
          clear HC
          go_wp2_with fail
          go_quiet (fail)
          go_wp2_with fail
          exact ⟨⟨j + 1, by go_num, by omega, Lib.hid HS.out, hTr.next (below_drews _ _ _)⟩, by simp [intOf]; omega⟩
        ·have hd1 : decide ((j : Int) < (k : Int)) = false := decide_eq_false (by omega)
         have hd2 : decide (j < k) = false := decide_eq_false hlt
         obtain rfl : j = k := by omega
         have hyes : V := by
          rw [HV2.out]
          exact ⟨HC.out.1, HC.out.2.1, HC.out.2.2.1, HC.out.2.2.2.1, HC.out.2.2.2.2, (names_iff (nmOf := Ob.name) _ _).1 hnone.out⟩
         clear HV2 HC
         go_wp2_with fail
         go_ret
         exact retE_ok hyes hTr.below
      ·have e1 : (p.obs[u].kind != 1) = true := by simpa using hm1
       have hno : ¬ V := fun v => by
        rw [HV2.out] at v
        obtain ⟨q, hq, hq1⟩ := v.2.2.2.2.1 trivial
        rw [show ((u : Nat) : Int).toNat = u from by simp, List.getElem?_eq_getElem hul] at hq
        injection hq with hq
        exact hm1 (by rw [hq]; exact hq1)
       clear HV2
       go_wp2_with fail
       go_ret
       exact retE_no (by decide) hno hT7.below
   ·have HV2 := Lib.hid (show V ↔ nameOk nm.data.toList = true ∧ inR2 4 1 9 = true ∧ inR2 sz 1 100 = true ∧ inR2 ot 0 1 = true ∧ ((4 : Int) = 3 → ∃ q, p.obs[ot.toNat]? = some q ∧ q.kind = 1) ∧ ∀ q ∈ p.obs.take k, q.name ≠ nm from HV.out)
    clear HV
    have hwr : IntKind.i64.wrap ((p.obs.length : Int) - 1) = (p.obs.length : Int) - 1 := by rw [IntKind.wrap_i64]; omega
    go_wp2_with fail
    refine (between_any _ _ _ _).mono ?_
    cases hq3 : inR2 sz 1 100 with
    | false =>
     rintro e W6 ⟨rfl, hb6⟩
     have hT6 := hT5.next hb6
     have hno : ¬ V := fun v => by rw [HV2.out] at v; exact absurd (hq3.symm.trans v.2.2.1) (by decide)
     clear HV2 hq3
     go_wp2_with fail
     go_ret
     exact retE_no (by decide) hno hT6.below
    | true =>
     rintro e W6 ⟨rfl, hb6⟩
     have hT6 := hT5.next hb6
     obtain ⟨x60, x61, x62⟩ := bx3 hT6.fst
     obtain ⟨y60, y61, y62, y63⟩ := bx4 hT6.snd
     have HQ3 := Lib.hid hq3
     clear hq3 x50 x51 x52 y50 y51 y52 y53
     go_wp2_with fail
     refine (between_any _ _ _ _).mono ?_
     cases hq4 : inR2 ot 0 1 with
     | false =>
      rintro e W7 ⟨rfl, hb7⟩
      have hT7 := hT6.next hb7
      have hno : ¬ V := fun v => by rw [HV2.out] at v; exact absurd (hq4.symm.trans v.2.2.2.1) (by decide)
      clear HV2 hq4
      go_wp2_with fail
      go_ret
      exact retE_no (by decide) hno hT7.below
     | true =>
      rintro e W7 ⟨rfl, hb7⟩
      have hT7 := hT6.next hb7
      obtain ⟨x70, x71, x72⟩ := bx3 hT7.fst
      obtain ⟨y70, y71, y72, y73⟩ := bx4 hT7.snd
      clear x60 x61 x62 y60 y61 y62 y63
      have HC := Lib.hid (show nameOk nm.data.toList = true ∧ inR2 4 1 9 = true ∧ inR2 sz 1 100 = true ∧ inR2 ot 0 1 = true ∧ ((4 : Int) = 3 → ∃ q, p.obs[ot.toNat]? = some q ∧ q.kind = 1) from ⟨HQ1.out, HQ2.out, HQ3.out, hq4, fun e => absurd e (by decide)⟩)
      clear hq4
      go_wp2_with fail
      go_loopw [8] (fun i wr => ∃ j : Nat, i = .int .i64 j ∧ j ≤ k ∧ Hid ((p.obs.take j).any (fun x => x.name == nm) = false) ∧ Two w wr [.slice p.funA p.funs.length p.funC, .slice (some ⟨b, off, none⟩) p.obs.length p.obC, .slice p.vrA p.vrs.length p.vrC] [.string nm, .int .i64 4, .int .i64 sz, .int .i64 ot]) (fun i _ => k - (intOf i).toNat)
      case atStart => exact ⟨0, rfl, by omega, Lib.hid (by simp), hT7⟩
      case round =>
       obtain ⟨j, rfl, hj, hnone, hTr⟩ := hrel
       obtain ⟨x80, x81, x82⟩ := bx3 hTr.fst
       obtain ⟨y80, y81, y82, y83⟩ := bx4 hTr.snd
       have hj0 : (0 : Int) ≤ (j : Int) := by omega
       have hwr1 : IntKind.i64.wrap ((j : Int) + 1) = (j : Int) + 1 := by rw [IntKind.wrap_i64]; omega
       by_cases hlt : j < k
       ·have hd1 : decide ((j : Int) < (k : Int)) = true := decide_eq_true (by omega)
        have hd2 : decide (j < k) = true := decide_eq_true hlt
        have hjl : j < p.obs.length := by omega
        have hjl2 : (j : Int) < (p.obs.length : Int) := by omega
        obtain ⟨b9, off9, hA9, hb9, d0, -, -, -⟩ := h.ob hjl
        obtain ⟨rfl, rfl⟩ : b9 = b ∧ off9 = off := by rw [hA] at hA9; injection hA9 with e; injection e with e1 e2; exact ⟨e1.symm, e2.symm⟩
        have hs := any_take p.obs hjl hnone.out
        obtain ⟨nm', hnm'⟩ : ∃ nm', p.obs[j].name = nm' := ⟨_, rfl⟩
        rw [hnm'] at d0
        rw [hnm'] at hs
        have d0' := (hTr.below.cell (p := ⟨b9, off9 + j * 4, none⟩) hb9).trans d0
        have hbt := beq_toListBytes nm' nm
        obtain ⟨q, hq⟩ : ∃ q, (nm' == nm) = q := ⟨_, rfl⟩
        rw [hq] at hbt hs
        have hbt2 : (nm'.toList == nm.toList) = q := hbt.symm
        have HS := Lib.hid hs
        clear hbt hq hs d0 hA9 hnm' hnone
        cases q with
        | true =>
         have hno : ¬ V := fun v => by
          rw [HV2.out] at v
          have h9 := (names_iff (nmOf := Ob.name) _ _).2 v.2.2.2.2.2
          have h10 : (p.obs.take k).any (fun x => x.name == nm) = true := by
           have e : (p.obs.take k).take (j + 1) = p.obs.take (j + 1) := by rw [List.take_take, Nat.min_eq_left (by omega)]
           exact any_of_take' (k := j) (by rw [e]; exact HS.out)
          rw [h10] at h9; cases h9
         clear HV2 HC
         go_wp2_with fail
         go_quiet (fail)
         go_wp2_with fail
         go_ret
         exact retE_no (by decide) hno (hTr.below.trans (below_drews _ _ _))
        | false =>
         clear HC
         go_wp2_with fail
         go_quiet (fail)
         go_wp2_with fail
         exact ⟨⟨j + 1, by go_num, by omega, Lib.hid HS.out, hTr.next (below_drews _ _ _)⟩, by simp [intOf]; omega⟩
       ·have hd1 : decide ((j : Int) < (k : Int)) = false := decide_eq_false (by omega)
        have hd2 : decide (j < k) = false := decide_eq_false hlt
        obtain rfl : j = k := by omega
        have hyes : V := by
         rw [HV2.out]
         exact ⟨HC.out.1, HC.out.2.1, HC.out.2.2.1, HC.out.2.2.2.1, HC.out.2.2.2.2, (names_iff (nmOf := Ob.name) _ _).1 hnone.out⟩
        clear HV2 HC
        go_wp2_with fail
        go_ret
        exact retE_ok hyes hTr.below
   ·have HV2 := Lib.hid (show V ↔ nameOk nm.data.toList = true ∧ inR2 5 1 9 = true ∧ inR2 sz 1 100 = true ∧ inR2 ot 0 0 = true ∧ ((5 : Int) = 3 → ∃ q, p.obs[ot.toNat]? = some q ∧ q.kind = 1) ∧ ∀ q ∈ p.obs.take k, q.name ≠ nm from HV.out)
    clear HV
    have hwr : IntKind.i64.wrap ((p.obs.length : Int) - 1) = (p.obs.length : Int) - 1 := by rw [IntKind.wrap_i64]; omega
    go_wp2_with fail
    refine (between_any _ _ _ _).mono ?_
    cases hq3 : inR2 sz 1 100 with
    | false =>
     rintro e W6 ⟨rfl, hb6⟩
     have hT6 := hT5.next hb6
     have hno : ¬ V := fun v => by rw [HV2.out] at v; exact absurd (hq3.symm.trans v.2.2.1) (by decide)
     clear HV2 hq3
     go_wp2_with fail
     go_ret
     exact retE_no (by decide) hno hT6.below
    | true =>
     rintro e W6 ⟨rfl, hb6⟩
     have hT6 := hT5.next hb6
     obtain ⟨x60, x61, x62⟩ := bx3 hT6.fst
     obtain ⟨y60, y61, y62, y63⟩ := bx4 hT6.snd
     have HQ3 := Lib.hid hq3
     clear hq3 x50 x51 x52 y50 y51 y52 y53
     go_wp2_with fail
     refine (between_any _ _ _ _).mono ?_
     cases hq4 : inR2 ot 0 0 with
     | false =>
      rintro e W7 ⟨rfl, hb7⟩
      have hT7 := hT6.next hb7
      have hno : ¬ V := fun v => by rw [HV2.out] at v; exact absurd (hq4.symm.trans v.2.2.2.1) (by decide)
      clear HV2 hq4
      go_wp2_with fail
      go_ret
      exact retE_no (by decide) hno hT7.below
     | true =>
      rintro e W7 ⟨rfl, hb7⟩
      have hT7 := hT6.next hb7
      obtain ⟨x70, x71, x72⟩ := bx3 hT7.fst
      obtain ⟨y70, y71, y72, y73⟩ := bx4 hT7.snd
      clear x60 x61 x62 y60 y61 y62 y63
      have HC := Lib.hid (show nameOk nm.data.toList = true ∧ inR2 5 1 9 = true ∧ inR2 sz 1 100 = true ∧ inR2 ot 0 0 = true ∧ ((5 : Int) = 3 → ∃ q, p.obs[ot.toNat]? = some q ∧ q.kind = 1) from ⟨HQ1.out, HQ2.out, HQ3.out, hq4, fun e => absurd e (by decide)⟩)
      clear hq4
      go_wp2_with fail
      go_loopw [8] (fun i wr => ∃ j : Nat, i = .int .i64 j ∧ j ≤ k ∧ Hid ((p.obs.take j).any (fun x => x.name == nm) = false) ∧ Two w wr [.slice p.funA p.funs.length p.funC, .slice (some ⟨b, off, none⟩) p.obs.length p.obC, .slice p.vrA p.vrs.length p.vrC] [.string nm, .int .i64 5, .int .i64 sz, .int .i64 ot]) (fun i _ => k - (intOf i).toNat)
      case atStart => exact ⟨0, rfl, by omega, Lib.hid (by simp), hT7⟩
      case round =>
       obtain ⟨j, rfl, hj, hnone, hTr⟩ := hrel
       obtain ⟨x80, x81, x82⟩ := bx3 hTr.fst
       obtain ⟨y80, y81, y82, y83⟩ := bx4 hTr.snd
       have hj0 : (0 : Int) ≤ (j : Int) := by omega
       have hwr1 : IntKind.i64.wrap ((j : Int) + 1) = (j : Int) + 1 := by rw [IntKind.wrap_i64]; omega
       by_cases hlt : j < k
       ·have hd1 : decide ((j : Int) < (k : Int)) = true := decide_eq_true (by omega)
        have hd2 : decide (j < k) = true := decide_eq_true hlt
        have hjl : j < p.obs.length := by omega
        have hjl2 : (j : Int) < (p.obs.length : Int) := by omega
        obtain ⟨b9, off9, hA9, hb9, d0, -, -, -⟩ := h.ob hjl
        obtain ⟨rfl, rfl⟩ : b9 = b ∧ off9 = off := by rw [hA] at hA9; injection hA9 with e; injection e with e1 e2; exact ⟨e1.symm, e2.symm⟩
        have hs := any_take p.obs hjl hnone.out
        obtain ⟨nm', hnm'⟩ : ∃ nm', p.obs[j].name = nm' := ⟨_, rfl⟩
        rw [hnm'] at d0
        rw [hnm'] at hs
        have d0' := (hTr.below.cell (p := ⟨b9, off9 + j * 4, none⟩) hb9).trans d0
        have hbt := beq_toListBytes nm' nm
        obtain ⟨q, hq⟩ : ∃ q, (nm' == nm) = q := ⟨_, rfl⟩
        rw [hq] at hbt hs
        have hbt2 : (nm'.toList == nm.toList) = q := hbt.symm
        have HS := Lib.hid hs
        clear hbt hq hs d0 hA9 hnm' hnone
        cases q with
        | true =>
         have hno : ¬ V := fun v => by
          rw [HV2.out] at v
          have h9 := (names_iff (nmOf := Ob.name) _ _).2 v.2.2.2.2.2
          have h10 : (p.obs.take k).any (fun x => x.name == nm) = true := by
           have e : (p.obs.take k).take (j + 1) = p.obs.take (j + 1) := by rw [List.take_take, Nat.min_eq_left (by omega)]
           exact any_of_take' (k := j) (by rw [e]; exact HS.out)
          rw [h10] at h9; cases h9
         clear HV2 HC
         go_wp2_with fail
         go_quiet (fail)
         go_wp2_with fail
         go_ret
         exact retE_no (by decide) hno (hTr.below.trans (below_drews _ _ _))
        | false =>
         clear HC
         go_wp2_with fail
         go_quiet (fail)
         go_wp2_with fail
         exact ⟨⟨j + 1, by go_num, by omega, Lib.hid HS.out, hTr.next (below_drews _ _ _)⟩, by simp [intOf]; omega⟩
       ·have hd1 : decide ((j : Int) < (k : Int)) = false := decide_eq_false (by omega)
        have hd2 : decide (j < k) = false := decide_eq_false hlt
        obtain rfl : j = k := by omega
        have hyes : V := by
         rw [HV2.out]
         exact ⟨HC.out.1, HC.out.2.1, HC.out.2.2.1, HC.out.2.2.2.1, HC.out.2.2.2.2, (names_iff (nmOf := Ob.name) _ _).1 hnone.out⟩
        clear HV2 HC
        go_wp2_with fail
        go_ret
        exact retE_ok hyes hTr.below
   ·have HV2 := Lib.hid (show V ↔ nameOk nm.data.toList = true ∧ inR2 6 1 9 = true ∧ inR2 sz 0 100 = true ∧ inR2 ot 0 0 = true ∧ ((6 : Int) = 3 → ∃ q, p.obs[ot.toNat]? = some q ∧ q.kind = 1) ∧ ∀ q ∈ p.obs.take k, q.name ≠ nm from HV.out)
    clear HV
    have hwr : IntKind.i64.wrap ((p.obs.length : Int) - 1) = (p.obs.length : Int) - 1 := by rw [IntKind.wrap_i64]; omega
    go_wp2_with fail
    refine (between_any _ _ _ _).mono ?_
    cases hq3 : inR2 sz 0 100 with
    | false =>
     rintro e W6 ⟨rfl, hb6⟩
     have hT6 := hT5.next hb6
     have hno : ¬ V := fun v => by rw [HV2.out] at v; exact absurd (hq3.symm.trans v.2.2.1) (by decide)
     clear HV2 hq3
     go_wp2_with fail
     go_ret
     exact retE_no (by decide) hno hT6.below
    | true =>
     rintro e W6 ⟨rfl, hb6⟩
     have hT6 := hT5.next hb6
     obtain ⟨x60, x61, x62⟩ := bx3 hT6.fst
     obtain ⟨y60, y61, y62, y63⟩ := bx4 hT6.snd
     have HQ3 := Lib.hid hq3
     clear hq3 x50 x51 x52 y50 y51 y52 y53
     go_wp2_with fail
     refine (between_any _ _ _ _).mono ?_
     cases hq4 : inR2 ot 0 0 with
     | false =>
      rintro e W7 ⟨rfl, hb7⟩
      have hT7 := hT6.next hb7
      have hno : ¬ V := fun v => by rw [HV2.out] at v; exact absurd (hq4.symm.trans v.2.2.2.1) (by decide)
      clear HV2 hq4
      go_wp2_with fail
      go_ret
      exact retE_no (by decide) hno hT7.below
     | true =>
      rintro e W7 ⟨rfl, hb7⟩
      have hT7 := hT6.next hb7
      obtain ⟨x70, x71, x72⟩ := bx3 hT7.fst
      obtain ⟨y70, y71, y72, y73⟩ := bx4 hT7.snd
      clear x60 x61 x62 y60 y61 y62 y63
      have HC := Lib.hid (show nameOk nm.data.toList = true ∧ inR2 6 1 9 = true ∧ inR2 sz 0 100 = true ∧ inR2 ot 0 0 = true ∧ ((6 : Int) = 3 → ∃ q, p.obs[ot.toNat]? = some q ∧ q.kind = 1) from ⟨HQ1.out, HQ2.out, HQ3.out, hq4, fun e => absurd e (by decide)⟩)
      clear hq4
      go_wp2_with fail
      go_loopw [8] (fun i wr => ∃ j : Nat, i = .int .i64 j ∧ j ≤ k ∧ Hid ((p.obs.take j).any (fun x => x.name == nm) = false) ∧ Two w wr [.slice p.funA p.funs.length p.funC, .slice (some ⟨b, off, none⟩) p.obs.length p.obC, .slice p.vrA p.vrs.length p.vrC] [.string nm, .int .i64 6, .int .i64 sz, .int .i64 ot]) (fun i _ => k - (intOf i).toNat)
      case atStart => exact ⟨0, rfl, by omega, Lib.hid (by simp), hT7⟩
      case round =>
       obtain ⟨j, rfl, hj, hnone, hTr⟩ := hrel
       obtain ⟨x80, x81, x82⟩ := bx3 hTr.fst
       obtain ⟨y80, y81, y82, y83⟩ := bx4 hTr.snd
       have hj0 : (0 : Int) ≤ (j : Int) := by omega
       have hwr1 : IntKind.i64.wrap ((j : Int) + 1) = (j : Int) + 1 := by rw [IntKind.wrap_i64]; omega
       by_cases hlt : j < k
       ·have hd1 : decide ((j : Int) < (k : Int)) = true := decide_eq_true (by omega)
        have hd2 : decide (j < k) = true := decide_eq_true hlt
        have hjl : j < p.obs.length := by omega
        have hjl2 : (j : Int) < (p.obs.length : Int) := by omega
        obtain ⟨b9, off9, hA9, hb9, d0, -, -, -⟩ := h.ob hjl
        obtain ⟨rfl, rfl⟩ : b9 = b ∧ off9 = off := by rw [hA] at hA9; injection hA9 with e; injection e with e1 e2; exact ⟨e1.symm, e2.symm⟩
        have hs := any_take p.obs hjl hnone.out
        obtain ⟨nm', hnm'⟩ : ∃ nm', p.obs[j].name = nm' := ⟨_, rfl⟩
        rw [hnm'] at d0
        rw [hnm'] at hs
        have d0' := (hTr.below.cell (p := ⟨b9, off9 + j * 4, none⟩) hb9).trans d0
        have hbt := beq_toListBytes nm' nm
        obtain ⟨q, hq⟩ : ∃ q, (nm' == nm) = q := ⟨_, rfl⟩
        rw [hq] at hbt hs
        have hbt2 : (nm'.toList == nm.toList) = q := hbt.symm
        have HS := Lib.hid hs
        clear hbt hq hs d0 hA9 hnm' hnone
        cases q with
        | true =>
         have hno : ¬ V := fun v => by
          rw [HV2.out] at v
          have h9 := (names_iff (nmOf := Ob.name) _ _).2 v.2.2.2.2.2
          have h10 : (p.obs.take k).any (fun x => x.name == nm) = true := by
           have e : (p.obs.take k).take (j + 1) = p.obs.take (j + 1) := by rw [List.take_take, Nat.min_eq_left (by omega)]
           exact any_of_take' (k := j) (by rw [e]; exact HS.out)
          rw [h10] at h9; cases h9
         clear HV2 HC
         go_wp2_with fail
         go_quiet (fail)
         go_wp2_with fail
         go_ret
         exact retE_no (by decide) hno (hTr.below.trans (below_drews _ _ _))
        | false =>
         clear HC
         go_wp2_with fail
         go_quiet (fail)
         go_wp2_with fail
         exact ⟨⟨j + 1, by go_num, by omega, Lib.hid HS.out, hTr.next (below_drews _ _ _)⟩, by simp [intOf]; omega⟩
       ·have hd1 : decide ((j : Int) < (k : Int)) = false := decide_eq_false (by omega)
        have hd2 : decide (j < k) = false := decide_eq_false hlt
        obtain rfl : j = k := by omega
        have hyes : V := by
         rw [HV2.out]
         exact ⟨HC.out.1, HC.out.2.1, HC.out.2.2.1, HC.out.2.2.2.1, HC.out.2.2.2.2, (names_iff (nmOf := Ob.name) _ _).1 hnone.out⟩
        clear HV2 HC
        go_wp2_with fail
        go_ret
        exact retE_ok hyes hTr.below
   ·have HV2 := Lib.hid (show V ↔ nameOk nm.data.toList = true ∧ inR2 7 1 9 = true ∧ inR2 sz 1 100 = true ∧ inR2 ot 0 0 = true ∧ ((7 : Int) = 3 → ∃ q, p.obs[ot.toNat]? = some q ∧ q.kind = 1) ∧ ∀ q ∈ p.obs.take k, q.name ≠ nm from HV.out)
    clear HV
    have hwr : IntKind.i64.wrap ((p.obs.length : Int) - 1) = (p.obs.length : Int) - 1 := by rw [IntKind.wrap_i64]; omega
    go_wp2_with fail
    refine (between_any _ _ _ _).mono ?_
    cases hq3 : inR2 sz 1 100 with
    | false =>
     rintro e W6 ⟨rfl, hb6⟩
     have hT6 := hT5.next hb6
     have hno : ¬ V := fun v => by rw [HV2.out] at v; exact absurd (hq3.symm.trans v.2.2.1) (by decide)
     clear HV2 hq3
     go_wp2_with fail
     go_ret
     exact retE_no (by decide) hno hT6.below
    | true =>
     rintro e W6 ⟨rfl, hb6⟩
     have hT6 := hT5.next hb6
     obtain ⟨x60, x61, x62⟩ := bx3 hT6.fst
     obtain ⟨y60, y61, y62, y63⟩ := bx4 hT6.snd
     have HQ3 := Lib.hid hq3
     clear hq3 x50 x51 x52 y50 y51 y52 y53
     go_wp2_with fail
     refine (between_any _ _ _ _).mono ?_
     cases hq4 : inR2 ot 0 0 with
     | false =>
      rintro e W7 ⟨rfl, hb7⟩
      have hT7 := hT6.next hb7
      have hno : ¬ V := fun v => by rw [HV2.out] at v; exact absurd (hq4.symm.trans v.2.2.2.1) (by decide)
      clear HV2 hq4
      go_wp2_with fail
      go_ret
      exact retE_no (by decide) hno hT7.below
     | true =>
      rintro e W7 ⟨rfl, hb7⟩
      have hT7 := hT6.next hb7
      obtain ⟨x70, x71, x72⟩ := bx3 hT7.fst
      obtain ⟨y70, y71, y72, y73⟩ := bx4 hT7.snd
      clear x60 x61 x62 y60 y61 y62 y63
      have HC := Lib.hid (show nameOk nm.data.toList = true ∧ inR2 7 1 9 = true ∧ inR2 sz 1 100 = true ∧ inR2 ot 0 0 = true ∧ ((7 : Int) = 3 → ∃ q, p.obs[ot.toNat]? = some q ∧ q.kind = 1) from ⟨HQ1.out, HQ2.out, HQ3.out, hq4, fun e => absurd e (by decide)⟩)
      clear hq4
      go_wp2_with fail
      go_loopw [8] (fun i wr => ∃ j : Nat, i = .int .i64 j ∧ j ≤ k ∧ Hid ((p.obs.take j).any (fun x => x.name == nm) = false) ∧ Two w wr [.slice p.funA p.funs.length p.funC, .slice (some ⟨b, off, none⟩) p.obs.length p.obC, .slice p.vrA p.vrs.length p.vrC] [.string nm, .int .i64 7, .int .i64 sz, .int .i64 ot]) (fun i _ => k - (intOf i).toNat)
      case atStart => exact ⟨0, rfl, by omega, Lib.hid (by simp), hT7⟩
      case round =>
       obtain ⟨j, rfl, hj, hnone, hTr⟩ := hrel
       obtain ⟨x80, x81, x82⟩ := bx3 hTr.fst
       obtain ⟨y80, y81, y82, y83⟩ := bx4 hTr.snd
       have hj0 : (0 : Int) ≤ (j : Int) := by omega
       have hwr1 : IntKind.i64.wrap ((j : Int) + 1) = (j : Int) + 1 := by rw [IntKind.wrap_i64]; omega
       by_cases hlt : j < k
       ·have hd1 : decide ((j : Int) < (k : Int)) = true := decide_eq_true (by omega)
        have hd2 : decide (j < k) = true := decide_eq_true hlt
        have hjl : j < p.obs.length := by omega
        have hjl2 : (j : Int) < (p.obs.length : Int) := by omega
        obtain ⟨b9, off9, hA9, hb9, d0, -, -, -⟩ := h.ob hjl
        obtain ⟨rfl, rfl⟩ : b9 = b ∧ off9 = off := by rw [hA] at hA9; injection hA9 with e; injection e with e1 e2; exact ⟨e1.symm, e2.symm⟩
        have hs := any_take p.obs hjl hnone.out
        obtain ⟨nm', hnm'⟩ : ∃ nm', p.obs[j].name = nm' := ⟨_, rfl⟩
        rw [hnm'] at d0
        rw [hnm'] at hs
        have d0' := (hTr.below.cell (p := ⟨b9, off9 + j * 4, none⟩) hb9).trans d0
        have hbt := beq_toListBytes nm' nm
        obtain ⟨q, hq⟩ : ∃ q, (nm' == nm) = q := ⟨_, rfl⟩
        rw [hq] at hbt hs
        have hbt2 : (nm'.toList == nm.toList) = q := hbt.symm
        have HS := Lib.hid hs
        clear hbt hq hs d0 hA9 hnm' hnone
        cases q with
        | true =>
         have hno : ¬ V := fun v => by
          rw [HV2.out] at v
          have h9 := (names_iff (nmOf := Ob.name) _ _).2 v.2.2.2.2.2
          have h10 : (p.obs.take k).any (fun x => x.name == nm) = true := by
           have e : (p.obs.take k).take (j + 1) = p.obs.take (j + 1) := by rw [List.take_take, Nat.min_eq_left (by omega)]
           exact any_of_take' (k := j) (by rw [e]; exact HS.out)
          rw [h10] at h9; cases h9
         clear HV2 HC
         go_wp2_with fail
         go_quiet (fail)
         go_wp2_with fail
         go_ret
         exact retE_no (by decide) hno (hTr.below.trans (below_drews _ _ _))
        | false =>
         clear HC
         go_wp2_with fail
         go_quiet (fail)
         go_wp2_with fail
         exact ⟨⟨j + 1, by go_num, by omega, Lib.hid HS.out, hTr.next (below_drews _ _ _)⟩, by simp [intOf]; omega⟩
       ·have hd1 : decide ((j : Int) < (k : Int)) = false := decide_eq_false (by omega)
        have hd2 : decide (j < k) = false := decide_eq_false hlt
        obtain rfl : j = k := by omega
        have hyes : V := by
         rw [HV2.out]
         exact ⟨HC.out.1, HC.out.2.1, HC.out.2.2.1, HC.out.2.2.2.1, HC.out.2.2.2.2, (names_iff (nmOf := Ob.name) _ _).1 hnone.out⟩
        clear HV2 HC
        go_wp2_with fail
        go_ret
        exact retE_ok hyes hTr.below
   ·have HV2 := Lib.hid (show V ↔ nameOk nm.data.toList = true ∧ inR2 8 1 9 = true ∧ inR2 sz 1 100 = true ∧ inR2 ot 1 1099511627776 = true ∧ ((8 : Int) = 3 → ∃ q, p.obs[ot.toNat]? = some q ∧ q.kind = 1) ∧ ∀ q ∈ p.obs.take k, q.name ≠ nm from HV.out)
    clear HV
    have hwr : IntKind.i64.wrap ((p.obs.length : Int) - 1) = (p.obs.length : Int) - 1 := by rw [IntKind.wrap_i64]; omega
    go_wp2_with fail
    refine (between_any _ _ _ _).mono ?_
    cases hq3 : inR2 sz 1 100 with
    | false =>
     rintro e W6 ⟨rfl, hb6⟩
     have hT6 := hT5.next hb6
     have hno : ¬ V := fun v => by rw [HV2.out] at v; exact absurd (hq3.symm.trans v.2.2.1) (by decide)
     clear HV2 hq3
     go_wp2_with fail
     go_ret
     exact retE_no (by decide) hno hT6.below
    | true =>
     rintro e W6 ⟨rfl, hb6⟩
     have hT6 := hT5.next hb6
     obtain ⟨x60, x61, x62⟩ := bx3 hT6.fst
     obtain ⟨y60, y61, y62, y63⟩ := bx4 hT6.snd
     have HQ3 := Lib.hid hq3
     clear hq3 x50 x51 x52 y50 y51 y52 y53
     go_wp2_with fail
     refine (between_any _ _ _ _).mono ?_
     cases hq4 : inR2 ot 1 1099511627776 with
     | false =>
      rintro e W7 ⟨rfl, hb7⟩
      have hT7 := hT6.next hb7
      have hno : ¬ V := fun v => by rw [HV2.out] at v; exact absurd (hq4.symm.trans v.2.2.2.1) (by decide)
      clear HV2 hq4
      go_wp2_with fail
      go_ret
      exact retE_no (by decide) hno hT7.below
     | true =>
      rintro e W7 ⟨rfl, hb7⟩
      have hT7 := hT6.next hb7
      obtain ⟨x70, x71, x72⟩ := bx3 hT7.fst
      obtain ⟨y70, y71, y72, y73⟩ := bx4 hT7.snd
      clear x60 x61 x62 y60 y61 y62 y63
      have HC := Lib.hid (show nameOk nm.data.toList = true ∧ inR2 8 1 9 = true ∧ inR2 sz 1 100 = true ∧ inR2 ot 1 1099511627776 = true ∧ ((8 : Int) = 3 → ∃ q, p.obs[ot.toNat]? = some q ∧ q.kind = 1) from ⟨HQ1.out, HQ2.out, HQ3.out, hq4, fun e => absurd e (by decide)⟩)
      clear hq4
      go_wp2_with fail
      go_loopw [8] (fun i wr => ∃ j : Nat, i = .int .i64 j ∧ j ≤ k ∧ Hid ((p.obs.take j).any (fun x => x.name == nm) = false) ∧ Two w wr [.slice p.funA p.funs.length p.funC, .slice (some ⟨b, off, none⟩) p.obs.length p.obC, .slice p.vrA p.vrs.length p.vrC] [.string nm, .int .i64 8, .int .i64 sz, .int .i64 ot]) (fun i _ => k - (intOf i).toNat)
      case atStart => exact ⟨0, rfl, by omega, Lib.hid (by simp), hT7⟩
      case round =>
       obtain ⟨j, rfl, hj, hnone, hTr⟩ := hrel
       obtain ⟨x80, x81, x82⟩ := bx3 hTr.fst
       obtain ⟨y80, y81, y82, y83⟩ := bx4 hTr.snd
       have hj0 : (0 : Int) ≤ (j : Int) := by omega
       have hwr1 : IntKind.i64.wrap ((j : Int) + 1) = (j : Int) + 1 := by rw [IntKind.wrap_i64]; omega
       by_cases hlt : j < k
       ·have hd1 : decide ((j : Int) < (k : Int)) = true := decide_eq_true (by omega)
        have hd2 : decide (j < k) = true := decide_eq_true hlt
        have hjl : j < p.obs.length := by omega
        have hjl2 : (j : Int) < (p.obs.length : Int) := by omega
        obtain ⟨b9, off9, hA9, hb9, d0, -, -, -⟩ := h.ob hjl
        obtain ⟨rfl, rfl⟩ : b9 = b ∧ off9 = off := by rw [hA] at hA9; injection hA9 with e; injection e with e1 e2; exact ⟨e1.symm, e2.symm⟩
        have hs := any_take p.obs hjl hnone.out
        obtain ⟨nm', hnm'⟩ : ∃ nm', p.obs[j].name = nm' := ⟨_, rfl⟩
        rw [hnm'] at d0
        rw [hnm'] at hs
        have d0' := (hTr.below.cell (p := ⟨b9, off9 + j * 4, none⟩) hb9).trans d0
        have hbt := beq_toListBytes nm' nm
        obtain ⟨q, hq⟩ : ∃ q, (nm' == nm) = q := ⟨_, rfl⟩
        rw [hq] at hbt hs
        have hbt2 : (nm'.toList == nm.toList) = q := hbt.symm
        have HS := Lib.hid hs
        clear hbt hq hs d0 hA9 hnm' hnone
        cases q with
        | true =>
         have hno : ¬ V := fun v => by
          rw [HV2.out] at v
          have h9 := (names_iff (nmOf := Ob.name) _ _).2 v.2.2.2.2.2
          have h10 : (p.obs.take k).any (fun x => x.name == nm) = true := by
           have e : (p.obs.take k).take (j + 1) = p.obs.take (j + 1) := by rw [List.take_take, Nat.min_eq_left (by omega)]
           exact any_of_take' (k := j) (by rw [e]; exact HS.out)
          rw [h10] at h9; cases h9
         clear HV2 HC
         go_wp2_with fail
         go_quiet (fail)
         go_wp2_with fail
         go_ret
         exact retE_no (by decide) hno (hTr.below.trans (below_drews _ _ _))
        | false =>
         clear HC
         go_wp2_with fail
         go_quiet (fail)
         go_wp2_with fail
         exact ⟨⟨j + 1, by go_num, by omega, Lib.hid HS.out, hTr.next (below_drews _ _ _)⟩, by simp [intOf]; omega⟩
       ·have hd1 : decide ((j : Int) < (k : Int)) = false := decide_eq_false (by omega)
        have hd2 : decide (j < k) = false := decide_eq_false hlt
        obtain rfl : j = k := by omega
        have hyes : V := by
         rw [HV2.out]
         exact ⟨HC.out.1, HC.out.2.1, HC.out.2.2.1, HC.out.2.2.2.1, HC.out.2.2.2.2, (names_iff (nmOf := Ob.name) _ _).1 hnone.out⟩
        clear HV2 HC
        go_wp2_with fail
        go_ret
        exact retE_ok hyes hTr.below
   ·have HV2 := Lib.hid (show V ↔ nameOk nm.data.toList = true ∧ inR2 9 1 9 = true ∧ inR2 sz 0 0 = true ∧ inR2 ot 0 0 = true ∧ ((9 : Int) = 3 → ∃ q, p.obs[ot.toNat]? = some q ∧ q.kind = 1) ∧ ∀ q ∈ p.obs.take k, q.name ≠ nm from HV.out)
    clear HV
    have hwr : IntKind.i64.wrap ((p.obs.length : Int) - 1) = (p.obs.length : Int) - 1 := by rw [IntKind.wrap_i64]; omega
    go_wp2_with fail
    refine (between_any _ _ _ _).mono ?_
    cases hq3 : inR2 sz 0 0 with
    | false =>
     rintro e W6 ⟨rfl, hb6⟩
     have hT6 := hT5.next hb6
     have hno : ¬ V := fun v => by rw [HV2.out] at v; exact absurd (hq3.symm.trans v.2.2.1) (by decide)
     clear HV2 hq3
     go_wp2_with fail
     go_ret
     exact retE_no (by decide) hno hT6.below
    | true =>
     rintro e W6 ⟨rfl, hb6⟩
     have hT6 := hT5.next hb6
     obtain ⟨x60, x61, x62⟩ := bx3 hT6.fst
     obtain ⟨y60, y61, y62, y63⟩ := bx4 hT6.snd
     have HQ3 := Lib.hid hq3
     clear hq3 x50 x51 x52 y50 y51 y52 y53
     go_wp2_with fail
     refine (between_any _ _ _ _).mono ?_
     cases hq4 : inR2 ot 0 0 with
     | false =>
      rintro e W7 ⟨rfl, hb7⟩
      have hT7 := hT6.next hb7
      have hno : ¬ V := fun v => by rw [HV2.out] at v; exact absurd (hq4.symm.trans v.2.2.2.1) (by decide)
      clear HV2 hq4
      go_wp2_with fail
      go_ret
      exact retE_no (by decide) hno hT7.below
     | true =>
      rintro e W7 ⟨rfl, hb7⟩
      have hT7 := hT6.next hb7
      obtain ⟨x70, x71, x72⟩ := bx3 hT7.fst
      obtain ⟨y70, y71, y72, y73⟩ := bx4 hT7.snd
      clear x60 x61 x62 y60 y61 y62 y63
      have HC := Lib.hid (show nameOk nm.data.toList = true ∧ inR2 9 1 9 = true ∧ inR2 sz 0 0 = true ∧ inR2 ot 0 0 = true ∧ ((9 : Int) = 3 → ∃ q, p.obs[ot.toNat]? = some q ∧ q.kind = 1) from ⟨HQ1.out, HQ2.out, HQ3.out, hq4, fun e => absurd e (by decide)⟩)
      clear hq4
      go_wp2_with fail
      go_loopw [8] (fun i wr => ∃ j : Nat, i = .int .i64 j ∧ j ≤ k ∧ Hid ((p.obs.take j).any (fun x => x.name == nm) = false) ∧ Two w wr [.slice p.funA p.funs.length p.funC, .slice (some ⟨b, off, none⟩) p.obs.length p.obC, .slice p.vrA p.vrs.length p.vrC] [.string nm, .int .i64 9, .int .i64 sz, .int .i64 ot]) (fun i _ => k - (intOf i).toNat)
      case atStart => exact ⟨0, rfl, by omega, Lib.hid (by simp), hT7⟩
      case round =>
       obtain ⟨j, rfl, hj, hnone, hTr⟩ := hrel
       obtain ⟨x80, x81, x82⟩ := bx3 hTr.fst
       obtain ⟨y80, y81, y82, y83⟩ := bx4 hTr.snd
       have hj0 : (0 : Int) ≤ (j : Int) := by omega
       have hwr1 : IntKind.i64.wrap ((j : Int) + 1) = (j : Int) + 1 := by rw [IntKind.wrap_i64]; omega
       by_cases hlt : j < k
       ·have hd1 : decide ((j : Int) < (k : Int)) = true := decide_eq_true (by omega)
        have hd2 : decide (j < k) = true := decide_eq_true hlt
        have hjl : j < p.obs.length := by omega
        have hjl2 : (j : Int) < (p.obs.length : Int) := by omega
        obtain ⟨b9, off9, hA9, hb9, d0, -, -, -⟩ := h.ob hjl
        obtain ⟨rfl, rfl⟩ : b9 = b ∧ off9 = off := by rw [hA] at hA9; injection hA9 with e; injection e with e1 e2; exact ⟨e1.symm, e2.symm⟩
        have hs := any_take p.obs hjl hnone.out
        obtain ⟨nm', hnm'⟩ : ∃ nm', p.obs[j].name = nm' := ⟨_, rfl⟩
        rw [hnm'] at d0
        rw [hnm'] at hs
        have d0' := (hTr.below.cell (p := ⟨b9, off9 + j * 4, none⟩) hb9).trans d0
        have hbt := beq_toListBytes nm' nm
        obtain ⟨q, hq⟩ : ∃ q, (nm' == nm) = q := ⟨_, rfl⟩
        rw [hq] at hbt hs
        have hbt2 : (nm'.toList == nm.toList) = q := hbt.symm
        have HS := Lib.hid hs
        clear hbt hq hs d0 hA9 hnm' hnone
        cases q with
        | true =>
         have hno : ¬ V := fun v => by
          rw [HV2.out] at v
          have h9 := (names_iff (nmOf := Ob.name) _ _).2 v.2.2.2.2.2
          have h10 : (p.obs.take k).any (fun x => x.name == nm) = true := by
           have e : (p.obs.take k).take (j + 1) = p.obs.take (j + 1) := by rw [List.take_take, Nat.min_eq_left (by omega)]
           exact any_of_take' (k := j) (by rw [e]; exact HS.out)
          rw [h10] at h9; cases h9
         clear HV2 HC
         go_wp2_with fail
         go_quiet (fail)
         go_wp2_with fail
         go_ret
         exact retE_no (by decide) hno (hTr.below.trans (below_drews _ _ _))
        | false =>
         clear HC
         go_wp2_with fail
         go_quiet (fail)
         go_wp2_with fail
         exact ⟨⟨j + 1, by go_num, by omega, Lib.hid HS.out, hTr.next (below_drews _ _ _)⟩, by simp [intOf]; omega⟩
       ·have hd1 : decide ((j : Int) < (k : Int)) = false := decide_eq_false (by omega)
        have hd2 : decide (j < k) = false := decide_eq_false hlt
        obtain rfl : j = k := by omega
        have hyes : V := by
         rw [HV2.out]
         exact ⟨HC.out.1, HC.out.2.1, HC.out.2.2.1, HC.out.2.2.2.1, HC.out.2.2.2.2, (names_iff (nmOf := Ob.name) _ _).1 hnone.out⟩
        clear HV2 HC
        go_wp2_with fail
        go_ret
        exact retE_ok hyes hTr.below
end Go.Proofs.YtkpjdanfpolimaaGreat
