/- PolicySorted, walked, but for the chapter's example. Conditions: the policy and the attributes lie in memory; the example gives true. -/
import Derived.Test.YtgdpjmckpjkmeaaGreatDoorPsOrd
import Derived.Test.YtgdpjmckpjkmeaaGreatDoorPsGr2
import Derived.Deep.Cut
import Derived.Deep.DeepCutAuto
namespace Go.Proofs.YtgdpjmckpjkmeaaGreatDoor
open Go.RowKit
/-- Two boxes that are made, in either order, beside two calls. -/
structure R14 (wr : World) (o9 o10 : Option Nat) (p q : Value × Value) (W : World) : Prop where
  below : Below wr.heap.size wr W
  a9 : ∀ g, o9 = some g → wr.heap.size ≤ g ∧ g < W.heap.size ∧ (W.cell? ⟨g, 0, none⟩ = some p.1 ∧ W.cell? ⟨g, 1, none⟩ = some p.2 ∧ W.frozen? ⟨g, 0, none⟩ = false ∧ W.frozen? ⟨g, 1, none⟩ = false)
  a10 : ∀ g, o10 = some g → wr.heap.size ≤ g ∧ g < W.heap.size ∧ (W.cell? ⟨g, 0, none⟩ = some q.1 ∧ W.cell? ⟨g, 1, none⟩ = some q.2 ∧ W.frozen? ⟨g, 0, none⟩ = false ∧ W.frozen? ⟨g, 1, none⟩ = false)
  ne : ∀ g h, o9 = some g → o10 = some h → g ≠ h
def z2 : Value × Value := (.int .i64 0, .int .i64 0)
section
variable {wr W W' : World} {o9 o10 : Option Nat} {p q : Value × Value} {g k : Nat}
theorem R14.start (wr : World) : R14 wr none none z2 z2 wr := ⟨Below.refl _ _, fun _ h => (nomatch h), fun _ h => (nomatch h), fun _ _ h => (nomatch h)⟩
theorem R14.next (h : R14 wr o9 o10 p q W) (hb : Below W.heap.size W W') : R14 wr o9 o10 p q W' := by
  refine ⟨h.below.trans (hb.mono h.below.size), fun g hg => ?_, fun g hg => ?_, h.ne⟩
  · obtain ⟨x1, x2, x3, x4, x5, x6⟩ := h.a9 g hg
    exact ⟨x1, Nat.lt_of_lt_of_le x2 hb.size, (hb.cell (p := ⟨g, 0, none⟩) x2).trans x3, (hb.cell (p := ⟨g, 1, none⟩) x2).trans x4, (hb.frozen (p := ⟨g, 0, none⟩) x2).trans x5, (hb.frozen (p := ⟨g, 1, none⟩) x2).trans x6⟩
  · obtain ⟨x1, x2, x3, x4, x5, x6⟩ := h.a10 g hg
    exact ⟨x1, Nat.lt_of_lt_of_le x2 hb.size, (hb.cell (p := ⟨g, 0, none⟩) x2).trans x3, (hb.cell (p := ⟨g, 1, none⟩) x2).trans x4, (hb.frozen (p := ⟨g, 0, none⟩) x2).trans x5, (hb.frozen (p := ⟨g, 1, none⟩) x2).trans x6⟩
theorem R14.al9 (h : R14 wr none o10 z2 q W) : R14 wr (some W.heap.size) o10 z2 q (W.alloc (.cells #[.int .i64 0, .int .i64 0] 40)) := by
  have hn := h.next (below_alloc W (.cells #[.int .i64 0, .int .i64 0] 40))
  have hb := bx_new W #[.int .i64 0, .int .i64 0] 40
  refine ⟨hn.below, fun g hg => ?_, hn.a10, fun g k hg hk => ?_⟩
  · injection hg with hg
    subst hg
    exact ⟨h.below.size, by simp, hb 0 _ rfl, hb 1 _ rfl, by simp, by simp⟩
  · injection hg with hg
    have := (h.a10 k hk).2.1
    omega
theorem R14.al10 (h : R14 wr o9 none p z2 W) : R14 wr o9 (some W.heap.size) p z2 (W.alloc (.cells #[.int .i64 0, .int .i64 0] 40)) := by
  have hn := h.next (below_alloc W (.cells #[.int .i64 0, .int .i64 0] 40))
  have hb := bx_new W #[.int .i64 0, .int .i64 0] 40
  refine ⟨hn.below, hn.a9, fun g hg => ?_, fun g k hg hk => ?_⟩
  · injection hg with hg
    subst hg
    exact ⟨h.below.size, by simp, hb 0 _ rfl, hb 1 _ rfl, by simp, by simp⟩
  · injection hk with hk
    have := (h.a9 g hg).2.1
    omega
theorem R14.c9 (h : R14 wr (some g) o10 p q W) : W.cell? ⟨g, 0, none⟩ = some p.1 ∧ W.cell? ⟨g, 1, none⟩ = some p.2 ∧ W.frozen? ⟨g, 0, none⟩ = false ∧ W.frozen? ⟨g, 1, none⟩ = false := (h.a9 g rfl).2.2
theorem R14.c10 (h : R14 wr o9 (some g) p q W) : W.cell? ⟨g, 0, none⟩ = some q.1 ∧ W.cell? ⟨g, 1, none⟩ = some q.2 ∧ W.frozen? ⟨g, 0, none⟩ = false ∧ W.frozen? ⟨g, 1, none⟩ = false := (h.a10 g rfl).2.2
theorem set2_far {W : World} {g k i : Nat} (h : g ≠ k) (a b : Value) : ((W.setCell ⟨g, 0, none⟩ a).setCell ⟨g, 1, none⟩ b).cell? ⟨k, i, none⟩ = W.cell? ⟨k, i, none⟩ :=
  (World.cell?_setCell_far _ _ _ _ h).trans (World.cell?_setCell_far _ _ _ _ h)
theorem set2_frz {W : World} (g : Nat) (a b : Value) (x : Addr) : ((W.setCell ⟨g, 0, none⟩ a).setCell ⟨g, 1, none⟩ b).frozen? x = W.frozen? x := by
  rw [World.frozen?_setCell, World.frozen?_setCell]
theorem set2_below {B : Nat} (hb : Below B wr W) (h : B ≤ g) (a b : Value) : Below B wr ((W.setCell ⟨g, 0, none⟩ a).setCell ⟨g, 1, none⟩ b) :=
  (hb.setCell (p := ⟨g, 0, none⟩) h a).setCell (p := ⟨g, 1, none⟩) h b
theorem R14.st9 (h : R14 wr (some g) (some k) p q W) (a b : Value) : R14 wr (some g) (some k) (a, b) q ((W.setCell ⟨g, 0, none⟩ a).setCell ⟨g, 1, none⟩ b) := by
  obtain ⟨x1, x2, x3, x4, x5, x6⟩ := h.a9 g rfl
  obtain ⟨y1, y2, y3, y4, y5, y6⟩ := h.a10 k rfl
  have hne := h.ne g k rfl rfl
  obtain ⟨s0, s1⟩ := set2 x3 x4 a b
  refine ⟨set2_below h.below x1 a b, fun g' hg => ?_, fun g' hg => ?_, h.ne⟩
  · injection hg with hg
    subst hg
    exact ⟨x1, by simpa using x2, s0, s1, by rw [set2_frz]; exact x5, by rw [set2_frz]; exact x6⟩
  · injection hg with hg
    subst hg
    exact ⟨y1, by simpa using y2, (set2_far hne a b).trans y3, (set2_far hne a b).trans y4, by rw [set2_frz]; exact y5, by rw [set2_frz]; exact y6⟩
theorem R14.st10 (h : R14 wr (some g) (some k) p q W) (a b : Value) : R14 wr (some g) (some k) p (a, b) ((W.setCell ⟨k, 0, none⟩ a).setCell ⟨k, 1, none⟩ b) := by
  obtain ⟨x1, x2, x3, x4, x5, x6⟩ := h.a9 g rfl
  obtain ⟨y1, y2, y3, y4, y5, y6⟩ := h.a10 k rfl
  have hne := h.ne g k rfl rfl
  obtain ⟨s0, s1⟩ := set2 y3 y4 a b
  refine ⟨set2_below h.below y1 a b, fun g' hg => ?_, fun g' hg => ?_, h.ne⟩
  · injection hg with hg
    subst hg
    exact ⟨x1, by simpa using x2, (set2_far (Ne.symm hne) a b).trans x3, (set2_far (Ne.symm hne) a b).trans x4, by rw [set2_frz]; exact x5, by rw [set2_frz]; exact x6⟩
  · injection hg with hg
    subst hg
    exact ⟨y1, by simpa using y2, s0, s1, by rw [set2_frz]; exact y5, by rw [set2_frz]; exact y6⟩
/-- What the region leaves. -/
def Fin14 (wr : World) (g k : Nat) (a b : Value × Value) (W : World) : Prop := Below wr.heap.size wr W ∧ W.cell? ⟨g, 0, none⟩ = some a.1 ∧ W.cell? ⟨g, 1, none⟩ = some a.2 ∧ W.cell? ⟨k, 0, none⟩ = some b.1 ∧ W.cell? ⟨k, 1, none⟩ = some b.2
theorem R14.fin (h : R14 wr (some g) (some k) p q W) : Fin14 wr g k p q W := ⟨h.below, h.c9.1, h.c9.2.1, h.c10.1, h.c10.2.1⟩
end
theorem rd_at {W : World} {B : Nat} {A : Option Addr} {l : List Nat} (h : Rd W B 1 A l.length (l.map natV)) {k : Nat} (hk : k < l.length) : ∃ b off : Nat, A = some ⟨b, off, none⟩ ∧ b < B ∧ ∀ (j : Nat) (hj : j < l.length), W.cell? ⟨b, off + j, none⟩ = some (.int .i64 (l[j] : Nat)) := by
  obtain ⟨b, off, e, hb, hc⟩ := Rd.addr h (by omega)
  exact ⟨b, off, e, hb, fun j hj => hc j _ (by rw [List.getElem?_map, List.getElem?_eq_getElem hj]; rfl)⟩
theorem ord_lt {n : Nat} {rk : Nat → Int × Int} {l : List Nat} (h : IsOrd n rk l) {i : Nat} (hi : i + 1 < l.length) : ltS (rk (l[i]'(by omega))) (rk l[i + 1]) (l[i]'(by omega)) l[i + 1] = true :=
  List.pairwise_iff_getElem.1 h.sorted i (i + 1) (by omega) hi (by omega)
theorem ord_not {n : Nat} {rk : Nat → Int × Int} {l : List Nat} (h : IsOrd n rk l) {i : Nat} (hi : i < l.length) : l[i] ∉ l.take i := by
  intro hm
  obtain ⟨j, hj, e⟩ := List.getElem_of_mem hm
  simp only [List.length_take] at hj
  rw [List.getElem_take] at e
  have := (List.pairwise_iff_getElem.1 h.nodup) j i (by omega) hi (by omega)
  exact this e
def trueV : Value := .bool true
set_option maxRecDepth 100000 in
set_option maxHeartbeats 6400000 in
theorem sorted_any (A : Option Addr) (c B : Nat) (rs : List Rl) (Al : Option Addr) (cl : Nat) (ls : List At) (w : World) (hP : LiesP w B A c rs) (hB : B ≤ w.heap.size) (hL : LiesA w B Al cl ls)
    (hAW : ∀ W, Below w.heap.size w W → Calls Tryz.prog 7 #[] W (Ret (.bool true) W)) :
    Calls Tryz.prog 4 #[.agg #[.slice A rs.length c], .slice Al ls.length cl] w (Ret (.bool true) w) := by
  have HP := Lib.hid hP
  have HL := Lib.hid hL
  have hll := hL.len
  have HAW := Lib.hid hAW
  have hO := one_new w #[.slice A rs.length c] 24
  have HGR : Hid (∀ W, Below w.heap.size w W → Calls Tryz.prog 6 #[.agg #[.slice A rs.length c]] W (Ret (.bool (grtP rs)) W)) := Lib.hid (fun W hW => great_any A c B rs W (hP.below' hW hB) (Nat.le_trans hB hW.size))
  unfold Ret at HGR HAW
  unfold Ret
  clear hP hL hAW
  cases hg : grtP rs with
  | true =>
    rw [hg] at HGR
    clear hg
    go_enter Tryz.func4, Tryz.ntmps4
    go_upto_region 1 with fail
    generalize w.alloc _ = w1 at hO ⊢
    have x0 := hO.fst 0 _ rfl
    go_wp2_with fail
    refine (HGR.out _ hO.below).mono ?_
    rintro e w2 ⟨rfl, hb2⟩
    have HB := Lib.hid (hO.below.trans (hb2.mono hO.below.size))
    clear x0 hb2 hO
    go_wp2_with fail
    refine (HAW.out _ HB.out).mono ?_
    rintro e w3 ⟨rfl, hb3⟩
    have HB3 := Lib.hid (HB.out.trans (hb3.mono HB.out.size))
    clear hb3
    go_wp2_with fail
    go_ret
    exact ⟨rfl, HB3.out⟩
  | false =>
    rw [hg] at HGR
    clear hg
    by_cases h12 : 12 < ls.length
    · have a1 : decide ((ls.length : Int) > 12) = true := decide_eq_true (by omega)
      have a2 : decide (12 < (ls.length : Int)) = true := decide_eq_true (by omega)
      have a3 : decide (12 < ls.length) = true := decide_eq_true h12
      clear h12
      go_enter Tryz.func4, Tryz.ntmps4
      go_upto_region 1 with fail
      generalize w.alloc _ = w1 at hO ⊢
      have x0 := hO.fst 0 _ rfl
      go_wp2_with fail
      refine (HGR.out _ hO.below).mono ?_
      rintro e w2 ⟨rfl, hb2⟩
      have HB := Lib.hid (hO.below.trans (hb2.mono hO.below.size))
      clear x0 hb2 hO
      go_wp2_with fail
      refine (HAW.out _ HB.out).mono ?_
      rintro e w3 ⟨rfl, hb3⟩
      have HB3 := Lib.hid (HB.out.trans (hb3.mono HB.out.size))
      clear hb3
      go_wp2_with fail
      go_ret
      exact ⟨rfl, HB3.out⟩
    · have a1 : decide ((ls.length : Int) > 12) = false := decide_eq_false (by omega)
      have a2 : decide (12 < (ls.length : Int)) = false := decide_eq_false (by omega)
      have a3 : decide (12 < ls.length) = false := decide_eq_false h12
      have HOR : Hid (∀ W, Below w.heap.size w W → Calls Tryz.prog 12 #[.agg #[.slice A rs.length c], .slice Al ls.length cl] W (OrdR rs ls W)) := Lib.hid (fun W hW => order_any A c B rs Al cl ls W (HP.out.below' hW hB) (Nat.le_trans hB hW.size) (HL.out.below' hW hB) (by omega))
      have H12 := Lib.hid h12
      clear h12
      go_enter Tryz.func4, Tryz.ntmps4
      go_upto_region 1 with fail
      generalize w.alloc _ = w1 at hO ⊢
      have x0 := hO.fst 0 _ rfl
      go_wp2_with fail
      refine (HGR.out _ hO.below).mono ?_
      rintro e w2 ⟨rfl, hb2⟩
      replace hO := hO.next hb2
      clear x0 hb2
      have x0 := hO.fst 0 _ rfl
      go_wp2_with fail
      refine (HOR.out _ hO.below).mono ?_
      intro e w3 hR
      unfold OrdR at hR
      obtain ⟨hb3, hR⟩ := hR
      have HB3 := Lib.hid (hO.below.trans (hb3.mono hO.below.size))
      replace hO := hO.next hb3
      clear hb3 x0
      rcases hR with ⟨hne, rfl⟩ | ⟨-, -, rfl⟩ | ⟨-, hall, Ao, co, l, rfl, hco, hord, hrd⟩
      · generalize chkP rs = f at hne
        have e1 : ((f : Int) != 0) = true := by simpa using hne
        have e2 : (f != 0) = true := by simpa using hne
        clear hne hO
        go_wp2_with fail
        refine (HAW.out _ HB3.out).mono ?_
        rintro e w4 ⟨rfl, hb4⟩
        have HB4 := Lib.hid (HB3.out.trans (hb4.mono HB3.out.size))
        clear hb4
        go_wp2_with fail
        go_ret
        exact ⟨rfl, HB4.out⟩
      · clear hO
        go_wp2_with fail
        refine (HAW.out _ HB3.out).mono ?_
        rintro e w4 ⟨rfl, hb4⟩
        have HB4 := Lib.hid (HB3.out.trans (hb4.mono HB3.out.size))
        clear hb4
        go_wp2_with fail
        go_ret
        exact ⟨rfl, HB4.out⟩
      · have b1 : ((ls.length : Int) != (ls.length : Int)) = false := by simp
        have b2 : (ls.length != ls.length) = false := by simp
        have hlen := hord.len
        have HORD := Lib.hid hord
        have HRD : Hid (Rd w3 w3.heap.size 1 Ao l.length (l.map natV)) := Lib.hid (by rw [hlen]; exact hrd)
        have HLN := Lib.hid hlen
        have HALL := Lib.hid hall
        have HO := Lib.hid hO
        clear hlen hord hrd hall hO
        go_wp2_with fail
        go_loopw [4, 40] (fun r i wr => r = .bool false ∧ ∃ j : Nat, i = .int .i64 (j : Nat) ∧ j ≤ ls.length ∧ Below w3.heap.size w3 wr) (fun _ i _ => ls.length - (intOf i).toNat)
        case atStart => exact ⟨rfl, 0, rfl, Nat.zero_le _, Below.refl _ _⟩
        case round =>
          obtain ⟨rfl, j, rfl, hj, hb⟩ := hrel
          have hj0 : (0 : Int) ≤ (j : Int) := by omega
          have HBW := Lib.hid (HB3.out.trans (hb.mono HB3.out.size))
          have HB := Lib.hid hb
          have x0 := (HO.out.next hb).fst 0 _ rfl
          have hw0 := (HO.out.next hb).size
          by_cases hlt : j < ls.length
          · have hd1 : decide ((j : Int) < (ls.length : Int)) = true := decide_eq_true (by omega)
            have hwr1 : IntKind.i64.wrap ((j : Int) + 1) = (j : Int) + 1 := by rw [IntKind.wrap_i64]; omega
            have hd2 : decide (j < ls.length) = true := decide_eq_true hlt
            have hjl : (j : Int) < (ls.length : Int) := by omega
            have hjc : (j : Int) ≤ (co : Int) := by omega
            have hjc2 : j ≤ co := by omega
            have hjL : j < l.length := by rw [HLN.out]; exact hlt
            obtain ⟨bo, oo, rfl, hbo, hcell⟩ := rd_at (Rd.below' HRD.out hb (Nat.le_refl _)) hjL
            have hk : l[j] < ls.length := HORD.out.mem (List.getElem_mem hjL)
            have y0 := hcell j hjL
            have HC := Lib.hid hcell
            have HCT : Hid (∀ W, W = wr → ∀ c', Calls Tryz.prog 13 #[.slice (some ⟨bo, oo, none⟩) j c', .int .i64 (l[j] : Nat)] W (RetP (.bool false) wr)) := Lib.hid (fun W e c' => by
              subst e
              have hzs : ∀ q, q < (l.map (fun (x : Nat) => (x : Int))).length → W.cell? ⟨bo, oo + q, none⟩ = some (.int .i64 ((l.map (fun (x : Nat) => (x : Int))).getD q 0)) := fun q hq => by
                simp only [List.length_map] at hq
                rw [hcell q hq]
                simp [List.getD, List.getElem?_eq_getElem hq]
              have h1 := Tryz.slices_Contains_int bo oo j c' (l.map (fun (x : Nat) => (x : Int))) (l[j] : Nat) W (by simp; omega) (by omega) hzs
              have h2 : ((l.map (fun (x : Nat) => (x : Int))).take j).contains ((l[j] : Nat) : Int) = false := by
                rw [← List.map_take]
                have := ord_not HORD.out hjL
                rw [Bool.eq_false_iff]
                intro hc
                rw [List.contains_iff_mem, List.mem_map] at hc
                obtain ⟨x, hx, e⟩ := hc
                have : x = l[j] := by omega
                subst this
                contradiction
              rw [h2] at h1
              exact h1)
            unfold RetP at HCT
            have hk1 : decide (((l[j] : Nat) : Int) < 0) = false := decide_eq_false (by omega)
            have hk2 : decide (((l[j] : Nat) : Int) ≥ (ls.length : Int)) = false := decide_eq_false (by omega)
            have hk3 : decide ((ls.length : Int) ≤ ((l[j] : Nat) : Int)) = false := decide_eq_false (by omega)
            have hk4 : decide (ls.length ≤ l[j]) = false := decide_eq_false (by omega)
            have hki : ((l[j] : Nat) : Int) < (ls.length : Int) := by omega
            have hk0 : (0 : Int) ≤ ((l[j] : Nat) : Int) := by omega
            obtain ⟨kk, hkk⟩ : ∃ kk, kk = l[j] := ⟨_, rfl⟩
            rw [← hkk] at hk y0 HCT hk1 hk2 hk3 hk4 hki hk0
            have HKK := Lib.hid hkk
            clear hcell hb hkk
            by_cases hj1 : j = 0
            · subst hj1
              rw [Nat.add_zero] at y0
              go_wp2_with (go_at_call 13; refine (HCT.out _ rfl _).mono ?_; rintro e w5 ⟨rfl, hw5⟩; obtain rfl : wr = w5 := hw5.symm)
              exact ⟨⟨rfl, 0 + 1, by first | rfl | go_num, by omega, HB.out⟩, by simp [intOf]; omega⟩
            · have c1 : ((j : Int) == 0) = false := by simpa using hj1
              have c2 : (j == 0) = false := by simpa using hj1
              have hp1 : j - 1 < l.length := by omega
              have hpk : l[j - 1] < ls.length := HORD.out.mem (List.getElem_mem hp1)
              have yp := HC.out (j - 1) hp1
              have hlt9 : ltS (rankR rs (ls.getD (l[j - 1]'hp1) ⟨0, 0, []⟩).vals) (rankR rs (ls.getD kk ⟨0, 0, []⟩).vals) (l[j - 1]'hp1) kk = true := by
                have := ord_lt HORD.out (i := j - 1) (by omega)
                rw [HKK.out]
                simpa [show j - 1 + 1 = j from by omega] using this
              obtain ⟨pp, hpp⟩ : ∃ pp, pp = l[j - 1]'hp1 := ⟨_, rfl⟩
              rw [← hpp] at hpk yp hlt9
              have hpi : ((pp : Nat) : Int) < (ls.length : Int) := by omega
              have hp0 : (0 : Int) ≤ ((pp : Nat) : Int) := by omega
              have hs1 : IntKind.i64.wrap ((j : Int) - 1) = (j : Int) - 1 := by rw [IntKind.wrap_i64]; omega
              have hs2 : (0 : Int) ≤ (j : Int) - 1 := by omega
              have hs3 : ((j : Int) - 1).toNat = j - 1 := by omega
              have hs5 : (1 : Int) ≤ (j : Int) := by omega
              have hs4 : (j : Int) - 1 < (ls.length : Int) := by omega
              obtain ⟨hvl1, ba, oa, Aa, ca, rfl, hba, hRa, p0, p1, p2⟩ := (HL.out.below' HBW.out hB).at_ pp hpk
              obtain ⟨hvl2, bb, ob, Ab2, cb2, eb, hbb, hRb, q0, q1, q2⟩ := (HL.out.below' HBW.out hB).at_ kk hk
              injection eb with eb
              injection eb with eb1 eb2 _
              subst eb1 eb2
              have e9 (z : Nat) (hz : z < ls.length) : ls.getD z ⟨0, 0, []⟩ = ls[z] := by simp [List.getD, List.getElem?_eq_getElem hz]
              rw [e9 pp hpk, e9 kk hk] at hlt9
              have hfa := List.all_eq_true.1 HALL.out _ (List.getElem_mem hpk)
              have hfb := List.all_eq_true.1 HALL.out _ (List.getElem_mem hk)
              have HR1 : Hid (∀ W, Below wr.heap.size wr W → Calls Tryz.prog 14 #[.agg #[.slice A rs.length c], .agg #[.int .i64 ls[pp].task, .int .i64 ls[pp].case_, .slice Aa ls[pp].vals.length ca]] W (Ret (.agg #[.int .i64 (rankR rs ls[pp].vals).1, .int .i64 (rankR rs ls[pp].vals).2]) W)) := Lib.hid (fun W hW => by
                have h1 := HBW.out.trans (hW.mono HBW.out.size)
                exact rank_any _ (bdok_fits hfa) _ _ Aa ca B A c B rs W (HP.out.below' h1 hB) (Nat.le_trans hB h1.size) (Rd.below' hRa hW (Nat.le_trans hB HBW.out.size)) (Nat.le_trans hB h1.size))
              have HR2 : Hid (∀ W, Below wr.heap.size wr W → Calls Tryz.prog 14 #[.agg #[.slice A rs.length c], .agg #[.int .i64 ls[kk].task, .int .i64 ls[kk].case_, .slice Ab2 ls[kk].vals.length cb2]] W (Ret (.agg #[.int .i64 (rankR rs ls[kk].vals).1, .int .i64 (rankR rs ls[kk].vals).2]) W)) := Lib.hid (fun W hW => by
                have h1 := HBW.out.trans (hW.mono HBW.out.size)
                exact rank_any _ (bdok_fits hfb) _ _ Ab2 cb2 B A c B rs W (HP.out.below' h1 hB) (Nat.le_trans hB h1.size) (Rd.below' hRb hW (Nat.le_trans hB HBW.out.size)) (Nat.le_trans hB h1.size))
              generalize rankR rs ls[pp].vals = ra at HR1 hlt9
              generalize rankR rs ls[kk].vals = rb at HR2 hlt9
              generalize ls[pp].task = t1 at p0 HR1
              generalize ls[pp].case_ = s1 at p1 HR1
              generalize ls[pp].vals.length = n1 at p2 HR1
              generalize ls[kk].task = t2 at q0 HR2
              generalize ls[kk].case_ = s2 at q1 HR2
              generalize ls[kk].vals.length = n2 at q2 HR2
              unfold Ret at HR1 HR2
              have HLT := Lib.hid hlt9
              have hwb : ba < wr.heap.size := by omega
              clear hlt9 hRa hRb hvl1 hvl2 hfa hfb e9 hpp
              go_upto_region 14 with (go_at_call 13; refine (HCT.out _ rfl _).mono ?_; rintro e w5 ⟨rfl, hw5⟩; obtain rfl : wr = w5 := hw5.symm)
              go_cut [9, 10] (fun r9 r10 wx => ∃ g k : Nat, r9 = .pointer (some ⟨g, 0, none⟩) ∧ r10 = .pointer (some ⟨k, 0, none⟩) ∧ Fin14 wr g k (.int .i64 ra.1, .int .i64 ra.2) (.int .i64 rb.1, .int .i64 rb.2) wx)
              case first =>
                have HSS : Hid (∀ W, Below wr.heap.size wr W → W.cell? ⟨w.heap.size, 0, none⟩ = some (.slice A rs.length c) ∧ W.cell? ⟨bo, oo + (j - 1), none⟩ = some (.int .i64 (pp : Nat)) ∧ W.cell? ⟨ba, oa + pp * 3, none⟩ = some (.int .i64 t1) ∧ W.cell? ⟨ba, oa + pp * 3 + 1, none⟩ = some (.int .i64 s1) ∧ W.cell? ⟨ba, oa + pp * 3 + 2, none⟩ = some (.slice Aa n1 ca) ∧ W.cell? ⟨ba, oa + kk * 3, none⟩ = some (.int .i64 t2) ∧ W.cell? ⟨ba, oa + kk * 3 + 1, none⟩ = some (.int .i64 s2) ∧ W.cell? ⟨ba, oa + kk * 3 + 2, none⟩ = some (.slice Ab2 n2 cb2)) := Lib.hid (fun W hW => ⟨(hW.cell (p := ⟨w.heap.size, 0, none⟩) (by show w.heap.size < wr.heap.size; omega)).trans x0, (hW.cell (p := ⟨bo, oo + (j - 1), none⟩) (World.block_lt_of_cell? _ _ yp)).trans yp, (hW.cell (p := ⟨ba, oa + pp * 3, none⟩) hwb).trans p0, (hW.cell (p := ⟨ba, oa + pp * 3 + 1, none⟩) hwb).trans p1, (hW.cell (p := ⟨ba, oa + pp * 3 + 2, none⟩) hwb).trans p2, (hW.cell (p := ⟨ba, oa + kk * 3, none⟩) hwb).trans q0, (hW.cell (p := ⟨ba, oa + kk * 3 + 1, none⟩) hwb).trans q1, (hW.cell (p := ⟨ba, oa + kk * 3 + 2, none⟩) hwb).trans q2⟩)
                have hbd : Below wr.heap.size wr wr.drew := ⟨rfl, rfl, rfl, Nat.le_refl _, fun _ _ => rfl⟩
                refine wp_region_held_drew (S := fun W => W.cell? ⟨w.heap.size, 0, none⟩ = some (.slice A rs.length c) ∧ W.cell? ⟨bo, oo + (j - 1), none⟩ = some (.int .i64 (pp : Nat)) ∧ W.cell? ⟨ba, oa + pp * 3, none⟩ = some (.int .i64 t1) ∧ W.cell? ⟨ba, oa + pp * 3 + 1, none⟩ = some (.int .i64 s1) ∧ W.cell? ⟨ba, oa + pp * 3 + 2, none⟩ = some (.slice Aa n1 ca) ∧ W.cell? ⟨ba, oa + kk * 3, none⟩ = some (.int .i64 t2) ∧ W.cell? ⟨ba, oa + kk * 3 + 1, none⟩ = some (.int .i64 s2) ∧ W.cell? ⟨ba, oa + kk * 3 + 2, none⟩ = some (.slice Ab2 n2 cb2)) (by kernel_rfl) (HSS.out _ hbd) (fun hHeld => ?_)
                have M0 := (R14.start wr).next hbd
                clear x0 y0 yp p0 p1 p2 q0 q1 q2 hbd
                generalize wr.drew = W0 at M0 hHeld ⊢
                refine wpAnyH_take (i := 0) (v := ?_) rfl (by kernel_rfl) (by kernel_rfl) (by kernel_rfl) (fun _ _ _ h => h) (Or.inl ⟨by kernel_rfl, ?_⟩) (by assumption) ?_
                rotate_left
                · intro w hSw; (try dsimp only at hSw); go_simp; with_reducible rfl
                try simp only [List.getElem_toArray, List.getElem_cons_zero, Act.put, List.setIfInBounds_toArray, List.set_cons_zero, List.set_cons_succ]
                refine wpAnyH_take (i := 1) (v := ?_) rfl (by kernel_rfl) (by kernel_rfl) (by kernel_rfl) (fun _ _ _ h => h) (Or.inl ⟨by kernel_rfl, ?_⟩) (by assumption) ?_
                rotate_left
                · intro w hSw; (try dsimp only at hSw); go_simp; with_reducible rfl
                try simp only [List.getElem_toArray, List.getElem_cons_succ, List.getElem_cons_zero, Act.put, List.setIfInBounds_toArray, List.set_cons_zero, List.set_cons_succ]
                refine wpAnyH_take (i := 2) (v := ?_) rfl (by kernel_rfl) (by kernel_rfl) (by kernel_rfl) (fun _ _ _ h => h) (Or.inl ⟨by kernel_rfl, ?_⟩) (by assumption) ?_
                rotate_left
                · intro w hSw; (try dsimp only at hSw); go_simp; with_reducible rfl
                try simp only [List.getElem_toArray, List.getElem_cons_succ, List.getElem_cons_zero, Act.put, List.setIfInBounds_toArray, List.set_cons_zero, List.set_cons_succ]
                refine wpAnyH_take (i := 3) (v := ?_) rfl (by kernel_rfl) (by kernel_rfl) (by kernel_rfl) (fun _ _ _ h => h) (Or.inl ⟨by kernel_rfl, ?_⟩) (by assumption) ?_
                rotate_left
                · intro w hSw; (try dsimp only at hSw); go_simp; with_reducible rfl
                try simp only [List.getElem_toArray, List.getElem_cons_succ, List.getElem_cons_zero, Act.put, List.setIfInBounds_toArray, List.set_cons_zero, List.set_cons_succ]
                refine wpAnyH_take (i := 4) (v := ?_) rfl (by kernel_rfl) (by kernel_rfl) (by kernel_rfl) (fun _ _ _ h => h) (Or.inl ⟨by kernel_rfl, ?_⟩) (by assumption) ?_
                rotate_left
                · intro w hSw; (try dsimp only at hSw); go_simp; with_reducible rfl
                try simp only [List.getElem_toArray, List.getElem_cons_succ, List.getElem_cons_zero, Act.put, List.setIfInBounds_toArray, List.set_cons_zero, List.set_cons_succ]
                refine wpAnyH_take (i := 5) (v := ?_) rfl (by kernel_rfl) (by kernel_rfl) (by kernel_rfl) (fun _ _ _ h => h) (Or.inl ⟨by kernel_rfl, ?_⟩) (by assumption) ?_
                rotate_left
                · intro w hSw; (try dsimp only at hSw); go_simp; with_reducible rfl
                try simp only [List.getElem_toArray, List.getElem_cons_succ, List.getElem_cons_zero, Act.put, List.setIfInBounds_toArray, List.set_cons_zero, List.set_cons_succ]
                refine wpAnyH_take (i := 6) (v := ?_) rfl (by kernel_rfl) (by kernel_rfl) (by kernel_rfl) (fun _ _ _ h => h) (Or.inl ⟨by kernel_rfl, ?_⟩) (by assumption) ?_
                rotate_left
                · intro w hSw; (try dsimp only at hSw); go_simp; with_reducible rfl
                try simp only [List.getElem_toArray, List.getElem_cons_succ, List.getElem_cons_zero, Act.put, List.setIfInBounds_toArray, List.set_cons_zero, List.set_cons_succ]
                refine wpAnyH_take (i := 7) (v := ?_) rfl (by kernel_rfl) (by kernel_rfl) (by kernel_rfl) (fun _ _ _ h => h) (Or.inl ⟨by kernel_rfl, ?_⟩) (by assumption) ?_
                rotate_left
                · intro w hSw; (try dsimp only at hSw); go_simp; with_reducible rfl
                try simp only [List.getElem_toArray, List.getElem_cons_succ, List.getElem_cons_zero, Act.put, List.setIfInBounds_toArray, List.set_cons_zero, List.set_cons_succ]
                refine wpAnyH_take (i := 8) (v := ?_) rfl (by kernel_rfl) (by kernel_rfl) (by kernel_rfl) (fun _ _ _ h => h) (Or.inl ⟨by kernel_rfl, ?_⟩) (by assumption) ?_
                rotate_left
                · intro w hSw; (try dsimp only at hSw); go_simp; with_reducible rfl
                try simp only [List.getElem_toArray, List.getElem_cons_succ, List.getElem_cons_zero, Act.put, List.setIfInBounds_toArray, List.set_cons_zero, List.set_cons_succ]
                refine wpAnyH_take (i := 10) (v := ?_) rfl (by kernel_rfl) (by kernel_rfl) (by kernel_rfl) (fun _ _ _ h => h) (Or.inl ⟨by kernel_rfl, ?_⟩) (by assumption) ?_
                rotate_left
                · intro w hSw; (try dsimp only at hSw); go_simp; with_reducible rfl
                try simp only [List.getElem_toArray, List.getElem_cons_succ, List.getElem_cons_zero, Act.put, List.setIfInBounds_toArray, List.set_cons_zero, List.set_cons_succ]
                refine wpAnyH_take (i := 11) (v := ?_) rfl (by kernel_rfl) (by kernel_rfl) (by kernel_rfl) (fun _ _ _ h => h) (Or.inl ⟨by kernel_rfl, ?_⟩) (by assumption) ?_
                rotate_left
                · intro w hSw; (try dsimp only at hSw); go_simp; with_reducible rfl
                try simp only [List.getElem_toArray, List.getElem_cons_succ, List.getElem_cons_zero, Act.put, List.setIfInBounds_toArray, List.set_cons_zero, List.set_cons_succ]
                refine wpAnyH_take (i := 12) (v := ?_) rfl (by kernel_rfl) (by kernel_rfl) (by kernel_rfl) (fun _ _ _ h => h) (Or.inl ⟨by kernel_rfl, ?_⟩) (by assumption) ?_
                rotate_left
                · intro w hSw; (try dsimp only at hSw); go_simp; with_reducible rfl
                try simp only [List.getElem_toArray, List.getElem_cons_succ, List.getElem_cons_zero, Act.put, List.setIfInBounds_toArray, List.set_cons_zero, List.set_cons_succ]
                refine wpAnyH_take (i := 13) (v := ?_) rfl (by kernel_rfl) (by kernel_rfl) (by kernel_rfl) (fun _ _ _ h => h) (Or.inl ⟨by kernel_rfl, ?_⟩) (by assumption) ?_
                rotate_left
                · intro w hSw; (try dsimp only at hSw); go_simp; with_reducible rfl
                try simp only [List.getElem_toArray, List.getElem_cons_succ, List.getElem_cons_zero, Act.put, List.setIfInBounds_toArray, List.set_cons_zero, List.set_cons_succ]
                refine wpAnyH_take (i := 14) (v := ?_) rfl (by kernel_rfl) (by kernel_rfl) (by kernel_rfl) (fun _ _ _ h => h) (Or.inl ⟨by kernel_rfl, ?_⟩) (by assumption) ?_
                rotate_left
                · intro w hSw; (try dsimp only at hSw); go_simp; with_reducible rfl
                try simp only [List.getElem_toArray, List.getElem_cons_succ, List.getElem_cons_zero, Act.put, List.setIfInBounds_toArray, List.set_cons_zero, List.set_cons_succ]
                clear a1 a2 a3 b1 b2 hd1 hd2 hjl hjc hjc2 hk1 hk2 hk3 hk4 hki hk0 hpi hp0 hs1 hs2 hs3 hs4 hs5 c1 c2 hwr1 hj0 hHeld hco hll
                refine wpAnyH_ready (rs := [9, 16, 17]) (by kernel_rfl) (by simp) ?_
                refine (AllReadyH.cons rfl (fun K hK => ?_) (AllReadyH.cons rfl (fun K hK => ?_) (AllReadyH.cons rfl (fun K hK => ?_) AllReadyH.nil)))
                · go_simp
                  refine (HR1.out _ M0.below).mono ?_
                  rintro e W1 ⟨rfl, hb1⟩
                  have M1 := M0.next hb1
                  clear hb1
                  try dsimp only
                  refine hK.out _ _ ?_ (fun hHeld => ?_)
                  · exact HSS.out _ M1.below
                  clear hK K hHeld
                  try simp only [List.getElem_toArray, List.getElem_cons_succ, List.getElem_cons_zero, Act.put, List.setIfInBounds_toArray, List.set_cons_zero, List.set_cons_succ]
                  refine wpAnyH_ready (rs := [15, 16, 17]) (by kernel_rfl) (by simp) ?_
                  refine (AllReadyH.cons rfl (fun K hK => ?_) (AllReadyH.cons rfl (fun K hK => ?_) (AllReadyH.cons rfl (fun K hK => ?_) AllReadyH.nil)))
                  · go_simp
                    refine (HR2.out _ M1.below).mono ?_
                    rintro e W2 ⟨rfl, hb2⟩
                    have M2 := M1.next hb2
                    clear hb2
                    try dsimp only
                    refine hK.out _ _ ?_ (fun hHeld => ?_)
                    · exact HSS.out _ M2.below
                    clear hK K hHeld
                    try simp only [List.getElem_toArray, List.getElem_cons_succ, List.getElem_cons_zero, Act.put, List.setIfInBounds_toArray, List.set_cons_zero, List.set_cons_succ]
                    refine wpAnyH_ready (rs := [16, 17]) (by kernel_rfl) (by simp) ?_
                    refine (AllReadyH.cons rfl (fun K hK => ?_) (AllReadyH.cons rfl (fun K hK => ?_) AllReadyH.nil))
                    · go_simp
                      have M3 := M2.al9
                      refine hK.out _ _ ?_ (fun hHeld => ?_)
                      · exact HSS.out _ M3.below
                      clear hK K hHeld
                      try simp only [List.getElem_toArray, List.getElem_cons_succ, List.getElem_cons_zero, Act.put, List.setIfInBounds_toArray, List.set_cons_zero, List.set_cons_succ]
                      generalize World.alloc W2 _ = W3 at M3 ⊢
                      refine wpAnyH_ready (rs := [17]) (by kernel_rfl) (by simp) ?_
                      refine AllReadyH.cons rfl (fun K hK => ?_) AllReadyH.nil
                      go_simp
                      have M4 := M3.al10
                      refine hK.out _ _ ?_ (fun hHeld => ?_)
                      · exact HSS.out _ M4.below
                      clear hK K hHeld
                      try simp only [List.getElem_toArray, List.getElem_cons_succ, List.getElem_cons_zero, Act.put, List.setIfInBounds_toArray, List.set_cons_zero, List.set_cons_succ]
                      generalize World.alloc W3 _ = W4 at M4 ⊢
                      refine wpAnyH_ready (rs := [18]) (by kernel_rfl) (by simp) ?_
                      refine AllReadyH.cons rfl (fun K hK => ?_) AllReadyH.nil
                      obtain ⟨u0, u1, v0, v1⟩ := M4.c9
                      have M5 := M4.st9 (.int .i64 ra.1) (.int .i64 ra.2)
                      go_simp
                      refine hK.out _ _ ?_ (fun hHeld => ?_)
                      · exact HSS.out _ M5.below
                      clear hK K hHeld
                      try simp only [List.getElem_toArray, List.getElem_cons_succ, List.getElem_cons_zero, Act.put, List.setIfInBounds_toArray, List.set_cons_zero, List.set_cons_succ]
                      refine wpAnyH_ready (rs := [19]) (by kernel_rfl) (by simp) ?_
                      refine AllReadyH.cons rfl (fun K hK => ?_) AllReadyH.nil
                      clear u0 u1 v0 v1
                      obtain ⟨u0, u1, v0, v1⟩ := M5.c10
                      have M6 := M5.st10 (.int .i64 rb.1) (.int .i64 rb.2)
                      go_simp
                      refine hK.out _ _ ?_ (fun hHeld => ?_)
                      · exact HSS.out _ M6.below
                      clear hK K hHeld
                      try simp only [List.getElem_toArray, List.getElem_cons_succ, List.getElem_cons_zero, Act.put, List.setIfInBounds_toArray, List.set_cons_zero, List.set_cons_succ]
                      refine wpAnyH_done (by kernel_rfl) ?_ _
                      try dsimp only [Exit.then]
                      have HM := Lib.hid M6.fin
                      clear u0 u1 v0 v1 M0 M1 M2 M3 M4 M5 M6
                      go_wp2_with fail
                      go_meet
                      case rel => exact ⟨_, _, rfl, rfl, HM.out⟩
                    · go_simp
                      have M3 := M2.al10
                      refine hK.out _ _ ?_ (fun hHeld => ?_)
                      · exact HSS.out _ M3.below
                      clear hK K hHeld
                      try simp only [List.getElem_toArray, List.getElem_cons_succ, List.getElem_cons_zero, Act.put, List.setIfInBounds_toArray, List.set_cons_zero, List.set_cons_succ]
                      generalize World.alloc W2 _ = W3 at M3 ⊢
                      refine wpAnyH_ready (rs := [16]) (by kernel_rfl) (by simp) ?_
                      refine AllReadyH.cons rfl (fun K hK => ?_) AllReadyH.nil
                      go_simp
                      have M4 := M3.al9
                      refine hK.out _ _ ?_ (fun hHeld => ?_)
                      · exact HSS.out _ M4.below
                      clear hK K hHeld
                      try simp only [List.getElem_toArray, List.getElem_cons_succ, List.getElem_cons_zero, Act.put, List.setIfInBounds_toArray, List.set_cons_zero, List.set_cons_succ]
                      generalize World.alloc W3 _ = W4 at M4 ⊢
                      refine wpAnyH_ready (rs := [18]) (by kernel_rfl) (by simp) ?_
                      refine AllReadyH.cons rfl (fun K hK => ?_) AllReadyH.nil
                      obtain ⟨u0, u1, v0, v1⟩ := M4.c9
                      have M5 := M4.st9 (.int .i64 ra.1) (.int .i64 ra.2)
                      go_simp
                      refine hK.out _ _ ?_ (fun hHeld => ?_)
                      · exact HSS.out _ M5.below
                      clear hK K hHeld
                      try simp only [List.getElem_toArray, List.getElem_cons_succ, List.getElem_cons_zero, Act.put, List.setIfInBounds_toArray, List.set_cons_zero, List.set_cons_succ]
                      refine wpAnyH_ready (rs := [19]) (by kernel_rfl) (by simp) ?_
                      refine AllReadyH.cons rfl (fun K hK => ?_) AllReadyH.nil
                      clear u0 u1 v0 v1
                      obtain ⟨u0, u1, v0, v1⟩ := M5.c10
                      have M6 := M5.st10 (.int .i64 rb.1) (.int .i64 rb.2)
                      go_simp
                      refine hK.out _ _ ?_ (fun hHeld => ?_)
                      · exact HSS.out _ M6.below
                      clear hK K hHeld
                      try simp only [List.getElem_toArray, List.getElem_cons_succ, List.getElem_cons_zero, Act.put, List.setIfInBounds_toArray, List.set_cons_zero, List.set_cons_succ]
                      refine wpAnyH_done (by kernel_rfl) ?_ _
                      try dsimp only [Exit.then]
                      have HM := Lib.hid M6.fin
                      clear u0 u1 v0 v1 M0 M1 M2 M3 M4 M5 M6
                      go_wp2_with fail
                      go_meet
                      case rel => exact ⟨_, _, rfl, rfl, HM.out⟩
                  · go_simp
                    have M2 := M1.al9
                    refine hK.out _ _ ?_ (fun hHeld => ?_)
                    · exact HSS.out _ M2.below
                    clear hK K hHeld
                    try simp only [List.getElem_toArray, List.getElem_cons_succ, List.getElem_cons_zero, Act.put, List.setIfInBounds_toArray, List.set_cons_zero, List.set_cons_succ]
                    generalize World.alloc W1 _ = W2 at M2 ⊢
                    refine wpAnyH_ready (rs := [15, 17]) (by kernel_rfl) (by simp) ?_
                    refine (AllReadyH.cons rfl (fun K hK => ?_) (AllReadyH.cons rfl (fun K hK => ?_) AllReadyH.nil))
                    · go_simp
                      refine (HR2.out _ M2.below).mono ?_
                      rintro e W3 ⟨rfl, hb3⟩
                      have M3 := M2.next hb3
                      clear hb3
                      try dsimp only
                      refine hK.out _ _ ?_ (fun hHeld => ?_)
                      · exact HSS.out _ M3.below
                      clear hK K hHeld
                      try simp only [List.getElem_toArray, List.getElem_cons_succ, List.getElem_cons_zero, Act.put, List.setIfInBounds_toArray, List.set_cons_zero, List.set_cons_succ]
                      refine wpAnyH_ready (rs := [17]) (by kernel_rfl) (by simp) ?_
                      refine AllReadyH.cons rfl (fun K hK => ?_) AllReadyH.nil
                      go_simp
                      have M4 := M3.al10
                      refine hK.out _ _ ?_ (fun hHeld => ?_)
                      · exact HSS.out _ M4.below
                      clear hK K hHeld
                      try simp only [List.getElem_toArray, List.getElem_cons_succ, List.getElem_cons_zero, Act.put, List.setIfInBounds_toArray, List.set_cons_zero, List.set_cons_succ]
                      generalize World.alloc W3 _ = W4 at M4 ⊢
                      refine wpAnyH_ready (rs := [18]) (by kernel_rfl) (by simp) ?_
                      refine AllReadyH.cons rfl (fun K hK => ?_) AllReadyH.nil
                      obtain ⟨u0, u1, v0, v1⟩ := M4.c9
                      have M5 := M4.st9 (.int .i64 ra.1) (.int .i64 ra.2)
                      go_simp
                      refine hK.out _ _ ?_ (fun hHeld => ?_)
                      · exact HSS.out _ M5.below
                      clear hK K hHeld
                      try simp only [List.getElem_toArray, List.getElem_cons_succ, List.getElem_cons_zero, Act.put, List.setIfInBounds_toArray, List.set_cons_zero, List.set_cons_succ]
                      refine wpAnyH_ready (rs := [19]) (by kernel_rfl) (by simp) ?_
                      refine AllReadyH.cons rfl (fun K hK => ?_) AllReadyH.nil
                      clear u0 u1 v0 v1
                      obtain ⟨u0, u1, v0, v1⟩ := M5.c10
                      have M6 := M5.st10 (.int .i64 rb.1) (.int .i64 rb.2)
                      go_simp
                      refine hK.out _ _ ?_ (fun hHeld => ?_)
                      · exact HSS.out _ M6.below
                      clear hK K hHeld
                      try simp only [List.getElem_toArray, List.getElem_cons_succ, List.getElem_cons_zero, Act.put, List.setIfInBounds_toArray, List.set_cons_zero, List.set_cons_succ]
                      refine wpAnyH_done (by kernel_rfl) ?_ _
                      try dsimp only [Exit.then]
                      have HM := Lib.hid M6.fin
                      clear u0 u1 v0 v1 M0 M1 M2 M3 M4 M5 M6
                      go_wp2_with fail
                      go_meet
                      case rel => exact ⟨_, _, rfl, rfl, HM.out⟩
                    · go_simp
                      have M3 := M2.al10
                      refine hK.out _ _ ?_ (fun hHeld => ?_)
                      · exact HSS.out _ M3.below
                      clear hK K hHeld
                      try simp only [List.getElem_toArray, List.getElem_cons_succ, List.getElem_cons_zero, Act.put, List.setIfInBounds_toArray, List.set_cons_zero, List.set_cons_succ]
                      generalize World.alloc W2 _ = W3 at M3 ⊢
                      refine wpAnyH_ready (rs := [15]) (by kernel_rfl) (by simp) ?_
                      refine AllReadyH.cons rfl (fun K hK => ?_) AllReadyH.nil
                      go_simp
                      refine (HR2.out _ M3.below).mono ?_
                      rintro e W4 ⟨rfl, hb4⟩
                      have M4 := M3.next hb4
                      clear hb4
                      try dsimp only
                      refine hK.out _ _ ?_ (fun hHeld => ?_)
                      · exact HSS.out _ M4.below
                      clear hK K hHeld
                      try simp only [List.getElem_toArray, List.getElem_cons_succ, List.getElem_cons_zero, Act.put, List.setIfInBounds_toArray, List.set_cons_zero, List.set_cons_succ]
                      refine wpAnyH_ready (rs := [18]) (by kernel_rfl) (by simp) ?_
                      refine AllReadyH.cons rfl (fun K hK => ?_) AllReadyH.nil
                      obtain ⟨u0, u1, v0, v1⟩ := M4.c9
                      have M5 := M4.st9 (.int .i64 ra.1) (.int .i64 ra.2)
                      go_simp
                      refine hK.out _ _ ?_ (fun hHeld => ?_)
                      · exact HSS.out _ M5.below
                      clear hK K hHeld
                      try simp only [List.getElem_toArray, List.getElem_cons_succ, List.getElem_cons_zero, Act.put, List.setIfInBounds_toArray, List.set_cons_zero, List.set_cons_succ]
                      refine wpAnyH_ready (rs := [19]) (by kernel_rfl) (by simp) ?_
                      refine AllReadyH.cons rfl (fun K hK => ?_) AllReadyH.nil
                      clear u0 u1 v0 v1
                      obtain ⟨u0, u1, v0, v1⟩ := M5.c10
                      have M6 := M5.st10 (.int .i64 rb.1) (.int .i64 rb.2)
                      go_simp
                      refine hK.out _ _ ?_ (fun hHeld => ?_)
                      · exact HSS.out _ M6.below
                      clear hK K hHeld
                      try simp only [List.getElem_toArray, List.getElem_cons_succ, List.getElem_cons_zero, Act.put, List.setIfInBounds_toArray, List.set_cons_zero, List.set_cons_succ]
                      refine wpAnyH_done (by kernel_rfl) ?_ _
                      try dsimp only [Exit.then]
                      have HM := Lib.hid M6.fin
                      clear u0 u1 v0 v1 M0 M1 M2 M3 M4 M5 M6
                      go_wp2_with fail
                      go_meet
                      case rel => exact ⟨_, _, rfl, rfl, HM.out⟩
                  · go_simp
                    have M2 := M1.al10
                    refine hK.out _ _ ?_ (fun hHeld => ?_)
                    · exact HSS.out _ M2.below
                    clear hK K hHeld
                    try simp only [List.getElem_toArray, List.getElem_cons_succ, List.getElem_cons_zero, Act.put, List.setIfInBounds_toArray, List.set_cons_zero, List.set_cons_succ]
                    generalize World.alloc W1 _ = W2 at M2 ⊢
                    refine wpAnyH_ready (rs := [15, 16]) (by kernel_rfl) (by simp) ?_
                    refine (AllReadyH.cons rfl (fun K hK => ?_) (AllReadyH.cons rfl (fun K hK => ?_) AllReadyH.nil))
                    · go_simp
                      refine (HR2.out _ M2.below).mono ?_
                      rintro e W3 ⟨rfl, hb3⟩
                      have M3 := M2.next hb3
                      clear hb3
                      try dsimp only
                      refine hK.out _ _ ?_ (fun hHeld => ?_)
                      · exact HSS.out _ M3.below
                      clear hK K hHeld
                      try simp only [List.getElem_toArray, List.getElem_cons_succ, List.getElem_cons_zero, Act.put, List.setIfInBounds_toArray, List.set_cons_zero, List.set_cons_succ]
                      refine wpAnyH_ready (rs := [16]) (by kernel_rfl) (by simp) ?_
                      refine AllReadyH.cons rfl (fun K hK => ?_) AllReadyH.nil
                      go_simp
                      have M4 := M3.al9
                      refine hK.out _ _ ?_ (fun hHeld => ?_)
                      · exact HSS.out _ M4.below
                      clear hK K hHeld
                      try simp only [List.getElem_toArray, List.getElem_cons_succ, List.getElem_cons_zero, Act.put, List.setIfInBounds_toArray, List.set_cons_zero, List.set_cons_succ]
                      generalize World.alloc W3 _ = W4 at M4 ⊢
                      refine wpAnyH_ready (rs := [18]) (by kernel_rfl) (by simp) ?_
                      refine AllReadyH.cons rfl (fun K hK => ?_) AllReadyH.nil
                      obtain ⟨u0, u1, v0, v1⟩ := M4.c9
                      have M5 := M4.st9 (.int .i64 ra.1) (.int .i64 ra.2)
                      go_simp
                      refine hK.out _ _ ?_ (fun hHeld => ?_)
                      · exact HSS.out _ M5.below
                      clear hK K hHeld
                      try simp only [List.getElem_toArray, List.getElem_cons_succ, List.getElem_cons_zero, Act.put, List.setIfInBounds_toArray, List.set_cons_zero, List.set_cons_succ]
                      refine wpAnyH_ready (rs := [19]) (by kernel_rfl) (by simp) ?_
                      refine AllReadyH.cons rfl (fun K hK => ?_) AllReadyH.nil
                      clear u0 u1 v0 v1
                      obtain ⟨u0, u1, v0, v1⟩ := M5.c10
                      have M6 := M5.st10 (.int .i64 rb.1) (.int .i64 rb.2)
                      go_simp
                      refine hK.out _ _ ?_ (fun hHeld => ?_)
                      · exact HSS.out _ M6.below
                      clear hK K hHeld
                      try simp only [List.getElem_toArray, List.getElem_cons_succ, List.getElem_cons_zero, Act.put, List.setIfInBounds_toArray, List.set_cons_zero, List.set_cons_succ]
                      refine wpAnyH_done (by kernel_rfl) ?_ _
                      try dsimp only [Exit.then]
                      have HM := Lib.hid M6.fin
                      clear u0 u1 v0 v1 M0 M1 M2 M3 M4 M5 M6
                      go_wp2_with fail
                      go_meet
                      case rel => exact ⟨_, _, rfl, rfl, HM.out⟩
                    · go_simp
                      have M3 := M2.al9
                      refine hK.out _ _ ?_ (fun hHeld => ?_)
                      · exact HSS.out _ M3.below
                      clear hK K hHeld
                      try simp only [List.getElem_toArray, List.getElem_cons_succ, List.getElem_cons_zero, Act.put, List.setIfInBounds_toArray, List.set_cons_zero, List.set_cons_succ]
                      generalize World.alloc W2 _ = W3 at M3 ⊢
                      refine wpAnyH_ready (rs := [15]) (by kernel_rfl) (by simp) ?_
                      refine AllReadyH.cons rfl (fun K hK => ?_) AllReadyH.nil
                      go_simp
                      refine (HR2.out _ M3.below).mono ?_
                      rintro e W4 ⟨rfl, hb4⟩
                      have M4 := M3.next hb4
                      clear hb4
                      try dsimp only
                      refine hK.out _ _ ?_ (fun hHeld => ?_)
                      · exact HSS.out _ M4.below
                      clear hK K hHeld
                      try simp only [List.getElem_toArray, List.getElem_cons_succ, List.getElem_cons_zero, Act.put, List.setIfInBounds_toArray, List.set_cons_zero, List.set_cons_succ]
                      refine wpAnyH_ready (rs := [18]) (by kernel_rfl) (by simp) ?_
                      refine AllReadyH.cons rfl (fun K hK => ?_) AllReadyH.nil
                      obtain ⟨u0, u1, v0, v1⟩ := M4.c9
                      have M5 := M4.st9 (.int .i64 ra.1) (.int .i64 ra.2)
                      go_simp
                      refine hK.out _ _ ?_ (fun hHeld => ?_)
                      · exact HSS.out _ M5.below
                      clear hK K hHeld
                      try simp only [List.getElem_toArray, List.getElem_cons_succ, List.getElem_cons_zero, Act.put, List.setIfInBounds_toArray, List.set_cons_zero, List.set_cons_succ]
                      refine wpAnyH_ready (rs := [19]) (by kernel_rfl) (by simp) ?_
                      refine AllReadyH.cons rfl (fun K hK => ?_) AllReadyH.nil
                      clear u0 u1 v0 v1
                      obtain ⟨u0, u1, v0, v1⟩ := M5.c10
                      have M6 := M5.st10 (.int .i64 rb.1) (.int .i64 rb.2)
                      go_simp
                      refine hK.out _ _ ?_ (fun hHeld => ?_)
                      · exact HSS.out _ M6.below
                      clear hK K hHeld
                      try simp only [List.getElem_toArray, List.getElem_cons_succ, List.getElem_cons_zero, Act.put, List.setIfInBounds_toArray, List.set_cons_zero, List.set_cons_succ]
                      refine wpAnyH_done (by kernel_rfl) ?_ _
                      try dsimp only [Exit.then]
                      have HM := Lib.hid M6.fin
                      clear u0 u1 v0 v1 M0 M1 M2 M3 M4 M5 M6
                      go_wp2_with fail
                      go_meet
                      case rel => exact ⟨_, _, rfl, rfl, HM.out⟩
                · go_simp
                  have M1 := M0.al9
                  refine hK.out _ _ ?_ (fun hHeld => ?_)
                  · exact HSS.out _ M1.below
                  clear hK K hHeld
                  try simp only [List.getElem_toArray, List.getElem_cons_succ, List.getElem_cons_zero, Act.put, List.setIfInBounds_toArray, List.set_cons_zero, List.set_cons_succ]
                  generalize World.alloc W0 _ = W1 at M1 ⊢
                  refine wpAnyH_ready (rs := [9, 17]) (by kernel_rfl) (by simp) ?_
                  refine (AllReadyH.cons rfl (fun K hK => ?_) (AllReadyH.cons rfl (fun K hK => ?_) AllReadyH.nil))
                  · go_simp
                    refine (HR1.out _ M1.below).mono ?_
                    rintro e W2 ⟨rfl, hb2⟩
                    have M2 := M1.next hb2
                    clear hb2
                    try dsimp only
                    refine hK.out _ _ ?_ (fun hHeld => ?_)
                    · exact HSS.out _ M2.below
                    clear hK K hHeld
                    try simp only [List.getElem_toArray, List.getElem_cons_succ, List.getElem_cons_zero, Act.put, List.setIfInBounds_toArray, List.set_cons_zero, List.set_cons_succ]
                    refine wpAnyH_ready (rs := [15, 17]) (by kernel_rfl) (by simp) ?_
                    refine (AllReadyH.cons rfl (fun K hK => ?_) (AllReadyH.cons rfl (fun K hK => ?_) AllReadyH.nil))
                    · go_simp
                      refine (HR2.out _ M2.below).mono ?_
                      rintro e W3 ⟨rfl, hb3⟩
                      have M3 := M2.next hb3
                      clear hb3
                      try dsimp only
                      refine hK.out _ _ ?_ (fun hHeld => ?_)
                      · exact HSS.out _ M3.below
                      clear hK K hHeld
                      try simp only [List.getElem_toArray, List.getElem_cons_succ, List.getElem_cons_zero, Act.put, List.setIfInBounds_toArray, List.set_cons_zero, List.set_cons_succ]
                      refine wpAnyH_ready (rs := [17]) (by kernel_rfl) (by simp) ?_
                      refine AllReadyH.cons rfl (fun K hK => ?_) AllReadyH.nil
                      go_simp
                      have M4 := M3.al10
                      refine hK.out _ _ ?_ (fun hHeld => ?_)
                      · exact HSS.out _ M4.below
                      clear hK K hHeld
                      try simp only [List.getElem_toArray, List.getElem_cons_succ, List.getElem_cons_zero, Act.put, List.setIfInBounds_toArray, List.set_cons_zero, List.set_cons_succ]
                      generalize World.alloc W3 _ = W4 at M4 ⊢
                      refine wpAnyH_ready (rs := [18]) (by kernel_rfl) (by simp) ?_
                      refine AllReadyH.cons rfl (fun K hK => ?_) AllReadyH.nil
                      obtain ⟨u0, u1, v0, v1⟩ := M4.c9
                      have M5 := M4.st9 (.int .i64 ra.1) (.int .i64 ra.2)
                      go_simp
                      refine hK.out _ _ ?_ (fun hHeld => ?_)
                      · exact HSS.out _ M5.below
                      clear hK K hHeld
                      try simp only [List.getElem_toArray, List.getElem_cons_succ, List.getElem_cons_zero, Act.put, List.setIfInBounds_toArray, List.set_cons_zero, List.set_cons_succ]
                      refine wpAnyH_ready (rs := [19]) (by kernel_rfl) (by simp) ?_
                      refine AllReadyH.cons rfl (fun K hK => ?_) AllReadyH.nil
                      clear u0 u1 v0 v1
                      obtain ⟨u0, u1, v0, v1⟩ := M5.c10
                      have M6 := M5.st10 (.int .i64 rb.1) (.int .i64 rb.2)
                      go_simp
                      refine hK.out _ _ ?_ (fun hHeld => ?_)
                      · exact HSS.out _ M6.below
                      clear hK K hHeld
                      try simp only [List.getElem_toArray, List.getElem_cons_succ, List.getElem_cons_zero, Act.put, List.setIfInBounds_toArray, List.set_cons_zero, List.set_cons_succ]
                      refine wpAnyH_done (by kernel_rfl) ?_ _
                      try dsimp only [Exit.then]
                      have HM := Lib.hid M6.fin
                      clear u0 u1 v0 v1 M0 M1 M2 M3 M4 M5 M6
                      go_wp2_with fail
                      go_meet
                      case rel => exact ⟨_, _, rfl, rfl, HM.out⟩
                    · go_simp
                      have M3 := M2.al10
                      refine hK.out _ _ ?_ (fun hHeld => ?_)
                      · exact HSS.out _ M3.below
                      clear hK K hHeld
                      try simp only [List.getElem_toArray, List.getElem_cons_succ, List.getElem_cons_zero, Act.put, List.setIfInBounds_toArray, List.set_cons_zero, List.set_cons_succ]
                      generalize World.alloc W2 _ = W3 at M3 ⊢
                      refine wpAnyH_ready (rs := [15]) (by kernel_rfl) (by simp) ?_
                      refine AllReadyH.cons rfl (fun K hK => ?_) AllReadyH.nil
                      go_simp
                      refine (HR2.out _ M3.below).mono ?_
                      rintro e W4 ⟨rfl, hb4⟩
                      have M4 := M3.next hb4
                      clear hb4
                      try dsimp only
                      refine hK.out _ _ ?_ (fun hHeld => ?_)
                      · exact HSS.out _ M4.below
                      clear hK K hHeld
                      try simp only [List.getElem_toArray, List.getElem_cons_succ, List.getElem_cons_zero, Act.put, List.setIfInBounds_toArray, List.set_cons_zero, List.set_cons_succ]
                      refine wpAnyH_ready (rs := [18]) (by kernel_rfl) (by simp) ?_
                      refine AllReadyH.cons rfl (fun K hK => ?_) AllReadyH.nil
                      obtain ⟨u0, u1, v0, v1⟩ := M4.c9
                      have M5 := M4.st9 (.int .i64 ra.1) (.int .i64 ra.2)
                      go_simp
                      refine hK.out _ _ ?_ (fun hHeld => ?_)
                      · exact HSS.out _ M5.below
                      clear hK K hHeld
                      try simp only [List.getElem_toArray, List.getElem_cons_succ, List.getElem_cons_zero, Act.put, List.setIfInBounds_toArray, List.set_cons_zero, List.set_cons_succ]
                      refine wpAnyH_ready (rs := [19]) (by kernel_rfl) (by simp) ?_
                      refine AllReadyH.cons rfl (fun K hK => ?_) AllReadyH.nil
                      clear u0 u1 v0 v1
                      obtain ⟨u0, u1, v0, v1⟩ := M5.c10
                      have M6 := M5.st10 (.int .i64 rb.1) (.int .i64 rb.2)
                      go_simp
                      refine hK.out _ _ ?_ (fun hHeld => ?_)
                      · exact HSS.out _ M6.below
                      clear hK K hHeld
                      try simp only [List.getElem_toArray, List.getElem_cons_succ, List.getElem_cons_zero, Act.put, List.setIfInBounds_toArray, List.set_cons_zero, List.set_cons_succ]
                      refine wpAnyH_done (by kernel_rfl) ?_ _
                      try dsimp only [Exit.then]
                      have HM := Lib.hid M6.fin
                      clear u0 u1 v0 v1 M0 M1 M2 M3 M4 M5 M6
                      go_wp2_with fail
                      go_meet
                      case rel => exact ⟨_, _, rfl, rfl, HM.out⟩
                  · go_simp
                    have M2 := M1.al10
                    refine hK.out _ _ ?_ (fun hHeld => ?_)
                    · exact HSS.out _ M2.below
                    clear hK K hHeld
                    try simp only [List.getElem_toArray, List.getElem_cons_succ, List.getElem_cons_zero, Act.put, List.setIfInBounds_toArray, List.set_cons_zero, List.set_cons_succ]
                    generalize World.alloc W1 _ = W2 at M2 ⊢
                    refine wpAnyH_ready (rs := [9]) (by kernel_rfl) (by simp) ?_
                    refine AllReadyH.cons rfl (fun K hK => ?_) AllReadyH.nil
                    go_simp
                    refine (HR1.out _ M2.below).mono ?_
                    rintro e W3 ⟨rfl, hb3⟩
                    have M3 := M2.next hb3
                    clear hb3
                    try dsimp only
                    refine hK.out _ _ ?_ (fun hHeld => ?_)
                    · exact HSS.out _ M3.below
                    clear hK K hHeld
                    try simp only [List.getElem_toArray, List.getElem_cons_succ, List.getElem_cons_zero, Act.put, List.setIfInBounds_toArray, List.set_cons_zero, List.set_cons_succ]
                    refine wpAnyH_ready (rs := [15]) (by kernel_rfl) (by simp) ?_
                    refine AllReadyH.cons rfl (fun K hK => ?_) AllReadyH.nil
                    go_simp
                    refine (HR2.out _ M3.below).mono ?_
                    rintro e W4 ⟨rfl, hb4⟩
                    have M4 := M3.next hb4
                    clear hb4
                    try dsimp only
                    refine hK.out _ _ ?_ (fun hHeld => ?_)
                    · exact HSS.out _ M4.below
                    clear hK K hHeld
                    try simp only [List.getElem_toArray, List.getElem_cons_succ, List.getElem_cons_zero, Act.put, List.setIfInBounds_toArray, List.set_cons_zero, List.set_cons_succ]
                    refine wpAnyH_ready (rs := [18]) (by kernel_rfl) (by simp) ?_
                    refine AllReadyH.cons rfl (fun K hK => ?_) AllReadyH.nil
                    obtain ⟨u0, u1, v0, v1⟩ := M4.c9
                    have M5 := M4.st9 (.int .i64 ra.1) (.int .i64 ra.2)
                    go_simp
                    refine hK.out _ _ ?_ (fun hHeld => ?_)
                    · exact HSS.out _ M5.below
                    clear hK K hHeld
                    try simp only [List.getElem_toArray, List.getElem_cons_succ, List.getElem_cons_zero, Act.put, List.setIfInBounds_toArray, List.set_cons_zero, List.set_cons_succ]
                    refine wpAnyH_ready (rs := [19]) (by kernel_rfl) (by simp) ?_
                    refine AllReadyH.cons rfl (fun K hK => ?_) AllReadyH.nil
                    clear u0 u1 v0 v1
                    obtain ⟨u0, u1, v0, v1⟩ := M5.c10
                    have M6 := M5.st10 (.int .i64 rb.1) (.int .i64 rb.2)
                    go_simp
                    refine hK.out _ _ ?_ (fun hHeld => ?_)
                    · exact HSS.out _ M6.below
                    clear hK K hHeld
                    try simp only [List.getElem_toArray, List.getElem_cons_succ, List.getElem_cons_zero, Act.put, List.setIfInBounds_toArray, List.set_cons_zero, List.set_cons_succ]
                    refine wpAnyH_done (by kernel_rfl) ?_ _
                    try dsimp only [Exit.then]
                    have HM := Lib.hid M6.fin
                    clear u0 u1 v0 v1 M0 M1 M2 M3 M4 M5 M6
                    go_wp2_with fail
                    go_meet
                    case rel => exact ⟨_, _, rfl, rfl, HM.out⟩
                · go_simp
                  have M1 := M0.al10
                  refine hK.out _ _ ?_ (fun hHeld => ?_)
                  · exact HSS.out _ M1.below
                  clear hK K hHeld
                  try simp only [List.getElem_toArray, List.getElem_cons_succ, List.getElem_cons_zero, Act.put, List.setIfInBounds_toArray, List.set_cons_zero, List.set_cons_succ]
                  generalize World.alloc W0 _ = W1 at M1 ⊢
                  refine wpAnyH_ready (rs := [9, 16]) (by kernel_rfl) (by simp) ?_
                  refine (AllReadyH.cons rfl (fun K hK => ?_) (AllReadyH.cons rfl (fun K hK => ?_) AllReadyH.nil))
                  · go_simp
                    refine (HR1.out _ M1.below).mono ?_
                    rintro e W2 ⟨rfl, hb2⟩
                    have M2 := M1.next hb2
                    clear hb2
                    try dsimp only
                    refine hK.out _ _ ?_ (fun hHeld => ?_)
                    · exact HSS.out _ M2.below
                    clear hK K hHeld
                    try simp only [List.getElem_toArray, List.getElem_cons_succ, List.getElem_cons_zero, Act.put, List.setIfInBounds_toArray, List.set_cons_zero, List.set_cons_succ]
                    refine wpAnyH_ready (rs := [15, 16]) (by kernel_rfl) (by simp) ?_
                    refine (AllReadyH.cons rfl (fun K hK => ?_) (AllReadyH.cons rfl (fun K hK => ?_) AllReadyH.nil))
                    · go_simp
                      refine (HR2.out _ M2.below).mono ?_
                      rintro e W3 ⟨rfl, hb3⟩
                      have M3 := M2.next hb3
                      clear hb3
                      try dsimp only
                      refine hK.out _ _ ?_ (fun hHeld => ?_)
                      · exact HSS.out _ M3.below
                      clear hK K hHeld
                      try simp only [List.getElem_toArray, List.getElem_cons_succ, List.getElem_cons_zero, Act.put, List.setIfInBounds_toArray, List.set_cons_zero, List.set_cons_succ]
                      refine wpAnyH_ready (rs := [16]) (by kernel_rfl) (by simp) ?_
                      refine AllReadyH.cons rfl (fun K hK => ?_) AllReadyH.nil
                      go_simp
                      have M4 := M3.al9
                      refine hK.out _ _ ?_ (fun hHeld => ?_)
                      · exact HSS.out _ M4.below
                      clear hK K hHeld
                      try simp only [List.getElem_toArray, List.getElem_cons_succ, List.getElem_cons_zero, Act.put, List.setIfInBounds_toArray, List.set_cons_zero, List.set_cons_succ]
                      generalize World.alloc W3 _ = W4 at M4 ⊢
                      refine wpAnyH_ready (rs := [18]) (by kernel_rfl) (by simp) ?_
                      refine AllReadyH.cons rfl (fun K hK => ?_) AllReadyH.nil
                      obtain ⟨u0, u1, v0, v1⟩ := M4.c9
                      have M5 := M4.st9 (.int .i64 ra.1) (.int .i64 ra.2)
                      go_simp
                      refine hK.out _ _ ?_ (fun hHeld => ?_)
                      · exact HSS.out _ M5.below
                      clear hK K hHeld
                      try simp only [List.getElem_toArray, List.getElem_cons_succ, List.getElem_cons_zero, Act.put, List.setIfInBounds_toArray, List.set_cons_zero, List.set_cons_succ]
                      refine wpAnyH_ready (rs := [19]) (by kernel_rfl) (by simp) ?_
                      refine AllReadyH.cons rfl (fun K hK => ?_) AllReadyH.nil
                      clear u0 u1 v0 v1
                      obtain ⟨u0, u1, v0, v1⟩ := M5.c10
                      have M6 := M5.st10 (.int .i64 rb.1) (.int .i64 rb.2)
                      go_simp
                      refine hK.out _ _ ?_ (fun hHeld => ?_)
                      · exact HSS.out _ M6.below
                      clear hK K hHeld
                      try simp only [List.getElem_toArray, List.getElem_cons_succ, List.getElem_cons_zero, Act.put, List.setIfInBounds_toArray, List.set_cons_zero, List.set_cons_succ]
                      refine wpAnyH_done (by kernel_rfl) ?_ _
                      try dsimp only [Exit.then]
                      have HM := Lib.hid M6.fin
                      clear u0 u1 v0 v1 M0 M1 M2 M3 M4 M5 M6
                      go_wp2_with fail
                      go_meet
                      case rel => exact ⟨_, _, rfl, rfl, HM.out⟩
                    · go_simp
                      have M3 := M2.al9
                      refine hK.out _ _ ?_ (fun hHeld => ?_)
                      · exact HSS.out _ M3.below
                      clear hK K hHeld
                      try simp only [List.getElem_toArray, List.getElem_cons_succ, List.getElem_cons_zero, Act.put, List.setIfInBounds_toArray, List.set_cons_zero, List.set_cons_succ]
                      generalize World.alloc W2 _ = W3 at M3 ⊢
                      refine wpAnyH_ready (rs := [15]) (by kernel_rfl) (by simp) ?_
                      refine AllReadyH.cons rfl (fun K hK => ?_) AllReadyH.nil
                      go_simp
                      refine (HR2.out _ M3.below).mono ?_
                      rintro e W4 ⟨rfl, hb4⟩
                      have M4 := M3.next hb4
                      clear hb4
                      try dsimp only
                      refine hK.out _ _ ?_ (fun hHeld => ?_)
                      · exact HSS.out _ M4.below
                      clear hK K hHeld
                      try simp only [List.getElem_toArray, List.getElem_cons_succ, List.getElem_cons_zero, Act.put, List.setIfInBounds_toArray, List.set_cons_zero, List.set_cons_succ]
                      refine wpAnyH_ready (rs := [18]) (by kernel_rfl) (by simp) ?_
                      refine AllReadyH.cons rfl (fun K hK => ?_) AllReadyH.nil
                      obtain ⟨u0, u1, v0, v1⟩ := M4.c9
                      have M5 := M4.st9 (.int .i64 ra.1) (.int .i64 ra.2)
                      go_simp
                      refine hK.out _ _ ?_ (fun hHeld => ?_)
                      · exact HSS.out _ M5.below
                      clear hK K hHeld
                      try simp only [List.getElem_toArray, List.getElem_cons_succ, List.getElem_cons_zero, Act.put, List.setIfInBounds_toArray, List.set_cons_zero, List.set_cons_succ]
                      refine wpAnyH_ready (rs := [19]) (by kernel_rfl) (by simp) ?_
                      refine AllReadyH.cons rfl (fun K hK => ?_) AllReadyH.nil
                      clear u0 u1 v0 v1
                      obtain ⟨u0, u1, v0, v1⟩ := M5.c10
                      have M6 := M5.st10 (.int .i64 rb.1) (.int .i64 rb.2)
                      go_simp
                      refine hK.out _ _ ?_ (fun hHeld => ?_)
                      · exact HSS.out _ M6.below
                      clear hK K hHeld
                      try simp only [List.getElem_toArray, List.getElem_cons_succ, List.getElem_cons_zero, Act.put, List.setIfInBounds_toArray, List.set_cons_zero, List.set_cons_succ]
                      refine wpAnyH_done (by kernel_rfl) ?_ _
                      try dsimp only [Exit.then]
                      have HM := Lib.hid M6.fin
                      clear u0 u1 v0 v1 M0 M1 M2 M3 M4 M5 M6
                      go_wp2_with fail
                      go_meet
                      case rel => exact ⟨_, _, rfl, rfl, HM.out⟩
                  · go_simp
                    have M2 := M1.al9
                    refine hK.out _ _ ?_ (fun hHeld => ?_)
                    · exact HSS.out _ M2.below
                    clear hK K hHeld
                    try simp only [List.getElem_toArray, List.getElem_cons_succ, List.getElem_cons_zero, Act.put, List.setIfInBounds_toArray, List.set_cons_zero, List.set_cons_succ]
                    generalize World.alloc W1 _ = W2 at M2 ⊢
                    refine wpAnyH_ready (rs := [9]) (by kernel_rfl) (by simp) ?_
                    refine AllReadyH.cons rfl (fun K hK => ?_) AllReadyH.nil
                    go_simp
                    refine (HR1.out _ M2.below).mono ?_
                    rintro e W3 ⟨rfl, hb3⟩
                    have M3 := M2.next hb3
                    clear hb3
                    try dsimp only
                    refine hK.out _ _ ?_ (fun hHeld => ?_)
                    · exact HSS.out _ M3.below
                    clear hK K hHeld
                    try simp only [List.getElem_toArray, List.getElem_cons_succ, List.getElem_cons_zero, Act.put, List.setIfInBounds_toArray, List.set_cons_zero, List.set_cons_succ]
                    refine wpAnyH_ready (rs := [15]) (by kernel_rfl) (by simp) ?_
                    refine AllReadyH.cons rfl (fun K hK => ?_) AllReadyH.nil
                    go_simp
                    refine (HR2.out _ M3.below).mono ?_
                    rintro e W4 ⟨rfl, hb4⟩
                    have M4 := M3.next hb4
                    clear hb4
                    try dsimp only
                    refine hK.out _ _ ?_ (fun hHeld => ?_)
                    · exact HSS.out _ M4.below
                    clear hK K hHeld
                    try simp only [List.getElem_toArray, List.getElem_cons_succ, List.getElem_cons_zero, Act.put, List.setIfInBounds_toArray, List.set_cons_zero, List.set_cons_succ]
                    refine wpAnyH_ready (rs := [18]) (by kernel_rfl) (by simp) ?_
                    refine AllReadyH.cons rfl (fun K hK => ?_) AllReadyH.nil
                    obtain ⟨u0, u1, v0, v1⟩ := M4.c9
                    have M5 := M4.st9 (.int .i64 ra.1) (.int .i64 ra.2)
                    go_simp
                    refine hK.out _ _ ?_ (fun hHeld => ?_)
                    · exact HSS.out _ M5.below
                    clear hK K hHeld
                    try simp only [List.getElem_toArray, List.getElem_cons_succ, List.getElem_cons_zero, Act.put, List.setIfInBounds_toArray, List.set_cons_zero, List.set_cons_succ]
                    refine wpAnyH_ready (rs := [19]) (by kernel_rfl) (by simp) ?_
                    refine AllReadyH.cons rfl (fun K hK => ?_) AllReadyH.nil
                    clear u0 u1 v0 v1
                    obtain ⟨u0, u1, v0, v1⟩ := M5.c10
                    have M6 := M5.st10 (.int .i64 rb.1) (.int .i64 rb.2)
                    go_simp
                    refine hK.out _ _ ?_ (fun hHeld => ?_)
                    · exact HSS.out _ M6.below
                    clear hK K hHeld
                    try simp only [List.getElem_toArray, List.getElem_cons_succ, List.getElem_cons_zero, Act.put, List.setIfInBounds_toArray, List.set_cons_zero, List.set_cons_succ]
                    refine wpAnyH_done (by kernel_rfl) ?_ _
                    try dsimp only [Exit.then]
                    have HM := Lib.hid M6.fin
                    clear u0 u1 v0 v1 M0 M1 M2 M3 M4 M5 M6
                    go_wp2_with fail
                    go_meet
                    case rel => exact ⟨_, _, rfl, rfl, HM.out⟩
              case rest =>
                obtain ⟨g, k, rfl, rfl, hF⟩ := hcut
                obtain ⟨hbF, f0, f1, f2, f3⟩ := hF
                have yq := (hbF.cell (p := ⟨bo, oo + (j - 1), none⟩) (World.block_lt_of_cell? _ _ yp)).trans yp
                have HBF := Lib.hid (HB.out.trans (hbF.mono HB.out.size))
                clear hbF x0 y0 yp p0 p1 p2 q0 q1 q2
                have hlt9 := (ltS_iff _ _ _ _).1 HLT.out
                dsimp only at f0 f1 f2 f3
                rcases hlt9 with h1 | ⟨h1, h2 | ⟨h2, h3⟩⟩
                · have d1 : decide (ra.1 > rb.1) = false := decide_eq_false (by omega)
                  have d2 : decide (rb.1 < ra.1) = false := decide_eq_false (by omega)
                  have d3 : (ra.1 == rb.1) = false := by simpa using (by omega : ¬ ra.1 = rb.1)
                  clear h1
                  go_wp2_with fail
                  exact ⟨⟨rfl, j + 1, by go_num, by omega, HBF.out⟩, by simp [intOf]; omega⟩
                · have d1 : decide (ra.1 > rb.1) = false := decide_eq_false (by omega)
                  have d2 : decide (rb.1 < ra.1) = false := decide_eq_false (by omega)
                  have d3 : (ra.1 == rb.1) = true := by simpa using h1
                  have d4 : decide (ra.2 > rb.2) = false := decide_eq_false (by omega)
                  have d5 : decide (rb.2 < ra.2) = false := decide_eq_false (by omega)
                  have d6 : (ra.2 == rb.2) = false := by simpa using (by omega : ¬ ra.2 = rb.2)
                  clear h1 h2
                  go_wp2_with fail
                  exact ⟨⟨rfl, j + 1, by go_num, by omega, HBF.out⟩, by simp [intOf]; omega⟩
                · have d1 : decide (ra.1 > rb.1) = false := decide_eq_false (by omega)
                  have d2 : decide (rb.1 < ra.1) = false := decide_eq_false (by omega)
                  have d3 : (ra.1 == rb.1) = true := by simpa using h1
                  have d4 : decide (ra.2 > rb.2) = false := decide_eq_false (by omega)
                  have d5 : decide (rb.2 < ra.2) = false := decide_eq_false (by omega)
                  have d6 : (ra.2 == rb.2) = true := by simpa using h2
                  have d7 : decide (((pp : Nat) : Int) > ((kk : Nat) : Int)) = false := decide_eq_false (by omega)
                  have d8 : decide (((kk : Nat) : Int) < ((pp : Nat) : Int)) = false := decide_eq_false (by omega)
                  have d9 : decide (kk < pp) = false := decide_eq_false (by omega)
                  clear h1 h2 h3
                  go_wp2_with fail
                  exact ⟨⟨rfl, j + 1, by go_num, by omega, HBF.out⟩, by simp [intOf]; omega⟩
          · have hd1 : decide ((j : Int) < (ls.length : Int)) = false := decide_eq_false (by omega)
            have hd2 : decide (j < ls.length) = false := decide_eq_false hlt
            clear x0 hb
            go_wp2_with fail
            refine (HAW.out _ HBW.out).mono ?_
            rintro e w4 ⟨rfl, hb4⟩
            have HB4 := Lib.hid (HBW.out.trans (hb4.mono HBW.out.size))
            clear hb4
            go_wp2_with fail
            go_ret
            exact ⟨rfl, HB4.out⟩
end Go.Proofs.YtgdpjmckpjkmeaaGreatDoor
