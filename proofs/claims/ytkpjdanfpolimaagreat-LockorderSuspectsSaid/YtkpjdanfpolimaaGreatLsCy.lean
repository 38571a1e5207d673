/- digraph's Cycle, walked: where there is a ring its error is none. Conditions: the edges are in range and strictly ascending, there is a ring. · slices.Clone, IndexFunc and DeleteFunc of edges, walked, for a function whose answers are given. Conditions: the slice reads as a list; DeleteFunc's slice is on · A map from numbers to numbers in memory; the two functions of the law of suspects. No conditions. · The two functions of the law of suspects, walked. Conditions: the map's box and the map lie in memory. -/
import Derived.Test.YtkpjdanfpolimaaGreatLsAr
import Derived.Test.YtkpjdanfpolimaaGreatLsDg9
import Derived.Test.YtkpjdanfpolimaaGreatLsSusM
import Derived.Lib.SliceRun
import Derived.Laws.OwnMore
import Derived.Deep.CutRange
import Derived.Maps.OwnOps
import Derived.Maps.Views
import Derived.Carry
set_option maxRecDepth 100000
set_option maxHeartbeats 6400000
section
namespace Go.Proofs.YtkpjdanfpolimaaGreat
open Go.RowKit Go.Shelf Go.Sort
theorem cycle_any (n : Nat) (A : Option Addr) (c : Nat) (l : List (Nat × Nat)) (hn : n ≤ 200) (hl : l.length ≤ 2000) (hr : EdR n l) (hs : Strict l) (hR : Ring n l) (w : World) (h : Eds w w.heap.size A l) :
  Calls Tryz.prog 29 #[.int .i64 n, .slice A l.length c] w fun e W => ∃ v, e = .returned (.tuple #[v, .int .i64 0]) ∧ Below w.heap.size w W := by
 have HBU := Lib.hid (build_ok n A c l hn hl hr hs w h)
 have HAR := Lib.hid (fun (N u : Nat) (hu : u < n) (W : World) (hN : Net W W.heap.size N n l) => around_any n N u l hn hl hr hu W hN)
 have HRI := Lib.hid hR
 unfold netV at HBU HAR
 clear hR h
 go_enter Tryz.func29, Tryz.ntmps29
 go_wp2_with fail
 refine HBU.out.mono ?_
 rintro e w1 ⟨N, rfl, hN, -, hb1⟩
 clear HBU
 go_upto_region 5 with fail
 have hba := below_alloc w1 (.cells #[.int .i64 n, .slice (some ⟨N, 0, none⟩) n n] 98)
 have hga := bx_new w1 #[.int .i64 n, .slice (some ⟨N, 0, none⟩) n n] 98
 have hza : w1.heap.size + 1 ≤ (w1.alloc (.cells #[.int .i64 n, .slice (some ⟨N, 0, none⟩) n n] 98)).heap.size := by simp
 have hNa := (hN.below' hba (Nat.le_refl _)).more (Nat.le_trans (Nat.le_succ _) hza)
 have hbw := hb1.trans (hba.mono hb1.size)
 clear hN hb1 hba
 generalize w1.alloc _ = wa at hga hza hNa hbw ⊢
 generalize w1.heap.size = G at hga hza ⊢
 go_upto_region 6 with fail
 go_loopw [8, 20] (fun s8 s20 wr => ∃ (i : Nat) (A : Option Addr) (m c : Nat), s20 = .int .i64 (i : Nat) ∧ i ≤ n ∧ s8 = .slice A m c ∧ (∀ u, u < i → (∃ v, (u, v) ∈ l ∧ Way l v u) → 0 < m) ∧ Below wa.heap.size wa wr) (fun _ s20 _ => n - (intOf s20).toNat)
 case atStart => exact ⟨0, none, 0, 0, rfl, by omega, rfl, fun u hu => by omega, Below.refl _ _⟩
 case round =>
  obtain ⟨i, A, m, c, rfl, hin, rfl, hm, hb⟩ := hrel
  have HM := Lib.hid hm
  clear hm
  have hi0 : (0 : Int) ≤ (i : Int) := by omega
  have hwr : IntKind.i64.wrap ((i : Int) + 1) = (i : Int) + 1 := by rw [IntKind.wrap_i64]; omega
  by_cases hlt : i < n
  ·have hd1 : decide ((i : Int) < (n : Int)) = true := decide_eq_true (by omega)
   have hd2 : decide (i < n) = true := decide_eq_true hlt
   have hjl : (i : Int) < (n : Int) := by omega
   have g0 := hga.below hb (by omega) 0 _ rfl
   have g1 := hga.below hb (by omega) 1 _ rfl
   have HA1 := Lib.hid (HAR.out N i hlt wr ((hNa.below' hb (Nat.le_refl _)).more hb.size))
   go_wp2_with fail
   refine HA1.out.mono ?_
   rintro e w2 ⟨A2, m2, c2, rfl, hm2, hb2⟩
   have HM2 := Lib.hid hm2
   have hb3 := hb.trans (hb2.mono hb.size)
   clear hm2 HA1 hb hb2 g0 g1
   have HNX : Hid (∀ k, (0 < m → 0 < k) → (0 < m2 → 0 < k) → ∀ u, u < i + 1 → (∃ v, (u, v) ∈ l ∧ Way l v u) → 0 < k) := Lib.hid (fun k h1 h2 u hu hv => by
    by_cases e : u = i
    ·subst e; exact h2 (HM2.out hv)
    ·exact h1 (HM.out u (by omega) hv))
   clear HM HM2
   by_cases h2 : 0 < m2
   ·have e1 : decide ((0 : Int) < (m2 : Int)) = true := decide_eq_true (by omega)
    have e1n : decide (0 < m2) = true := decide_eq_true h2
    by_cases h1 : m = 0
    ·have e2 : ((m : Int) == 0) = true := by simpa using h1
     have e2n : (m == 0) = true := by simpa using h1
     go_wp2_with fail
     go_round
     case rel => exact ⟨i + 1, A2, m2, c2, rfl, by omega, rfl, HNX.out m2 (fun z => h2) (fun z => z), hb3⟩
     case measure => show n - (intOf (Value.int IntKind.i64 ((i : Int) + 1))).toNat < n - (intOf (Value.int IntKind.i64 (i : Int))).toNat; simp only [intOf]; omega
    ·have e2 : ((m : Int) == 0) = false := by simpa using h1
     have e2n : (m == 0) = false := by simpa using h1
     by_cases h3 : m2 < m
     ·have e3 : decide ((m2 : Int) < (m : Int)) = true := decide_eq_true (by omega)
      have e3n : decide (m2 < m) = true := decide_eq_true h3
      go_wp2_with fail
      go_round
      case rel => exact ⟨i + 1, A2, m2, c2, rfl, by omega, rfl, HNX.out m2 (fun z => h2) (fun z => z), hb3⟩
      case measure => show n - (intOf (Value.int IntKind.i64 ((i : Int) + 1))).toNat < n - (intOf (Value.int IntKind.i64 (i : Int))).toNat; simp only [intOf]; omega
     ·have e3 : decide ((m2 : Int) < (m : Int)) = false := decide_eq_false (by omega)
      have e3n : decide (m2 < m) = false := decide_eq_false h3
      go_wp2_with fail
      go_round
      case rel => exact ⟨i + 1, A, m, c, rfl, by omega, rfl, HNX.out m (fun z => z) (fun _ => by omega), hb3⟩
      case measure => show n - (intOf (Value.int IntKind.i64 ((i : Int) + 1))).toNat < n - (intOf (Value.int IntKind.i64 (i : Int))).toNat; simp only [intOf]; omega
   ·have e1 : decide ((0 : Int) < (m2 : Int)) = false := decide_eq_false (by omega)
    have e1n : decide (0 < m2) = false := decide_eq_false h2
    go_wp2_with fail
    go_round
    case rel => exact ⟨i + 1, A, m, c, rfl, by omega, rfl, HNX.out m (fun z => z) (fun z => absurd z h2), hb3⟩
    case measure => show n - (intOf (Value.int IntKind.i64 ((i : Int) + 1))).toNat < n - (intOf (Value.int IntKind.i64 (i : Int))).toNat; simp only [intOf]; omega
  ·have hd1 : decide ((i : Int) < (n : Int)) = false := decide_eq_false (by omega)
   have hd2 : decide (i < n) = false := decide_eq_false hlt
   have hm0 : 0 < m := by
    obtain ⟨u, v, hu, e, k⟩ := HRI.out
    exact HM.out u (by omega) ⟨v, e, k⟩
   have e1 : ((m : Int) == 0) = false := by simp; omega
   have e1n : (m == 0) = false := by simp; omega
   go_wp2_with fail
   go_ret2
   exact ⟨_, rfl, hbw.trans (hb.mono hbw.size)⟩
end Go.Proofs.YtkpjdanfpolimaaGreat
end
section
namespace Go.Proofs.YtkpjdanfpolimaaGreat
open Go.RowKit
attribute [local go_sem] Oper.semAt_some
theorem edClone_any (A : Option Addr) (c : Nat) (l : List (Nat × Nat)) (hl : l.length ≤ 2000) (w : World) (h : Eds w w.heap.size A l) :
  Calls Tryz.prog 26 #[.slice A l.length c] w fun e W => ∃ v, e = .returned v ∧ OwnE W w.heap.size v l ∧ Below w.heap.size w W := by
 obtain ⟨i0, hi, hz⟩ := Option.map_eq_some_iff.1 edgeInfo
 have hz0 : i0.zero = some (.agg #[.int .i64 0, .int .i64 0]) := congrArg (fun t => t.1) hz
 have hz1 : i0.size = 2 := congrArg (fun t => t.2.1) hz
 have hz2 : i0.bytes = 16 := congrArg (fun t => t.2.2) hz
 clear hz
 have q22 : ∀ (w : World) (a : Option Addr) (n c n' c' : Nat), (binOp .eql 42 (.slice a n c) (.slice none n' c')).run Tryz.prog w = .ok (.bool a.isNone) w := fun w a n c n' c' => Lib.run_eql_slice_nil w _ _ a n c n' c' Tryz.underlying42
 cases A with
 | none =>
  have hl0 : l = [] := by
   rcases h.2 with h0 | ⟨b, o, e, _⟩
   ·exact List.length_eq_zero_iff.1 h0
   ·cases e
  subst hl0
  go_enter Tryz.func26, Tryz.ntmps26
  go_wp2_with fail
  go_ret
  exact ⟨_, rfl, World.ownsRow_nil _ _ _ _, Below.refl _ _⟩
 | some a =>
  go_enter Tryz.func26, Tryz.ntmps26
  go_wp2_with (at_builtin; refine wpList_append_rd rfl (.tmp 5) (.tmp 6) _ rfl w.heap.size 47 i0 (.agg #[.int .i64 0, .int .i64 0]) 2 16 Tryz.underlying42 hi hz0 hz1 hz2 rfl (by omega) _ _ _ rfl (World.ownsRow_made w #[] 0 (Nat.le_refl _) (Nat.zero_le _) (by simp)) w.heap.size (some a) l.length c (edC l) rfl (Rd.alloc h (Nat.le_refl _) _) (edC_one l) (by unfold maxLen; omega) (by omega) (by simp) ?_; intro v2 w3 ho hg hv)
  go_ret
  have ho2 : w3.ownsRow w.heap.size 47 2 v2 l.length (edC l) := by rw [Nat.zero_add] at ho; exact ho
  exact ⟨v2, rfl, ho2, ((Below.refl _ w).alloc (Nat.le_refl _) _).grown hg (by simp) (by intro k hk; injection hk with hk; exact Nat.le_of_eq hk)⟩
/-- What is kept of the first j. -/
def kp (p : Nat × Nat → Bool) (l : List (Nat × Nat)) (j : Nat) : List (Nat × Nat) := (l.take j).filter (fun e => !p e)
theorem kp_all (p : Nat × Nat → Bool) (l : List (Nat × Nat)) : kp p l l.length = l.filter (fun e => !p e) := by unfold kp; rw [List.take_length]
theorem kp_no {p : Nat × Nat → Bool} {l : List (Nat × Nat)} {j : Nat} (hj : j < l.length) (h : p l[j] = true) : kp p l (j + 1) = kp p l j := by
 unfold kp
 rw [List.take_add_one, List.getElem?_eq_getElem hj, List.filter_append]
 simp [h]
theorem kp_yes {p : Nat × Nat → Bool} {l : List (Nat × Nat)} {j : Nat} (hj : j < l.length) (h : p l[j] = false) : kp p l (j + 1) = kp p l j ++ [l[j]] := by
 unfold kp
 rw [List.take_add_one, List.getElem?_eq_getElem hj, List.filter_append]
 simp [h]
/-- Where the first struck one stands. -/
def FirstP (p : Nat × Nat → Bool) (l : List (Nat × Nat)) (i : Int) : Prop := (i = -1 ∧ kp p l l.length = l) ∨ ∃ k : Nat, i = k ∧ k < l.length ∧ kp p l (k + 1) = l.take k
/-- A function value, and its answers in worlds that have grown from w. -/
def Says (g : Nat) (lb : Array Value) (p : Nat × Nat → Bool) (l : List (Nat × Nat)) (B : Nat) (w : World) : Prop :=
 ∀ e ∈ l, ∀ W, Below B w W → Calls Tryz.prog g (#[edV e] ++ lb) W (Ret (.bool (p e)) W)
theorem edFirst_any (g : Nat) (lb : Array Value) (eg : ∀ args w, (callFunc g args).run Tryz.prog w = .ok (.enter g args) w) (p : Nat × Nat → Bool) (A : Option Addr) (c : Nat) (l : List (Nat × Nat)) (hl : l.length ≤ 2000) (B : Nat) (w : World) (hB : B ≤ w.heap.size)
  (hS : Says g lb p l B w) (hE : Eds w w.heap.size A l) :
  Calls Tryz.prog 51 #[.slice A l.length c, .func (.func g) #[] lb] w fun e W => ∃ i : Int, e = .returned (.int .i64 i) ∧ FirstP p l i ∧ Below w.heap.size w W := by
 have HS := Lib.hid hS
 clear hS
 go_enter Tryz.func51, Tryz.ntmps51
 go_upto_region 2 with fail
 go_loopw [5, 8] (fun _ i wr => ∃ k : Nat, i = .int .i64 (k : Nat) ∧ k ≤ l.length ∧ kp p l k = l.take k ∧ Below w.heap.size w wr) (fun _ i _ => l.length - (intOf i).toNat)
 case atStart => exact ⟨0, rfl, by omega, rfl, Below.refl _ _⟩
 case round =>
  obtain ⟨j, rfl, hj, hno, hb⟩ := hrel
  have hj0 : (0 : Int) ≤ (j : Int) := by omega
  have hwr : IntKind.i64.wrap ((j : Int) + 1) = (j : Int) + 1 := by rw [IntKind.wrap_i64]; omega
  have HNO := Lib.hid hno
  clear hno
  by_cases hlt : j < l.length
  ·have hd1 : decide ((j : Int) < (l.length : Int)) = true := decide_eq_true (by omega)
   have hd2 : decide (j < l.length) = true := decide_eq_true hlt
   have hjl : (j : Int) < (l.length : Int) := by omega
   obtain ⟨b, off, rfl, had, h1, h2⟩ := (hE.below hb).at_ hlt
   have HV := Lib.hid (HS.out l[j] (List.getElem_mem hlt) wr (hb.mono hB))
   have HTK := Lib.hid (show l.take (j + 1) = l.take j ++ [l[j]] by rw [List.take_add_one, List.getElem?_eq_getElem hlt]; rfl)
   have HKY := Lib.hid (fun h => kp_yes (p := p) hlt h)
   have HKN := Lib.hid (fun h => kp_no (p := p) hlt h)
   unfold edV at HV
   generalize l[j] = x at h1 h2 HTK HV HKY HKN
   obtain ⟨a1, a2⟩ := x
   dsimp only at h1 h2
   go_wp2_with fail
   refine HV.out.mono ?_
   rintro e wk ⟨rfl, hbk⟩
   have hb2 := hb.trans (hbk.mono hb.size)
   clear hb hbk HV
   cases hq : p (a1, a2) with
   | true =>
    have HK2 : Hid (kp p l (j + 1) = l.take j) := Lib.hid ((HKN.out hq).trans HNO.out)
    clear hq
    go_wp2_with fail
    go_ret
    exact ⟨_, rfl, .inr ⟨j, rfl, hlt, HK2.out⟩, hb2⟩
   | false =>
    have HN2 : Hid (kp p l (j + 1) = l.take (j + 1)) := Lib.hid (by rw [HKY.out hq, HNO.out, HTK.out])
    clear hq
    go_wp2_with fail
    go_round
    case rel => exact ⟨j + 1, rfl, by omega, HN2.out, hb2⟩
    case measure => show l.length - (intOf (Value.int IntKind.i64 ((j : Int) + 1))).toNat < l.length - (intOf (Value.int IntKind.i64 (j : Int))).toNat; simp only [intOf]; omega
  ·have hd1 : decide ((j : Int) < (l.length : Int)) = false := decide_eq_false (by omega)
   have hd2 : decide (j < l.length) = false := decide_eq_false hlt
   have hje : j = l.length := by omega
   subst hje
   go_wp2_with fail
   go_ret
   exact ⟨-1, rfl, .inl ⟨rfl, by rw [HNO.out, List.take_length]⟩, hb⟩
/-- The row while DeleteFunc works. -/
structure Dl (p : Nat × Nat → Bool) (l : List (Nat × Nat)) (j : Nat) (R : List (Nat × Nat)) : Prop where
 len : R.length = l.length
 lt : (kp p l j).length < j
 le : j ≤ l.length
 lo : ∀ k, k < (kp p l j).length → R[k]? = (kp p l j)[k]?
 hi : ∀ k, j ≤ k → R[k]? = l[k]?
theorem Dl.start {p : Nat × Nat → Bool} {l : List (Nat × Nat)} {k : Nat} (hk : k < l.length) (h : kp p l (k + 1) = l.take k) : Dl p l (k + 1) l := by
 have hn : (kp p l (k + 1)).length = k := by rw [h, List.length_take]; omega
 refine ⟨rfl, by omega, by omega, fun j hj => ?_, fun _ _ => rfl⟩
 rw [h, List.getElem?_take, if_pos (by omega)]
theorem Dl.skip {p : Nat × Nat → Bool} {l R : List (Nat × Nat)} {j : Nat} (h : Dl p l j R) (hj : j < l.length) (hp : p l[j] = true) : Dl p l (j + 1) R := by
 have e := kp_no hj hp
 have := h.lt
 exact ⟨h.len, by rw [e]; omega, by omega, by rw [e]; exact h.lo, fun k hk => h.hi k (by omega)⟩
theorem Dl.keep {p : Nat × Nat → Bool} {l R : List (Nat × Nat)} {j : Nat} (h : Dl p l j R) (hj : j < l.length) (hp : p l[j] = false) : Dl p l (j + 1) (R.set (kp p l j).length l[j]) := by
 have e := kp_yes hj hp
 have h1 := h.lt
 have h2 := h.len
 refine ⟨by rw [List.length_set]; exact h2, by rw [e, List.length_append, List.length_singleton]; omega, by omega, fun k hk => ?_, fun k hk => ?_⟩
 ·rw [e, List.length_append, List.length_singleton] at hk
  rw [e, List.getElem?_set]
  by_cases q : (kp p l j).length = k
  ·subst q
   rw [if_pos rfl, if_pos (by omega), List.getElem?_append_right (Nat.le_refl _)]
   simp
  ·rw [if_neg q, List.getElem?_append_left (by omega)]
   exact h.lo k (by omega)
 ·rw [List.getElem?_set, if_neg (by omega)]
  exact h.hi k (by omega)
theorem edC_set (R : List (Nat × Nat)) (i : Nat) (x : Nat × Nat) : ((edC R).set (i * 2) (.int .i64 x.1)).set (i * 2 + 1) (.int .i64 x.2) = edC (R.set i x) := by
 induction R generalizing i with
 | nil => rfl
 | cons y R ih =>
  rw [edC_cons]
  cases i with
  | zero => rw [show (y :: R).set 0 x = x :: R from rfl, edC_cons]; rfl
  | succ i =>
   rw [show (y :: R).set (i + 1) x = y :: R.set i x from rfl, edC_cons, ← ih, show (i + 1) * 2 = i * 2 + 1 + 1 from by omega]
   rfl
theorem edC_get (l : List (Nat × Nat)) (t : Nat) : (edC l)[t]? = (l[t / 2]?).map (fun e => if t % 2 = 0 then .int .i64 e.1 else .int .i64 e.2) := by
 induction l generalizing t with
 | nil => simp [edC]
 | cons x l ih =>
  rw [edC_cons]
  match t with
  | 0 => rfl
  | 1 => rfl
  | t + 2 =>
   rw [show (t + 2) / 2 = t / 2 + 1 by omega, show (t + 2) % 2 = t % 2 by omega]
   exact ih t
theorem run_clear_edges (W : World) (g o m c : Nat) (hm : 0 < m) (hc : ∀ j, j < m * 2 → (W.cell? ⟨g, o + j, none⟩).isSome = true) (hf : ∀ j, W.frozen? ⟨g, j, none⟩ = false) :
  ∃ zs, ∀ ty, (Builtin.clear_ #[42] ty #[.slice (some ⟨g, o, none⟩) m c]).run Tryz.prog W = .ok (.tuple #[]) (W.setCells g o zs) := by
 obtain ⟨i0, hi, hz⟩ := Option.map_eq_some_iff.1 edgeInfo
 have hz0 : i0.zero = some (.agg #[.int .i64 0, .int .i64 0]) := congrArg (fun t => t.1) hz
 have hv : ∀ w, (zeroValue 47).run Tryz.prog w = .ok (.agg #[.int .i64 0, .int .i64 0]) w := fun w => by kernel_rfl
 have hlen : (Builtin.zeroCells (Value.agg #[.int .i64 0, .int .i64 0]).cells m).toList.length = m * 2 := by simp [Builtin.zeroCells, Value.cells]
 have hone : ∀ v ∈ (Builtin.zeroCells (Value.agg #[.int .i64 0, .int .i64 0]).cells m).toList, v.oneCell' = true := by
  intro v hv
  simp only [Builtin.zeroCells, Value.cells, Array.toList_map, Array.toList_range, List.mem_map] at hv
  obtain ⟨k, -, rfl⟩ := hv
  rcases Nat.mod_two_eq_zero_or_one k with e | e <;> simp [e] <;> rfl
 have hst := run_storeCells_cells (P := Tryz.prog) g o (Builtin.zeroCells (Value.agg #[.int .i64 0, .int .i64 0]).cells m).toList 0 W (by rw [hlen]; simpa using hc) (fun j _ => by simpa using hf (o + 0 + j)) hone
 simp only [Nat.add_zero] at hst
 obtain ⟨m, rfl⟩ : ∃ k, m = k + 1 := ⟨m - 1, by omega⟩
 refine ⟨(Builtin.zeroCells (Value.agg #[.int .i64 0, .int .i64 0]).cells (m + 1)).toList, fun ty => ?_⟩
 simp [Builtin.clear_, run_underlying Tryz.underlying42, hv, hst]
theorem setCells_below {B : Nat} (g : Nat) (hg : B ≤ g) : ∀ (vs : List Value) (o : Nat) (W : World), Below B W (W.setCells g o vs)
 | [], _, W => Below.refl _ _
 | v :: r, o, W => by
  show Below B W ((W.setCell ⟨g, o, none⟩ v).setCells g (o + 1) r)
  exact ((Below.refl B W).setCell (p := ⟨g, o, none⟩) hg v).trans ((setCells_below g hg r (o + 1) _).mono (by simp))
theorem own_at0 {W : World} {B e size n c : Nat} {A : Option Addr} {xs : List Value} (h : W.ownsRow B e size (.slice A n c) n xs) (hn : 0 < n) : ∃ g, A = some ⟨g, 0, none⟩ ∧ B ≤ g ∧ g < W.heap.size ∧ n ≤ c := by
 rcases h.2 with ⟨h1, h2⟩ | ⟨g, cap, cur, e, hb, hg, hc, -⟩
 ·omega
 ·injection e with e1 e2 e3
  exact ⟨g, e1, hb, (Array.getElem?_eq_some_iff.1 hg).1, by omega⟩
theorem edDelete_any (g : Nat) (lb : Array Value) (eg : ∀ args w, (callFunc g args).run Tryz.prog w = .ok (.enter g args) w) (p : Nat × Nat → Bool) (v : Value) (l : List (Nat × Nat)) (hl : l.length ≤ 2000) (B : Nat) (w : World) (hB : B ≤ w.heap.size)
  (hS : Says g lb p l B w) (hO : OwnE w B v l) :
  Calls Tryz.prog 25 #[v, .func (.func g) #[] lb] w fun e W => ∃ (A : Option Addr) (c : Nat), e = .returned (.slice A (l.filter (fun e => !p e)).length c) ∧ Eds W W.heap.size A (l.filter (fun e => !p e)) ∧ Below B w W := by
 obtain ⟨A, c, rfl⟩ := own_form hO
 have hE : Eds w w.heap.size A l := Rd.of_own hO
 have HI := Lib.hid (edFirst_any g lb eg p A c l hl B w hB hS hE)
 have HS := Lib.hid hS
 clear hS
 rw [← kp_all p l]
 have hown : w.ownsRow B 47 2 (.slice A l.length c) l.length (edC l) := hO
 clear hO
 go_enter Tryz.func25, Tryz.ntmps25
 go_wp2_with fail
 refine HI.out.mono ?_
 rintro e w2 ⟨i, rfl, hF, hb2⟩
 clear HI
 have hown2 := own_next hown hb2
 have hbB : Below B w w2 := hb2.mono hB
 rcases hF with ⟨rfl, hk⟩ | ⟨k, rfl, hkl, hk⟩
 ·have HK := Lib.hid hk
  clear hk
  go_wp2_with fail
  go_ret
  exact ⟨A, c, by rw [HK.out]; rfl, by rw [HK.out]; exact Rd.of_own hown2, hbB⟩
 ·have hne : ((k : Int) == -1) = false := beq_eq_false_iff_ne.2 (by omega)
  obtain ⟨gb, rfl, hgB, hgl, hcap⟩ := own_at0 hown2 (by omega)
  have HD := Lib.hid (Dl.start hkl hk)
  have hkk : IntKind.i64.wrap ((k : Int) + 1) = ((k + 1 : Nat) : Int) := by rw [IntKind.wrap_i64]; omega
  have hkp : (kp p l (k + 1)).length = k := by rw [hk, List.length_take]; omega
  have HKP := Lib.hid hkp
  clear hk hkp hown hE
  go_upto_region 5 with fail
  go_loopw [5, 6] (fun s5 s6 wr => ∃ (j : Nat) (R : List (Nat × Nat)), s6 = .int .i64 (j : Nat) ∧ s5 = .int .i64 ((kp p l j).length : Nat) ∧ Hid (Dl p l j R) ∧ wr.ownsRow B 47 2 (.slice (some ⟨gb, 0, none⟩) l.length c) l.length (edC R) ∧ Below B w wr) (fun _ s6 _ => l.length - (intOf s6).toNat)
  case atStart => exact ⟨k + 1, l, rfl, by rw [HKP.out], HD, hown2, hbB⟩
  case round =>
   clear hown2 HD HKP hkk hkl hne hb2 hbB
   obtain ⟨j, R, rfl, rfl, HD, hown, hb⟩ := hrel
   have hmj := HD.out.lt
   have hRl := HD.out.len
   have hjle := HD.out.le
   have HSK := Lib.hid (fun hj hp => HD.out.skip hj hp)
   have HKE := Lib.hid (fun hj hp => HD.out.keep hj hp)
   have HKY := Lib.hid (fun hj h => kp_yes (p := p) (l := l) (j := j) hj h)
   have HKN := Lib.hid (fun hj h => kp_no (p := p) (l := l) (j := j) hj h)
   generalize hm : (kp p l j).length = m at hmj HKE ⊢
   have HKL := Lib.hid hm
   clear hm
   have hj0 : (0 : Int) ≤ (j : Int) := by omega
   have hm0 : (0 : Int) ≤ (m : Int) := by omega
   have hwr : IntKind.i64.wrap ((j : Int) + 1) = (j : Int) + 1 := by rw [IntKind.wrap_i64]; omega
   have hwm : IntKind.i64.wrap ((m : Int) + 1) = (m : Int) + 1 := by rw [IntKind.wrap_i64]; omega
   by_cases hlt : j < l.length
   ·have hd1 : decide ((j : Int) < (l.length : Int)) = true := decide_eq_true (by omega)
    have hd2 : decide (j < l.length) = true := decide_eq_true hlt
    have hjl : (j : Int) < (l.length : Int) := by omega
    have hml : (m : Int) < (l.length : Int) := by omega
    have hRj : R[j]'(by omega) = l[j] := by
     have := HD.out.hi j (Nat.le_refl _)
     rw [List.getElem?_eq_getElem (by omega), List.getElem?_eq_getElem hlt] at this
     injection this
    have h1 := (hown.cellAt (j * 2) (by omega)).trans (edC_fst R j (by omega))
    have h2 := (hown.cellAt (j * 2 + 1) (by omega)).trans (edC_snd R j (by omega))
    rw [hRj] at h1 h2
    have HM := Lib.hid (List.getElem_mem hlt)
    have HSK1 := Lib.hid (fun h => HSK.out hlt h)
    have HKE1 := Lib.hid (fun h => HKE.out hlt h)
    have HKY1 := Lib.hid (fun h => HKY.out hlt h)
    have HKN1 := Lib.hid (fun h => HKN.out hlt h)
    clear hRj HSK HKE HKY HKN
    generalize l[j] = x at h1 h2 HM HSK1 HKE1 HKY1 HKN1
    obtain ⟨x1, x2⟩ := x
    dsimp only at h1 h2
    go_upto_region 8 with fail
    have hba := below_alloc wr (.cells #[.int .i64 x1, .int .i64 x2] 47)
    obtain ⟨e0, e1⟩ := bx_new2 wr (.int .i64 x1) (.int .i64 x2) 47
    have howna := own_next hown hba
    have hgE : gb < wr.heap.size := by
     obtain ⟨g9, e9, -, h9, -⟩ := own_at0 hown (by omega)
     injection e9 with e9; injection e9 with e9; omega
    have hza : (wr.alloc (.cells #[.int .i64 x1, .int .i64 x2] 47)).heap.size = wr.heap.size + 1 := by simp
    have hBw := Nat.le_trans hB hb.size
    have hbB2 := hb.trans (hba.mono hBw)
    clear h1 h2 hown hb hba
    generalize wr.alloc _ = wa at e0 e1 howna hza hbB2 ⊢
    generalize wr.heap.size = E at e0 e1 hgE hza hBw ⊢
    have HV := Lib.hid (HS.out (x1, x2) HM.out wa hbB2)
    unfold edV at HV
    go_wp2_with fail
    refine HV.out.mono ?_
    rintro e wk ⟨rfl, hbk⟩
    have ownk := own_next howna hbk
    have hbk2 := hbB2.trans (hbk.mono (by omega))
    have e0k := (hbk.cell (by show E < wa.heap.size; omega)).trans e0
    have e1k := (hbk.cell (by show E < wa.heap.size; omega)).trans e1
    have hzk := hbk.size
    clear howna hbB2 hbk HV e0 e1
    cases hq : p (x1, x2) with
    | true =>
     have HDN := Lib.hid (HSK1.out hq)
     have HKX := Lib.hid (HKN1.out hq)
     clear hq
     go_wp2_with fail
     go_round
     case rel => exact ⟨j + 1, R, rfl, by rw [HKX.out, HKL.out], HDN, ownk, hbk2⟩
     case measure => show l.length - (intOf (Value.int IntKind.i64 ((j : Int) + 1))).toNat < l.length - (intOf (Value.int IntKind.i64 (j : Int))).toNat; simp only [intOf]; omega
    | false =>
     have HDN := Lib.hid (HKE1.out hq)
     have HKX := Lib.hid (HKY1.out hq)
     clear hq
     have s1 := ownk.stored (m * 2) (.int .i64 x1)
     have s2 := s1.1.stored (m * 2 + 1) (.int .i64 x2)
     have c0 : (wk.cell? ⟨gb, m * 2, none⟩).isSome = true := by rw [ownk.cellAt (m * 2) (by omega), List.getElem?_eq_getElem (by rw [edC_len]; omega)]; rfl
     have c1 : (wk.cell? ⟨gb, m * 2 + 1, none⟩).isSome = true := by rw [ownk.cellAt (m * 2 + 1) (by omega), List.getElem?_eq_getElem (by rw [edC_len]; omega)]; rfl
     have f0 := ownk.frozenAt (m * 2)
     have f1 := ownk.frozenAt (m * 2 + 1)
     obtain ⟨v0, c0⟩ := Option.isSome_iff_exists.1 c0
     obtain ⟨v1, c1⟩ := Option.isSome_iff_exists.1 c1
     have s3 := s2.1
     rw [edC_set R m (x1, x2)] at s3
     have hb3 : Below B w ((wk.setCell ⟨gb, m * 2, none⟩ (.int .i64 x1)).setCell ⟨gb, m * 2 + 1, none⟩ (.int .i64 x2)) := (hbk2.setCell (p := ⟨gb, m * 2, none⟩) hgB _).setCell (p := ⟨gb, m * 2 + 1, none⟩) hgB _
     have S3 := Lib.hid s3
     clear s1 s2 s3
     go_wp2_with fail
     go_round
     case rel => exact ⟨j + 1, _, rfl, by rw [HKX.out, List.length_append, HKL.out]; rfl, HDN, S3.out, hb3⟩
     case measure => show l.length - (intOf (Value.int IntKind.i64 ((j : Int) + 1))).toNat < l.length - (intOf (Value.int IntKind.i64 (j : Int))).toNat; simp only [intOf]; omega
   ·have hd1 : decide ((j : Int) < (l.length : Int)) = false := decide_eq_false (by omega)
    have hd2 : decide (j < l.length) = false := decide_eq_false hlt
    have hje : j = l.length := by have := HD.out.le; omega
    subst hje
    have hzl : ∀ t, t < (l.length - m) * 2 → (wr.cell? ⟨gb, m * 2 + t, none⟩).isSome = true := fun t ht => by rw [hown.cellAt (m * 2 + t) (by omega), List.getElem?_eq_getElem (by rw [edC_len]; omega)]; rfl
    obtain ⟨zs, hcl⟩ := run_clear_edges wr gb (m * 2) (l.length - m) (c - m) (by omega) hzl (fun t => hown.frozenAt t)
    have hE2 : Rd (wr.setCells gb (m * 2) zs) (wr.setCells gb (m * 2) zs).heap.size 2 (some ⟨gb, 0, none⟩) m (edC (kp p l l.length)) := by
     have hbs := setCells_below (B := gb) gb (Nat.le_refl _) zs (m * 2) wr
     refine ⟨by rw [edC_len, HKL.out], .inr ⟨gb, 0, rfl, ?_, fun t u hu => ?_⟩⟩
     ·obtain ⟨g9, e9, -, h9, -⟩ := own_at0 hown (by omega)
      injection e9 with e9; injection e9 with e9
      have := hbs.size; omega
     ·have ht : t < m * 2 := by
       have := (List.getElem?_eq_some_iff.1 hu).1
       rw [edC_len, HKL.out] at this; exact this
      rw [World.cell?_setCells_out gb zs (m * 2) wr _ (fun _ _ => .inl (by show 0 + t < m * 2; omega)), Nat.zero_add, hown.cellAt t (by omega), ← hu]
      have hlo := HD.out.lo (t / 2) (by rw [HKL.out]; omega)
      rw [edC_get, edC_get, hlo]
    have hb3 := hb.trans (setCells_below (B := B) gb hgB zs (m * 2) wr)
    have HE2 := Lib.hid hE2
    clear hE2 hzl
    go_wp2_with fail
    go_ret
    exact ⟨_, _, by rw [HKL.out]; rfl, by unfold Eds; rw [HKL.out]; exact HE2.out, hb3⟩
end Go.Proofs.YtkpjdanfpolimaaGreat
end
section
namespace Go.Proofs.YtkpjdanfpolimaaGreat
open Go.RowKit Go.Maps
theorem mapK : Keyed Tryz.prog 3 := int_keyed Tryz.underlying3
theorem zero3 (w : World) : (zeroValue 3).run Tryz.prog w = .ok (.int .i64 0) w := by kernel_rfl
theorem wf64 {x : Int} (h0 : 0 ≤ x) (h : x < 9223372036854775808) : (Lit.int .i64 x).wf = true := by
 have h1 : IntKind.min .i64 = -9223372036854775808 := by decide
 have h2 : IntKind.max .i64 = 9223372036854775807 := by decide
 show (decide (IntKind.min .i64 ≤ x) && decide (x ≤ IntKind.max .i64)) = true
 rw [h1, h2, decide_eq_true (by omega), decide_eq_true (by omega)]
 rfl
/-- Block K is a map that gives f, made by at most n stores. -/
def MapN (W : World) (K n : Nat) (f : Nat → Nat) : Prop := ∃ D : DataW Nat, W.ownsMap Tryz.prog 3 (plainElem Tryz.prog 3) K n D ∧ ∀ x : Nat, D.atKey (.int .i64 (x : Int)) (.lit (.int .i64 0)) = .lit (.int .i64 (f x : Int))
theorem MapN.new (W : World) : MapN (W.alloc (.map #[] 0)) W.heap.size 0 (fun _ => 0) := ⟨.map [], World.ownsMap_made _ _ _ _, fun _ => rfl⟩
theorem MapN.lt {W : World} {K n : Nat} {f : Nat → Nat} (h : MapN W K n f) : K < W.heap.size := by
 obtain ⟨D, h, -⟩ := h
 exact h.lt
theorem MapN.kept {W W' : World} {K n : Nat} {f : Nat → Nat} (h : MapN W K n f) (hk : W'.heap[K]? = W.heap[K]?) : MapN W' K n f := by
 obtain ⟨D, ⟨es, clock, hb, h1⟩, h2⟩ := h
 exact ⟨D, ⟨es, clock, hk.trans hb, h1⟩, h2⟩
theorem MapN.below {W W' : World} {B K n : Nat} {f : Nat → Nat} (h : MapN W K n f) (hb : Below B W W') (hB : K < B) : MapN W' K n f := h.kept (hb.block K hB)
theorem MapN.look {W : World} {K n : Nat} {f : Nat → Nat} (h : MapN W K n f) (x : Nat) (hx : x < 1000) : (Instr.lookup 52 (.map (some K)) (.int .i64 (x : Int)) false).run Tryz.prog W = .ok (.int .i64 (f x : Int)) W := by
 obtain ⟨D, h1, h2⟩ := h
 obtain ⟨c, hrun, hat, -⟩ := h1.lookup_int mapK Tryz.underlying52 Tryz.underlying3 (zero3 W) (keyOf_int_mk Tryz.underlying3 (wf64 (x := x) (by omega) (by omega)))
 rw [h2 x] at hat
 simp only [DataW.lit.injEq, Lit.int.injEq, true_and] at hat
 rw [hat]; exact hrun
theorem MapN.upd {W : World} {K n : Nat} {f : Nat → Nat} (h : MapN W K n f) (hn : n < 1000) (x v : Nat) (hx : x < 1000) (hv : v < 1000) : ∃ W', (Instr.mapUpdate 52 (.map (some K)) (.int .i64 (x : Int)) (.int .i64 (v : Int))).run Tryz.prog W = .ok () W' ∧ MapN W' K (n + 1) (fun y => if y = x then v else f y) ∧ W.grownBy W' (some K) := by
 obtain ⟨D, h1, h2⟩ := h
 obtain ⟨W', hrun, h3, h4⟩ := h1.update mapK Tryz.underlying52 (by unfold maxLen; omega) (keyOf_int_mk Tryz.underlying3 (wf64 (x := x) (by omega) (by omega))) (plainElem_int Tryz.underlying3 (wf64 (x := v) (by omega) (by omega)))
 refine ⟨W', hrun, ⟨_, h3, fun y => ?_⟩, h4⟩
 have hD : Maps.IsMap D := by
  obtain ⟨es, clock, -, -, -, e⟩ := h1
  exact ⟨_, e⟩
 by_cases e : y = x
 ·subst e
  rw [atKey_put_same hD (by simp [WideAt.IsKeyLit])]
  simp
 ·rw [atKey_put_other (by intro z; injection z with _ z; omega), h2 y]
  simp [e]
end Go.Proofs.YtkpjdanfpolimaaGreat
end
section
namespace Go.Proofs.YtkpjdanfpolimaaGreat
open Go.RowKit Go.Maps
def inV (C : Nat) : Value := .func (.func 24) #[] #[.pointer (some ⟨C, 0, none⟩)]
theorem inner_any (C K nn : Nat) (f : Nat → Nat) (a b : Nat) (ha : a < 1000) (hb : b < 1000) (w : World) (hC : w.cell? ⟨C, 0, none⟩ = some (.map (some K))) (hM : MapN w K nn f) :
  Calls Tryz.prog 24 #[edV (a, b), .pointer (some ⟨C, 0, none⟩)] w (Ret (.bool (inn f (a, b))) w) := by
 have hba := below_alloc w (.cells #[.int .i64 a, .int .i64 b] 47)
 obtain ⟨e0, e1⟩ := bx_new2 w (.int .i64 a) (.int .i64 b) 47
 have hM1 := hM.below hba hM.lt
 have hC1 := (hba.cell (block_lt_of_cell hC)).trans hC
 have la := hM1.look a ha
 have lb := hM1.look b hb
 have HV : Hid ((f a ≠ 0 → f a = f b → inn f (a, b) = true) ∧ (f a = 0 ∨ f a ≠ f b → inn f (a, b) = false)) := Lib.hid ⟨fun h1 h2 => by simp [inn, h2]; rw [← h2]; exact h1, fun h => by rcases h with h | h <;> simp [inn, h]⟩
 unfold edV
 clear hM hC hM1
 go_enter Tryz.func24, Tryz.ntmps24
 go_upto_region 1 with fail
 generalize w.alloc _ = wa at hba e0 e1 hC1 la lb ⊢
 by_cases h0 : f a = 0
 ·have g0 : ((f a : Int) != 0) = false := by simp [h0]
  have g0n : (f a != 0) = false := by simp [h0]
  have hv := Lib.hid (HV.out.2 (.inl h0))
  clear h0 HV
  go_wp2_with fail
  go_ret
  exact ⟨by rw [hv.out]; rfl, hba⟩
 ·have g0 : ((f a : Int) != 0) = true := by simp [h0]
  have g0n : (f a != 0) = true := by simp [h0]
  by_cases h1 : f a = f b
  ·have g1 : ((f a : Int) == (f b : Int)) = true := by simp [h1]
   have g1n : (f a == f b) = true := by simp [h1]
   have hv := Lib.hid (HV.out.1 h0 h1)
   clear h0 h1 HV
   go_wp2_with fail
   go_ret
   exact ⟨by rw [hv.out]; rfl, hba⟩
  ·have g1 : ((f a : Int) == (f b : Int)) = false := by simp; omega
   have g1n : (f a == f b) = false := by simp [h1]
   have hv := Lib.hid (HV.out.2 (.inr h1))
   clear h0 h1 HV
   go_wp2_with fail
   go_ret
   exact ⟨by rw [hv.out]; rfl, hba⟩
theorem outer_any (I C J K nn i : Nat) (f : Nat → Nat) (a b : Nat) (ha : a < 1000) (hb : b < 1000) (hi : i < 1000) (w : World) (hI : w.cell? ⟨I, 0, none⟩ = some (inV C)) (hC : w.cell? ⟨C, 0, none⟩ = some (.map (some K))) (hJ : w.cell? ⟨J, 0, none⟩ = some (.int .i64 (i : Int))) (hM : MapN w K nn f) :
  Calls Tryz.prog 28 #[edV (a, b), .pointer (some ⟨I, 0, none⟩), .pointer (some ⟨C, 0, none⟩), .pointer (some ⟨J, 0, none⟩)] w (Ret (.bool (!inn f (a, b) || decide (f a ≠ i + 1))) w) := by
 have hba := below_alloc w (.cells #[.int .i64 a, .int .i64 b] 47)
 obtain ⟨e0, e1⟩ := bx_new2 w (.int .i64 a) (.int .i64 b) 47
 have hM1 := hM.below hba hM.lt
 have hC1 := (hba.cell (block_lt_of_cell hC)).trans hC
 have hI1 := (hba.cell (block_lt_of_cell hI)).trans hI
 have hJ1 := (hba.cell (block_lt_of_cell hJ)).trans hJ
 have hwb : w.heap.size < (w.alloc (.cells #[.int .i64 a, .int .i64 b] 47)).heap.size := by simp
 have hw1 : IntKind.i64.wrap ((i : Int) + 1) = (i : Int) + 1 := by rw [IntKind.wrap_i64]; omega
 unfold inV at hI1
 unfold edV
 clear hM hC hI hJ
 go_enter Tryz.func28, Tryz.ntmps28
 go_upto_region 1 with fail
 generalize w.alloc _ = wa at hba e0 e1 hC1 hI1 hJ1 hM1 hwb ⊢
 have HIN := Lib.hid (inner_any C K nn f a b ha hb wa hC1 hM1)
 unfold edV at HIN
 go_wp2_with fail
 refine HIN.out.mono ?_
 rintro e w2 ⟨rfl, hb2⟩
 have e02 := (hb2.cell (block_lt_of_cell e0)).trans e0
 have hC2 := (hb2.cell (block_lt_of_cell hC1)).trans hC1
 have hJ2 := (hb2.cell (block_lt_of_cell hJ1)).trans hJ1
 have hM2 := hM1.below hb2 hM1.lt
 have hb3 := hba.trans (hb2.mono (Nat.le_of_lt hwb))
 have la := hM2.look a ha
 clear HIN hb2 hba e0 e1 hC1 hI1 hJ1 hM1 hM2
 cases hq : inn f (a, b) with
 | false =>
  go_wp2_with fail
  go_ret
  exact ⟨by rw [hq]; rfl, hb3⟩
 | true =>
  by_cases h0 : f a = i + 1
  ·have g0 : ((f a : Int) != (i : Int) + 1) = false := by simp; omega
   have hv := Lib.hid (show decide (f a ≠ i + 1) = false from decide_eq_false (fun z => z h0))
   clear h0
   go_wp2_with fail
   go_ret
   exact ⟨by rw [hv.out, hq]; rfl, hb3⟩
  ·have g0 : ((f a : Int) != (i : Int) + 1) = true := by simp; omega
   have hv := Lib.hid (show decide (f a ≠ i + 1) = true from decide_eq_true h0)
   clear h0
   go_wp2_with fail
   go_ret
   exact ⟨by rw [hv.out, hq]; rfl, hb3⟩
end Go.Proofs.YtkpjdanfpolimaaGreat
end
