/- codec.digits and codec.integer, walked. Conditions: the number is at most 2^62. -/
import Derived.Test.YtaficbkaofhjeaaDoorCheck
import Derived.Test.YtaficbkaofhjeaaDoorDigM
import Derived.RangeFuncNested
import Derived.RangeFuncBound
import Derived.RangeFuncCalls
import Derived.RangeFuncLeaves
import Derived.RangeFuncBox
import Derived.Shelf.Abstract
import Derived.Shelf.RegionOpen
import Derived.OwnWalkIn
import Derived.TacticsInMore
import Derived.LoopNIn
import Derived.LoopIn
namespace Go.Proofs.YtaficbkaofhjeaaDoor
open Go.RowKit Go.Shelf
attribute [local go_sem] Oper.semAt_some

/-- Block B is as it was. -/
def KeepsAt (B : Nat) (W W' : World) : Prop := W'.heap[B]? = W.heap[B]?
theorem KeepsAt.trans {B : Nat} {X Y Z : World} (h : KeepsAt B X Y) (k : KeepsAt B Y Z) : KeepsAt B X Z := Eq.trans k h
theorem KeepsAt.cell {B : Nat} {W W' : World} (h : KeepsAt B W W') (o : Nat) : W'.cell? ⟨B, o, none⟩ = W.cell? ⟨B, o, none⟩ := World.cell?_of_block (a := ⟨B, o, none⟩) h
theorem KeepsAt.of_boxed {B : Nat} {W W' : World} {t : TypeId} {v : Value} (h : Boxed W B t v) (h' : Boxed W' B t v) : KeepsAt B W W' := Eq.trans h' (Eq.symm h)
theorem keepsAt_b {B : Nat} {w : World} (hB : B < w.heap.size) (W : World) (l : Nat) (o o' : Obj) (hl : w.heap.size ≤ l) (_ : W.heap[l]? = some o) (_ : o.isCells = false) (_ : o.isWalk = false) : KeepsAt B W (W.putObj l o') :=
  World.putObj_heap_other (by omega)

set_option maxRecDepth 100000 in
set_option maxHeartbeats 1000000 in
theorem digits1_in (F : Fence) (n : Nat) (hf : F.fn 57) (hro : F.round = none) (hn : 1 ≤ n) (l Bn m : Nat) (hm : m ≤ 4611686018427387904) (J Jx : List UInt8 → World → Prop)
    (hY : ∀ pre x W, J pre W → pre.length < 8 → YieldAt F (n - 1) Tryd.prog l #[.int .u8 (x.toNat : Nat)] W fun e W' =>
      (e = .returned (.bool true) ∧ J (pre ++ [x]) W' ∧ KeepsAt Bn W W') ∨ (e = .returned (.bool false) ∧ Jx (pre ++ [x]) W'))
    (W : World) (hBn : W.cell? ⟨Bn, 0, none⟩ = some (.int .i64 m)) (h0 : J [] W) :
    CallsIn F n Tryd.prog 57 #[.func (.yield l) #[] #[], .pointer (some ⟨Bn, 0, none⟩)] W fun e W' => (∃ v, e = .returned v) ∧
      ((∃ ys, ys = dgB m ∧ J ys W') ∨ (∃ pre, True ∧ Jx pre W')) := by
  refine callsIn_of_wp Tryd.func57 rfl hf ?_ hro
  simp only [Tryd.ntmps57, List.size_toArray, List.length_cons, List.length_nil, Nat.reduceAdd, Nat.reduceSub, Array.replicate_succ, Array.replicate_zero, List.push_toArray, List.append_toArray, List.nil_append, List.cons_append]
  gi_wp2
  gi_loopw [3] (fun s wr => ∃ (k : Nat) (pre : List UInt8), s = .int .i64 (8 * (k : Int) - 8) ∧ k ≤ 8 ∧ pre ++ bts (dgU m k) = bts (dgU m 8) ∧ J pre wr ∧ KeepsAt Bn W wr)
    (fun s wr => (intOf s + 8).toNat)
  case atStart => exact ⟨8, [], by go_num, by omega, rfl, h0, rfl⟩
  case round =>
    obtain ⟨k, pre, rfl, hk, hpre, hJ, hb⟩ := hrel
    have hpre' := Lib.hid hpre
    clear hpre
    have hc : wr.cell? ⟨Bn, 0, none⟩ = some (.int .i64 m) := (hb.cell 0).trans hBn
    by_cases hk0 : 1 ≤ k
    · obtain ⟨q, rfl⟩ : ∃ q, k = q + 1 := ⟨k - 1, by omega⟩
      have h1 : (0 : Int) ≤ 8 * ((q + 1 : Nat) : Int) - 8 := by omega
      have hq : 2 ^ (8 * (q + 1) - 8) = 256 ^ q := by
        rw [show 8 * (q + 1) - 8 = 8 * q from by omega, Nat.pow_mul]
      have hcast : ((m / 256 ^ q : Nat) : Int) = (m : Int) / 2 ^ (8 * (q + 1) - 8) := by
        rw [← hq]; push_cast; rfl
      by_cases hz : m / 256 ^ q = 0
      · have hz' : ((m : Int) / 2 ^ (8 * (q + 1) - 8) == 0) = true := by rw [← hcast, hz]; rfl
        have hpre2 := Lib.hid (dgU_no hz hpre'.out)
        clear hcast hz hq hpre'
        gi_wp2
        exact ⟨⟨q, pre, by congr 1; omega, by omega, hpre2.out, hJ, hb⟩, by simp [intOf]; omega⟩
      · have hz' : ((m : Int) / 2 ^ (8 * (q + 1) - 8) == 0) = false := by rw [← hcast, beq_eq_false_iff_ne]; exact fun e => hz (by exact_mod_cast e)
        have hpre2 := Lib.hid (dgU_yes hz hpre'.out)
        have hlen : pre.length < 8 := dgU_room hz hpre'.out
        obtain ⟨fn, tmps, assign, body, hy, hR⟩ := hY pre (UInt8.ofNat (m / 256 ^ q % 256)) wr hJ hlen
        rw [show (((UInt8.ofNat (m / 256 ^ q % 256)).toNat : Nat) : Int) = (m : Int) / 2 ^ (8 * (q + 1) - 8) % 256 from by rw [← hcast]; simp] at hy
        clear hcast hz hq hpre'
        gi_wp2
        refine hR.mono ?_
        rintro e W3 (⟨rfl, hJ3, hk3⟩ | ⟨rfl, hJx3⟩)
        · gi_wp2
          exact ⟨⟨q, pre ++ [UInt8.ofNat (m / 256 ^ q % 256)], by congr 1; omega, by omega, hpre2.out, hJ3, hb.trans hk3⟩, by simp [intOf]; omega⟩
        · gi_wp2
          refine bodyPost_ret (results_none rfl _ _ _) rfl ?_
          exact ⟨⟨_, rfl⟩, .inr ⟨_, trivial, hJx3⟩⟩
    · obtain rfl : k = 0 := by omega
      gi_wp2
      go_end0
      exact ⟨⟨_, rfl⟩, .inl ⟨pre, by have := hpre'.out; rw [dgU, bts_nil, List.append_nil] at this; rw [this, dgU_eq 8 m (by omega)]; rfl, hJ⟩⟩

set_option maxHeartbeats 400000 in
theorem digits_in (F : Fence) (n : Nat) (hf : F.fn 50) (hro : F.round = none) (m : Int) (w : World) :
    CallsIn F n Tryd.prog 50 #[.int .i64 m] w fun e w' => e = .returned (.func (.func 57) #[] #[.pointer (some ⟨w.heap.size, 0, none⟩)]) ∧ w' = w.alloc (.cells #[.int .i64 m] 3) := by
  refine callsIn_of_wp Tryd.func50 rfl hf ?_ hro
  simp only [Tryd.ntmps50, List.size_toArray, List.length_cons, List.length_nil, Nat.reduceAdd, Nat.reduceSub, Array.replicate_succ, Array.replicate_zero, List.push_toArray, List.append_toArray, List.nil_append, List.cons_append]
  gi_wp2
  go_ret
  exact ⟨rfl, rfl⟩

theorem digits_stops (F : Fence) (n : Nat) (hf : F.fn 57) (hro : F.round = none) (hn : 1 ≤ n) (Bn m : Nat) (hm : m ≤ 4611686018427387904) (w : World) (hBn : Bn < w.heap.size)
    (hc : w.cell? ⟨Bn, 0, none⟩ = some (.int .i64 m)) :
    SeqStopsK F n Tryd.prog 57 #[.pointer (some ⟨Bn, 0, none⟩)] (fun x : UInt8 => #[Value.int .u8 (x.toNat : Nat)]) (KeepsAt Bn) (fun ys => ys = dgB m) (fun _ => True) 8 w := fun l J Jx W hW _ _ hY h0 =>
  digits1_in F n hf hro hn l Bn m hm J Jx hY W ((hW.cell (p := ⟨Bn, 0, none⟩) hBn).trans hc) h0

theorem encB_nn (m : Nat) (_h : m ≤ 4611686018427387904) : (⟨(encB m).toArray⟩ : ByteArray) = strOfNums ((128 + ((dgB m).length : Int)) :: (dgB m).map fun b : UInt8 => (b.toNat : Int)) := by
  unfold encB strOfNums
  rw [if_pos (by omega)]
  simp only [List.map_cons, List.map_map]
  congr 3
  · rw [dgB, bts_len]; rfl
  · symm
    rw [List.map_congr_left (g := id) (fun b _ => by simp)]
    simp
theorem encB_neg (m : Nat) (h : m ≤ 4611686018427387904) : (⟨(encB (-(m : Int) - 1)).toArray⟩ : ByteArray) = strOfNums ((127 - ((dgB m).length : Int)) :: (dgB m).map fun b : UInt8 => 255 - (b.toNat : Int)) := by
  have hL : (dg m).length ≤ 8 := dg_len 8 m (by omega)
  unfold encB strOfNums
  rw [if_neg (by omega), show (-(-(m : Int) - 1) - 1).toNat = m from by omega]
  simp only [List.map_cons, List.map_map]
  congr 3
  · rw [dgB, bts_len]; congr 1; omega
  · apply List.map_congr_left
    intro b _
    have hb := b.toNat_lt
    simp only [Function.comp]
    apply UInt8.toNat_inj.1
    rw [UInt8.toNat_sub_of_le _ _ (by rw [UInt8.le_iff_toNat_le]; simp; omega)]
    simp
    omega

theorem setCell_setCell (W : World) (a : Addr) (u u' : Value) : (W.setCell a u).setCell a u' = W.setCell a u' := by
  simp only [World.setCell]
  congr 1
  apply Array.ext_getElem?
  intro i
  simp only [Array.getElem?_modify]
  by_cases h : a.block = i
  · simp only [h, if_true, Option.map_map]
    cases W.heap[i]? with
    | none => rfl
    | some o => cases o <;> simp <;> split <;> simp_all [Array.setIfInBounds_setIfInBounds]
  · simp [h]

theorem box_app {W w1 : World} {B B' : Nat} {t e : TypeId} {u v : Value} {base size k : Nat} {xs : List Value} {tmp : Obj} (h : Boxed W B t u) (hte : t ≠ e) (hrow : W.ownsRow base e size v k xs) (hne : B ≠ B')
    (hg : (W.alloc tmp).grownBy w1 v.ownBlock) (x : Value) : Boxed (w1.setCell ⟨B', 0, none⟩ x) B t u :=
  ((h.alloc tmp).kept hg (h.not_row hte hrow)).other hne x

theorem u8info : (Tryd.prog.info? 5).map (fun i => (i.zero, i.size, i.bytes)) = some (some (.int .u8 0), 1, 1) := by kernel_rfl

set_option maxRecDepth 100000 in
set_option maxHeartbeats 2000000 in
theorem integer_nn (F : Fence) (n : Nat) (hF : ∀ f, F.fn f) (hro : F.round = none) (hn : 3 ≤ n) (m : Nat) (hm : m ≤ 4611686018427387904) (w : World) :
    CallsIn F n Tryd.prog 35 #[.int .i64 m] w (Ret (.string ⟨(encB m).toArray⟩) w) := by
  have h1 : 1 ≤ n := by omega
  have hg0 : ¬ (m : Int) < 0 := by omega
  have hf1 := hF 35
  have hf2 := hF 50
  have hf3 := hF 57
  obtain ⟨i0, hi, hz0, hz1, hz2⟩ := info_parts u8info
  refine callsIn_of_wp_marks Tryd.func35 rfl hf1 ?_ hro
  simp only [Tryd.ntmps35, List.size_toArray, List.length_cons, List.length_nil, Nat.reduceAdd, Nat.reduceSub, Array.replicate_succ, Array.replicate_zero, List.push_toArray, List.append_toArray, List.nil_append, List.cons_append]
  gi_wp2_with (gi_at_call 50; refine (digits_in F (n - 1) hf2 hro _ _).mono ?_; rintro e w' ⟨rfl, rfl⟩)
  have b0 := Boxed.new w 4 (.bool false)
  have o1 := World.ownsRow_lit (base := w.heap.size) (e := 5) (size := 1) (w.alloc (.cells #[.bool false] 4)) #[.int .u8 0] 1 (by simp) (by unfold maxLen; omega) rfl
  rw [World.size_alloc] at o1
  have b2 := Boxed.new ((w.alloc (.cells #[.bool false] 4)).alloc (.cells #[.int .u8 0] 5)) 59 (.slice (some ⟨w.heap.size + 1, 0, none⟩) 1 1)
  rw [World.size_alloc, World.size_alloc] at b2
  have b3 := Boxed.new (((w.alloc (.cells #[.bool false] 4)).alloc (.cells #[.int .u8 0] 5)).alloc (.cells #[.slice (some ⟨w.heap.size + 1, 0, none⟩) 1 1] 59)) 3 (.int .i64 m)
  rw [World.size_alloc, World.size_alloc, World.size_alloc] at b3
  have hB0 : Below w.heap.size w ((((w.alloc (.cells #[.bool false] 4)).alloc (.cells #[.int .u8 0] 5)).alloc (.cells #[.slice (some ⟨w.heap.size + 1, 0, none⟩) 1 1] 59)).alloc (.cells #[.int .i64 m] 3)) :=
    ((((Below.refl _ w).alloc (Nat.le_refl _) _).alloc (by simp) _).alloc (by simp; omega) _).alloc (by simp; omega) _
  refine wpIn_rangeFunc_ownG hro h1 (gf := 57) (lb := #[.pointer (some ⟨w.heap.size + 1 + 1 + 1, 0, none⟩)]) rfl hf3 (enters_of Tryd.func57 (by kernel_rfl) rfl)
    (digits_stops F (n - 1) hf3 hro (by omega) (w.heap.size + 1 + 1 + 1) m (by omega) _ (by simp) b3.cell) (fun h k => KeepsAt.trans h k) (keepsAt_b (by simp)) (Below.refl _ _) (fun _ => rfl)
    (fun pre W => Boxed W w.heap.size 4 (.bool false) ∧ Boxed W (w.heap.size + 1 + 1 + 1) 3 (.int .i64 m) ∧ (∃ v, Boxed W (w.heap.size + 1 + 1) 59 v ∧ W.ownsRow w.heap.size 5 1 v (pre.length + 1) (.int .u8 0 :: pre.map (fun b : UInt8 => Value.int .u8 (b.toNat : Int))) ∧ True) ∧ Below w.heap.size w W)
    (fun _ _ _ => False)
    (OwnFrom.and (Own.from (boxed_own _ _ _) _) (OwnFrom.and (Own.from (boxed_own _ _ _) _) (OwnFrom.and (Own.from (holdsRow_own _ _ _ _ _ _ _ (fun _ _ => True)) _) (ownFrom_below (Nat.le_refl _) (by simp; omega)))))
    (fun _ _ _ _ _ hs _ _ => hs)
    ⟨((b0.alloc _).alloc _).alloc _, b3, ⟨_, b2.alloc _, (o1.alloc _).alloc _, trivial⟩, hB0⟩
    (fun x => { tmps := #[.int .i64 m, undef, .string ⟨#[]⟩, .pointer (some ⟨w.heap.size, 0, none⟩), .pointer (some ⟨w.heap.size + 1 + 1, 0, none⟩), .int .u8 (x.toNat : Nat), undef, .int .i64 m, .bool false, .bool false, undef, undef, undef, .slice (some ⟨w.heap.size + 1, 0, none⟩) 1 1, .int .i64 m, .func (.func 57) #[] #[.pointer (some ⟨w.heap.size + 1 + 1 + 1, 0, none⟩)], .int .u8 (x.toNat : Nat), undef, undef, undef, undef, undef, undef, undef, undef, undef, undef, undef, undef, undef, undef, undef, undef, undef, undef, undef, undef, undef, undef], defers := [] }) ?assign ?body ?done ?stop
  case assign =>
    intro l x W K hK
    gi_wp2
    exact hK
  case body =>
    rintro l pre x W ⟨bA, bM, ⟨v, hv, hrow, _⟩, hB⟩ hlt
    have hc0 := bA.cell
    have hc := hv.cell
    have hx : (x.toNat : Int) < 256 := by have := x.toNat_lt; omega
    have hmx : pre.length + 1 + 1 ≤ maxLen := by unfold maxLen; omega
    have hby : (pre.length + 1 + 1) * 1 ≤ 140737488355328 := by omega
    have hsz : w.heap.size ≤ (W.alloc (.cells #[.int .u8 ((x.toNat : Int))] 5)).heap.size := by have := hB.size; simp; omega
    gi_wp2_with (gi_at_builtin; refine wpListIn_append_own _ rfl _ _ 59 rfl w.heap.size 5 i0 (.int .u8 0) 1 1 Tryd.underlying59 hi hz0 hz1 hz2 rfl (by decide) _ _ _ rfl (hrow.alloc _) ⟨W.heap.size, 0, none⟩ 1 1 [.int .u8 ((x.toNat : Int))] rfl rfl (cell_one_new _ _ _) (by simp [Value.oneCell']) hmx hby hsz ?_; intro v' w1 hown' hgrow _; obtain ⟨g', cap', rfl⟩ := ownsRow_succ hown'; obtain ⟨hv1, hv2, hr2, hk2, hb2⟩ := hv.appended (by decide) hrow hB.size (by omega) hown' hgrow; have hc1 := hv1.cell; have hf1 := hv1.frozen)
    have bA' := box_app bA (by decide) hrow (by omega) hgrow (.slice (some ⟨g', 0, none⟩) (pre.length + 1 + 1) cap') (B' := w.heap.size + 1 + 1)
    have bM' := box_app bM (by decide) hrow (by omega) hgrow (.slice (some ⟨g', 0, none⟩) (pre.length + 1 + 1) cap') (B' := w.heap.size + 1 + 1)
    exact ⟨hk2.from _, KeepsAt.of_boxed bM bM', bA', bM', ⟨_, hv2, by simpa using hr2⟩, hB.trans hb2⟩
  case done =>
    rintro D ys W hD rfl ⟨bA, bM, ⟨v, hv, hrow, _⟩, hB⟩ hK
    obtain ⟨g, cap, rfl⟩ := ownsRow_succ hrow
    have hL : (dgB m).length ≤ 8 := by rw [dgB, bts_len]; exact dg_len 8 m (by omega)
    have hg1 := hv.not_row (by decide) hrow
    have hg2 := bA.not_row (by decide) hrow
    have hne1 : w.heap.size + 1 + 1 ≠ g := fun e => hg1 (by rw [e]; rfl)
    have hne2 : w.heap.size ≠ g := fun e => hg2 (by rw [e]; rfl)
    have hNg := (hrow.lt g rfl).1
    have hc := hv.cell
    have hcA := bA.cell
    have hc2 : ∀ u, (W.setCell ⟨g, 0, none⟩ u).cell? ⟨w.heap.size + 1 + 1, 0, none⟩ = some (.slice (some ⟨g, 0, none⟩) ((dgB m).length + 1) cap) := fun u => (hv.other hne1 u).cell
    have hcA2 : ∀ u, (W.setCell ⟨g, 0, none⟩ u).cell? ⟨w.heap.size, 0, none⟩ = some (.bool false) := fun u => (bA.other hne2 u).cell
    have hg0 : W.cell? ⟨g, 0, none⟩ = some (.int .u8 0) := by rw [hrow.cellAt 0 (by omega)]; rfl
    have hgf := hrow.frozenAt 0
    have hg3 : ∀ u : Value, (W.setCell ⟨g, 0, none⟩ u).cell? ⟨g, 0, none⟩ = some u := fun u => World.cell?_setCell_same' _ _ _ (by rw [hg0]; rfl)
    have hgf3 : ∀ u : Value, (W.setCell ⟨g, 0, none⟩ u).frozen? ⟨g, 0, none⟩ = false := fun u => by rw [World.frozen?_setCell]; exact hgf
    have hss : ∀ u u' : Value, (W.setCell ⟨g, 0, none⟩ u).setCell ⟨g, 0, none⟩ u' = W.setCell ⟨g, 0, none⟩ u' := fun u u' => setCell_setCell _ _ _ _
    have hcv : ∀ u : Int, (convert 59 9 (.slice (some ⟨g, 0, none⟩) ((dgB m).length + 1) cap)).run Tryd.prog (W.setCell ⟨g, 0, none⟩ (.int .u8 u)) = .ok (.string (strOfNums (u :: (dgB m).map (fun b : UInt8 => (b.toNat : Int))))) (W.setCell ⟨g, 0, none⟩ (.int .u8 u)) := fun u =>
      run_convert_bytes_arg _ _ _ Tryd.underlying59 Tryd.underlying5 g 0 _ cap (u :: (dgB m).map (fun b : UInt8 => (b.toNat : Int))) (by simp) (fun i hi => by
        have := (hrow.stored 0 (.int .u8 u)).1.cellAt i (by omega)
        rw [Nat.zero_add, this]
        cases i with
        | zero => rfl
        | succ i => simp at hi; simp [hi]) _ Tryd.underlying9
    gi_wp2
    have hK' := (KeepsOthers.setCell W ⟨g, 0, none⟩ (.int .u8 (128 + ((dgB m).length : Int)))).same D _ hK rfl
    refine ⟨by simp, .inl ⟨_, _, rfl, run_takeDeferred hK', ?_⟩⟩
    refine ⟨_, results_tmp rfl _ _ _, ?_, ?_⟩
    · rw [encB_nn m (by omega)]; rfl
    · exact (hB.setCell (p := ⟨g, 0, none⟩) hNg _).trans (belowK_b (w := w) (Nat.le_refl _) _ D _ _ (by simp at hD; omega) hK' rfl rfl)
  case stop =>
    rintro D c pre W _ _ h _
    exact h.elim

set_option maxRecDepth 100000 in
set_option maxHeartbeats 2000000 in
theorem integer_neg (F : Fence) (n : Nat) (hF : ∀ f, F.fn f) (hro : F.round = none) (hn : 3 ≤ n) (m : Nat) (hm : m < 4611686018427387904) (w : World) :
    CallsIn F n Tryd.prog 35 #[.int .i64 (-(m : Int) - 1)] w (Ret (.string ⟨(encB (-(m : Int) - 1)).toArray⟩) w) := by
  have h1 : 1 ≤ n := by omega
  have hg0 : -(m : Int) - 1 < 0 := by omega
  have hg1 : -(-(m : Int) - 1) - 1 = (m : Int) := by omega
  have hf1 := hF 35
  have hf2 := hF 50
  have hf3 := hF 57
  obtain ⟨i0, hi, hz0, hz1, hz2⟩ := info_parts u8info
  refine callsIn_of_wp_marks Tryd.func35 rfl hf1 ?_ hro
  simp only [Tryd.ntmps35, List.size_toArray, List.length_cons, List.length_nil, Nat.reduceAdd, Nat.reduceSub, Array.replicate_succ, Array.replicate_zero, List.push_toArray, List.append_toArray, List.nil_append, List.cons_append]
  gi_wp2_with (gi_at_call 50; refine (digits_in F (n - 1) hf2 hro _ _).mono ?_; rintro e w' ⟨rfl, rfl⟩)
  have b0 := Boxed.new w 4 (.bool true)
  have o1 := World.ownsRow_lit (base := w.heap.size) (e := 5) (size := 1) (w.alloc (.cells #[.bool true] 4)) #[.int .u8 0] 1 (by simp) (by unfold maxLen; omega) rfl
  rw [World.size_alloc] at o1
  have b2 := Boxed.new ((w.alloc (.cells #[.bool true] 4)).alloc (.cells #[.int .u8 0] 5)) 59 (.slice (some ⟨w.heap.size + 1, 0, none⟩) 1 1)
  rw [World.size_alloc, World.size_alloc] at b2
  have b3 := Boxed.new (((w.alloc (.cells #[.bool true] 4)).alloc (.cells #[.int .u8 0] 5)).alloc (.cells #[.slice (some ⟨w.heap.size + 1, 0, none⟩) 1 1] 59)) 3 (.int .i64 m)
  rw [World.size_alloc, World.size_alloc, World.size_alloc] at b3
  have hB0 : Below w.heap.size w ((((w.alloc (.cells #[.bool true] 4)).alloc (.cells #[.int .u8 0] 5)).alloc (.cells #[.slice (some ⟨w.heap.size + 1, 0, none⟩) 1 1] 59)).alloc (.cells #[.int .i64 m] 3)) :=
    ((((Below.refl _ w).alloc (Nat.le_refl _) _).alloc (by simp) _).alloc (by simp; omega) _).alloc (by simp; omega) _
  refine wpIn_rangeFunc_ownG hro h1 (gf := 57) (lb := #[.pointer (some ⟨w.heap.size + 1 + 1 + 1, 0, none⟩)]) rfl hf3 (enters_of Tryd.func57 (by kernel_rfl) rfl)
    (digits_stops F (n - 1) hf3 hro (by omega) (w.heap.size + 1 + 1 + 1) m (by omega) _ (by simp) b3.cell) (fun h k => KeepsAt.trans h k) (keepsAt_b (by simp)) (Below.refl _ _) (fun _ => rfl)
    (fun pre W => Boxed W w.heap.size 4 (.bool true) ∧ Boxed W (w.heap.size + 1 + 1 + 1) 3 (.int .i64 m) ∧ (∃ v, Boxed W (w.heap.size + 1 + 1) 59 v ∧ W.ownsRow w.heap.size 5 1 v (pre.length + 1) (.int .u8 0 :: pre.map (fun b : UInt8 => Value.int .u8 (255 - (b.toNat : Int)))) ∧ True) ∧ Below w.heap.size w W)
    (fun _ _ _ => False)
    (OwnFrom.and (Own.from (boxed_own _ _ _) _) (OwnFrom.and (Own.from (boxed_own _ _ _) _) (OwnFrom.and (Own.from (holdsRow_own _ _ _ _ _ _ _ (fun _ _ => True)) _) (ownFrom_below (Nat.le_refl _) (by simp; omega)))))
    (fun _ _ _ _ _ hs _ _ => hs)
    ⟨((b0.alloc _).alloc _).alloc _, b3, ⟨_, b2.alloc _, (o1.alloc _).alloc _, trivial⟩, hB0⟩
    (fun x => { tmps := #[.int .i64 m, undef, .string ⟨#[]⟩, .pointer (some ⟨w.heap.size, 0, none⟩), .pointer (some ⟨w.heap.size + 1 + 1, 0, none⟩), .int .u8 (x.toNat : Nat), undef, .int .i64 (-(m : Int) - 1), .bool true, .bool true, .int .i64 (-(m : Int) - 1), .int .i64 (-(-(m : Int) - 1)), .int .i64 m, .slice (some ⟨w.heap.size + 1, 0, none⟩) 1 1, .int .i64 m, .func (.func 57) #[] #[.pointer (some ⟨w.heap.size + 1 + 1 + 1, 0, none⟩)], .int .u8 (x.toNat : Nat), undef, undef, undef, undef, undef, undef, undef, undef, undef, undef, undef, undef, undef, undef, undef, undef, undef, undef, undef, undef, undef, undef], defers := [] }) ?assign ?body ?done ?stop
  case assign =>
    intro l x W K hK
    gi_wp2
    exact hK
  case body =>
    rintro l pre x W ⟨bA, bM, ⟨v, hv, hrow, _⟩, hB⟩ hlt
    have hc0 := bA.cell
    have hc := hv.cell
    have hx : (x.toNat : Int) < 256 := by have := x.toNat_lt; omega
    have hmx : pre.length + 1 + 1 ≤ maxLen := by unfold maxLen; omega
    have hby : (pre.length + 1 + 1) * 1 ≤ 140737488355328 := by omega
    have hsz : w.heap.size ≤ (W.alloc (.cells #[.int .u8 (255 - (x.toNat : Int))] 5)).heap.size := by have := hB.size; simp; omega
    gi_wp2_with (gi_at_builtin; refine wpListIn_append_own _ rfl _ _ 59 rfl w.heap.size 5 i0 (.int .u8 0) 1 1 Tryd.underlying59 hi hz0 hz1 hz2 rfl (by decide) _ _ _ rfl (hrow.alloc _) ⟨W.heap.size, 0, none⟩ 1 1 [.int .u8 (255 - (x.toNat : Int))] rfl rfl (cell_one_new _ _ _) (by simp [Value.oneCell']) hmx hby hsz ?_; intro v' w1 hown' hgrow _; obtain ⟨g', cap', rfl⟩ := ownsRow_succ hown'; obtain ⟨hv1, hv2, hr2, hk2, hb2⟩ := hv.appended (by decide) hrow hB.size (by omega) hown' hgrow; have hc1 := hv1.cell; have hf1 := hv1.frozen)
    have bA' := box_app bA (by decide) hrow (by omega) hgrow (.slice (some ⟨g', 0, none⟩) (pre.length + 1 + 1) cap') (B' := w.heap.size + 1 + 1)
    have bM' := box_app bM (by decide) hrow (by omega) hgrow (.slice (some ⟨g', 0, none⟩) (pre.length + 1 + 1) cap') (B' := w.heap.size + 1 + 1)
    exact ⟨hk2.from _, KeepsAt.of_boxed bM bM', bA', bM', ⟨_, hv2, by simpa using hr2⟩, hB.trans hb2⟩
  case done =>
    rintro D ys W hD rfl ⟨bA, bM, ⟨v, hv, hrow, _⟩, hB⟩ hK
    obtain ⟨g, cap, rfl⟩ := ownsRow_succ hrow
    have hL : (dgB m).length ≤ 8 := by rw [dgB, bts_len]; exact dg_len 8 m (by omega)
    have hg1 := hv.not_row (by decide) hrow
    have hg2 := bA.not_row (by decide) hrow
    have hne1 : w.heap.size + 1 + 1 ≠ g := fun e => hg1 (by rw [e]; rfl)
    have hne2 : w.heap.size ≠ g := fun e => hg2 (by rw [e]; rfl)
    have hNg := (hrow.lt g rfl).1
    have hc := hv.cell
    have hcA := bA.cell
    have hc2 : ∀ u, (W.setCell ⟨g, 0, none⟩ u).cell? ⟨w.heap.size + 1 + 1, 0, none⟩ = some (.slice (some ⟨g, 0, none⟩) ((dgB m).length + 1) cap) := fun u => (hv.other hne1 u).cell
    have hcA2 : ∀ u, (W.setCell ⟨g, 0, none⟩ u).cell? ⟨w.heap.size, 0, none⟩ = some (.bool true) := fun u => (bA.other hne2 u).cell
    have hg0 : W.cell? ⟨g, 0, none⟩ = some (.int .u8 0) := by rw [hrow.cellAt 0 (by omega)]; rfl
    have hgf := hrow.frozenAt 0
    have hg3 : ∀ u : Value, (W.setCell ⟨g, 0, none⟩ u).cell? ⟨g, 0, none⟩ = some u := fun u => World.cell?_setCell_same' _ _ _ (by rw [hg0]; rfl)
    have hgf3 : ∀ u : Value, (W.setCell ⟨g, 0, none⟩ u).frozen? ⟨g, 0, none⟩ = false := fun u => by rw [World.frozen?_setCell]; exact hgf
    have hss : ∀ u u' : Value, (W.setCell ⟨g, 0, none⟩ u).setCell ⟨g, 0, none⟩ u' = W.setCell ⟨g, 0, none⟩ u' := fun u u' => setCell_setCell _ _ _ _
    have hcv : ∀ u : Int, (convert 59 9 (.slice (some ⟨g, 0, none⟩) ((dgB m).length + 1) cap)).run Tryd.prog (W.setCell ⟨g, 0, none⟩ (.int .u8 u)) = .ok (.string (strOfNums (u :: (dgB m).map (fun b : UInt8 => 255 - (b.toNat : Int))))) (W.setCell ⟨g, 0, none⟩ (.int .u8 u)) := fun u =>
      run_convert_bytes_arg _ _ _ Tryd.underlying59 Tryd.underlying5 g 0 _ cap (u :: (dgB m).map (fun b : UInt8 => 255 - (b.toNat : Int))) (by simp) (fun i hi => by
        have := (hrow.stored 0 (.int .u8 u)).1.cellAt i (by omega)
        rw [Nat.zero_add, this]
        cases i with
        | zero => rfl
        | succ i => simp at hi; simp [hi]) _ Tryd.underlying9
    gi_wp2
    have hK' := (KeepsOthers.setCell W ⟨g, 0, none⟩ (.int .u8 (127 - ((dgB m).length : Int)))).same D _ hK rfl
    refine ⟨by simp, .inl ⟨_, _, rfl, run_takeDeferred hK', ?_⟩⟩
    refine ⟨_, results_tmp rfl _ _ _, ?_, ?_⟩
    · rw [encB_neg m (by omega)]; rfl
    · exact (hB.setCell (p := ⟨g, 0, none⟩) hNg _).trans (belowK_b (w := w) (Nat.le_refl _) _ D _ _ (by simp at hD; omega) hK' rfl rfl)
  case stop =>
    rintro D c pre W _ _ h _
    exact h.elim

end Go.Proofs.YtaficbkaofhjeaaDoor
