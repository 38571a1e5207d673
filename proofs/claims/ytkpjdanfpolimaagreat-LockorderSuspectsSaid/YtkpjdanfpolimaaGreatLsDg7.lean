/- digraph's reach, walked: what can be reached. Conditions: the graph lies in memory. -/
import Derived.Test.YtkpjdanfpolimaaGreatLsDg3
import Derived.Test.YtkpjdanfpolimaaGreatLsIns
set_option maxRecDepth 100000
set_option maxHeartbeats 6400000
namespace Go.Proofs.YtkpjdanfpolimaaGreat
open Go.RowKit Go.Shelf
attribute [local go_sem] Oper.semAt_some
/-- The value of reach's closure. -/
def visV (M : Nat) : Value := .func (.func 77) #[] #[.pointer (some ⟨M + 2, 0, none⟩), .pointer (some ⟨M, 0, none⟩), .pointer (some ⟨M + 3, 0, none⟩)]
/-- What lies in memory while reach visits: behind block M. -/
structure Vis (M n N : Nat) (l : List (Nat × Nat)) (s : Nat → Bool) (W : World) : Prop where
 net : Net W M N n l
 gb : Bx W M [.int .i64 n, .slice (some ⟨N, 0, none⟩) n n]
 row : W.rowIs (M + 1) 4 n (fun v => .bool (s v))
 sb : Bx W (M + 2) [.slice (some ⟨M + 1, 0, none⟩) n n]
 vb : Bx W (M + 3) [visV M]
 size : M + 4 ≤ W.heap.size
theorem Vis.next {M n N B : Nat} {l : List (Nat × Nat)} {s : Nat → Bool} {W W' : World} (h : Vis M n N l s W) (hb : Below B W W') (hB : M + 4 ≤ B) : Vis M n N l s W' :=
 ⟨h.net.below' hb (by omega), h.gb.below hb (by omega), h.row.of_block (hb.block _ (by omega)), h.sb.below hb (by omega), h.vb.below hb (by omega), Nat.le_trans h.size hb.size⟩
theorem Vis.set {M n N : Nat} {l : List (Nat × Nat)} {s t : Nat → Bool} {W : World} (h : Vis M n N l s W) (x : Nat) (b : Bool) (hg : ∀ i, i < n → (if i = x then b else s i) = t i) : Vis M n N l t (W.setCell ⟨M + 1, x, none⟩ (.bool b)) :=
 have hb : Below (M + 1) W (W.setCell ⟨M + 1, x, none⟩ (.bool b)) := (Below.refl _ _).setCell (p := ⟨M + 1, x, none⟩) (Nat.le_refl _) _
 ⟨h.net.below' hb (by omega), h.gb.below hb (by omega), (h.row.set x _).congr (fun i hi => by rw [← hg i hi]; split <;> rfl), fun j u hu => (World.cell?_setCell_far _ _ _ _ (by show M + 1 ≠ M + 2; omega)).trans (h.sb j u hu), fun j u hu => (World.cell?_setCell_far _ _ _ _ (by show M + 1 ≠ M + 3; omega)).trans (h.vb j u hu), by simpa using h.size⟩
def VisR (M n N : Nat) (l : List (Nat × Nat)) (s : Nat → Bool) (us : List Nat) (w : World) : Ending → World → Prop := fun e W => e = .returned (.tuple #[]) ∧ ∃ t, Seen l us s t ∧ Vis M n N l t W ∧ Turn (M + 1) (M + 2) w W
theorem reach1_any (M n N : Nat) (l : List (Nat × Nat)) (hl : l.length ≤ 2000) (hr : EdR n l) : ∀ (k : Nat) (s : Nat → Bool) (u : Nat) (W : World), blind n s < k → u < n → Vis M n N l s W →
  Calls Tryz.prog 77 #[.int .i64 u, .pointer (some ⟨M + 2, 0, none⟩), .pointer (some ⟨M, 0, none⟩), .pointer (some ⟨M + 3, 0, none⟩)] W (VisR M n N l s [u] W) := by
 intro k
 induction k with
 | zero => exact fun s u w hk => absurd hk (by omega)
 | succ k ih =>
  intro s u w hk hu hV
  have c0 := hV.row.cell hu
  have f0 := hV.row.frozen u
  have s0 := hV.sb 0 _ rfl
  have hu0 : (0 : Int) ≤ (u : Int) := by omega
  have hu1 : (u : Int) < (n : Int) := by omega
  have hz := hV.size
  refine (callsIn_wide (n := 4)).1 (callsIn_of_wp_marks Tryz.func77 rfl trivial ?_ rfl)
  simp only [Tryz.ntmps77, List.size_toArray, List.length_cons, List.length_nil, Nat.reduceAdd, Nat.reduceSub, Array.replicate_succ, Array.replicate_zero, List.push_toArray, List.append_toArray, List.nil_append, List.cons_append]
  cases hs : s u with
  | true =>
   rw [hs] at c0
   gi_wp2
   exact leaves_marks [] w (Marks.nil 0 w) (fun W' hT => by
    have hb := hT.below (Marks.nil w.heap.size w)
    exact ⟨_, results_none rfl _ _ _, rfl, s, Seen.seen hs, hV.next hb hz, Turn.of_below hb⟩)
  | false =>
   rw [hs] at c0
   gi_upto_region 2 with fail
   have hV1 := hV.set u true (t := fun v => if v = u then true else s v) (fun i _ => rfl)
   have hT1 : Turn (M + 1) (M + 2) w (w.setCell ⟨M + 1, u, none⟩ (.bool true)) := (Turn.refl (M + 1) (M + 2) w).setCell (a := ⟨M + 1, u, none⟩) ⟨Nat.le_refl _, by show M + 1 < M + 2; omega⟩ _
   clear c0 f0 s0 hV
   generalize w.setCell ⟨M + 1, u, none⟩ _ = W1 at hV1 hT1 ⊢
   have g0 := hV1.gb 0 _ rfl
   have g1 := hV1.gb 1 _ rfl
   have hz1 := hV1.size
   gi_wp2
   refine ⟨trivial, (callsIn_wide.2 (succ_any n N u W1)).mono ?_⟩
   rintro e W3 ⟨rfl, rfl⟩
   have hbS := succObjs_below n N u W1
   have hzS := succObjs_size n N u W1
   have hmS := succObjs_mem (M + 1) n N u l W1 (hV1.net.more (by omega)) (by omega)
   have hV3 := hV1.next hbS (by omega)
   have hT3 := hT1.below2 hbS hT1.size
   have hwb := hT1.size
   clear hV1 hT1 g0 g1 hbS
   generalize succObjs n N u W1 = W3 at hzS hmS hV3 hT3 ⊢
   generalize W1.heap.size = b0 at hzS hmS hz1 hwb ⊢
   unfold succVal
   gi_wp2
   refine wpIn_rangeFunc_ac rfl (by omega) (gf := 75) (lb := #[.pointer (some ⟨b0, 0, none⟩), .pointer (some ⟨b0 + 1, 0, none⟩)]) rfl trivial (enters_of Tryz.func75 (by kernel_rfl) rfl)
    (succ_stops 3 (by omega) (M + 1) (M + 2) n N l b0 u (by omega) hu hl W3 hmS (by omega))
    (fun h k => h.trans k) (fun W l o o' _ hl hc _ => CellsKept.putObj o' hl hc) (Below.refl _ _) (fun _ => rfl)
    (fun A' B' k o hab _ ho hc => hab.rec_ k o ho hc)
    (fun pre W => ∃ t : Nat → Bool, Seen l pre (fun v => if v = u then true else s v) t ∧ Vis M n N l t W ∧ Turn (M + 1) (M + 2) w W ∧ b0 + 2 ≤ W.heap.size) (fun _ _ _ => False)
    (fun pre W W' row hs hg hr => by
     obtain ⟨t, h0, h1, h2, h3⟩ := hs
     have hbw := below_grownFrom (B := b0 + 2) hg (fun r e => by have := (hr r e).1; omega) h3
     exact ⟨t, h0, h1.next hbw (by omega), h2.below2 hbw (by omega), Nat.le_trans h3 hg.size⟩)
    (fun _ => fun _ _ _ _ h _ _ => h)
    (fun pre A' B' hs hab => by
     obtain ⟨t, h0, h1, h2, h3⟩ := hs
     exact ⟨t, h0, h1.next hab.below (by omega), h2.below2 hab.below (by omega), Nat.le_trans h3 hab.below.size⟩)
    ⟨_, Seen.nil l _, hV3, hT3, by omega⟩
    (fun x a' _ => a' = ⟨((.int .i64 u : Value) :: .pointer (some ⟨M + 2, 0, none⟩) :: .pointer (some ⟨M, 0, none⟩) :: .pointer (some ⟨M + 3, 0, none⟩) :: undef :: .int .i64 (x : Nat) :: .slice (some ⟨M + 1, 0, none⟩) n n :: .int .i64 u :: .pointer (some ⟨M + 1, u, none⟩) :: .bool false :: .slice (some ⟨M + 1, 0, none⟩) n n :: .int .i64 u :: .pointer (some ⟨M + 1, u, none⟩) :: .agg #[.int .i64 n, .slice (some ⟨N, 0, none⟩) n n] :: .int .i64 u :: .func (.func 75) #[] #[.pointer (some ⟨b0, 0, none⟩), .pointer (some ⟨b0 + 1, 0, none⟩)] :: .int .i64 (x : Nat) :: undef :: undef :: undef :: []).toArray, []⟩) (fun _ _ _ _ _ hs _ _ => hs) ?assign ?body ?done ?stop
   case assign =>
    rintro lp pre x W K hJ hK'
    gi_wp2
    exact hK' _ _ (KeepsFrom.refl _ _) (CellsKept.refl _ _ _) hJ rfl
   case stop => rintro D c' pre W hD _ hno hK'; exact hno.elim
   case body =>
    rintro lp pre x a' W ⟨t, h0, h1, h2, h3⟩ rfl hpre
    have hxe : (u, x) ∈ l := mem_succs.1 (hpre.subset (by simp))
    have hxn : x < n := (hr _ hxe).2
    have hbt : blind n t < k := by
     have e1 := blind_more (n := n) h0.more
     have e2 := blind_lt hu hs
     omega
    have v0 := h1.vb 0 _ rfl
    unfold visV at v0
    gi_wp2
    refine ⟨trivial, CallsIn.inRound lp (callsIn_wide.2 ((ih t x W hbt hxn h1).mono ?_))⟩
    rintro e W5 ⟨rfl, t5, k1, k2, k3⟩
    gi_wp2
    exact ⟨KeepsFrom.turn k3 (by omega), CellsKept.turn k3, t5, h0.push k1, k2, h2.trans k3, Nat.le_trans h3 k3.size⟩
   case done =>
    rintro D ys W hD rfl ⟨t, h0, h1, h2, h3⟩ hKD
    gi_wp2
    have hMD : Marks (b0 + 2) [D] W := (Marks.nil _ W).push (by omega) (by simp) hKD
    exact leaves_marks [D] W hMD (fun W' hT => by
     have hb := hT.below hMD
     exact ⟨_, results_none rfl _ _ _, rfl, t, h0.node, h1.next hb (by omega), h2.below2 hb (by omega)⟩)
theorem vis_new {n N : Nat} {l : List (Nat × Nat)} {w : World} (ty : TypeId) (hN : Net w w.heap.size N n l) :
  Vis w.heap.size n N l (fun _ => false) ((((w.alloc (.cells #[.int .i64 n, .slice (some ⟨N, 0, none⟩) n n] 98)).alloc (.cells (madeCells #[.bool false] n) 4)).alloc (.cells #[.slice (some ⟨w.heap.size + 1, 0, none⟩) n n] 82)).alloc (.cells #[visV w.heap.size] ty)) ∧
  Below w.heap.size w ((((w.alloc (.cells #[.int .i64 n, .slice (some ⟨N, 0, none⟩) n n] 98)).alloc (.cells (madeCells #[.bool false] n) 4)).alloc (.cells #[.slice (some ⟨w.heap.size + 1, 0, none⟩) n n] 82)).alloc (.cells #[visV w.heap.size] ty)) := by
 have hba := below_alloc w (.cells #[.int .i64 n, .slice (some ⟨N, 0, none⟩) n n] 98)
 have hga := bx_new w #[.int .i64 n, .slice (some ⟨N, 0, none⟩) n n] 98
 have hza : (w.alloc (.cells #[.int .i64 n, .slice (some ⟨N, 0, none⟩) n n] 98)).heap.size = w.heap.size + 1 := by simp
 have hrb := World.rowIs_made (w.alloc (.cells #[.int .i64 n, .slice (some ⟨N, 0, none⟩) n n] 98)) (.bool false) n 4
 have hbb := below_alloc (w.alloc (.cells #[.int .i64 n, .slice (some ⟨N, 0, none⟩) n n] 98)) (.cells (madeCells #[.bool false] n) 4)
 have hzb : ((w.alloc (.cells #[.int .i64 n, .slice (some ⟨N, 0, none⟩) n n] 98)).alloc (.cells (madeCells #[.bool false] n) 4)).heap.size = w.heap.size + 2 := by simp
 rw [hza] at hrb
 generalize w.alloc _ = wa at *
 generalize wa.alloc _ = wb at *
 have hbc := below_alloc wb (.cells #[.slice (some ⟨w.heap.size + 1, 0, none⟩) n n] 82)
 have hgc := bx_new wb #[.slice (some ⟨w.heap.size + 1, 0, none⟩) n n] 82
 have hzc : (wb.alloc (.cells #[.slice (some ⟨w.heap.size + 1, 0, none⟩) n n] 82)).heap.size = w.heap.size + 3 := by simp; omega
 rw [hzb] at hgc
 have hrc := hrb.alloc (.cells #[.slice (some ⟨w.heap.size + 1, 0, none⟩) n n] 82)
 generalize wb.alloc _ = wc at *
 have hbd := below_alloc wc (.cells #[visV w.heap.size] ty)
 have hgd := bx_new wc #[visV w.heap.size] ty
 rw [hzc] at hgd
 have hbx := ((hba.trans (hbb.mono (by omega))).trans (hbc.mono (by omega))).trans (hbd.mono (by omega))
 exact ⟨⟨hN.below' hbx (Nat.le_refl _), ((hga.below hbb (by omega)).below hbc (by omega)).below hbd (by omega), (hrc.alloc _).congr (fun i _ => rfl), hgc.below hbd (by omega), hgd, by simp; omega⟩, hbx⟩
/-- The slice of one number. -/
theorem dgReach_any (n N u : Nat) (l : List (Nat × Nat)) (hn : n ≤ 200) (hl : l.length ≤ 2000) (hr : EdR n l) (hu : u < n) (g : Nat) (c : Nat) (w : World) (hN : Net w w.heap.size N n l) (hg : g < w.heap.size) (hc : w.cell? ⟨g, 0, none⟩ = some (.int .i64 u)) :
  Calls Tryz.prog 58 #[netV n N, .slice (some ⟨g, 0, none⟩) 1 c] w fun e W => ∃ (b : Nat) (t : Nat → Bool), e = .returned (.slice (some ⟨b, 0, none⟩) n n) ∧ w.heap.size ≤ b ∧ W.rowIs b 4 n (fun v => .bool (t v)) ∧ (∀ v, t v = true ↔ Way l u v) ∧ Below w.heap.size w W := by
 have hmk := fun W => run_make_row' (P := Tryz.prog) 82 4 (.bool false) 1 Tryz.underlying82 (by kernel_rfl) rfl .i64 .i64 n (by omega) (by omega) W
 unfold netV
 go_enter Tryz.func58, Tryz.ntmps58
 go_upto_region 4 with fail
 have hVN := vis_new 114 hN
 have hV := hVN.1
 have hb := hVN.2
 unfold visV at hV hb
 rw [show w.heap.size + 1 + 1 + 1 = w.heap.size + 3 from rfl, show w.heap.size + 1 + 1 = w.heap.size + 2 from rfl]
 clear hVN hmk hN
 generalize World.alloc _ _ = wa at hV hb ⊢
 obtain ⟨M, hM⟩ : ∃ M, M = w.heap.size := ⟨_, rfl⟩
 rw [← hM] at hV ⊢
 have HM := Lib.hid hM
 clear hM
 go_upto_region 5 with fail
 go_loopw [8, 15] (fun _ i wr => ((i = .int .i64 0 ∧ Vis M n N l (fun _ => false) wr) ∨ (i = .int .i64 1 ∧ ∃ t, Seen l [u] (fun _ => false) t ∧ Vis M n N l t wr)) ∧ Below w.heap.size w wr) (fun _ i _ => 1 - (intOf i).toNat)
 case atStart => exact ⟨.inl ⟨rfl, hV⟩, hb⟩
 case round =>
  clear hV hb
  obtain ⟨⟨rfl, hV⟩ | ⟨rfl, t, ht, hV⟩, hb⟩ := hrel
  ·have hg0 := (hb.cell (p := ⟨g, 0, none⟩) hg).trans hc
   have v0 := hV.vb 0 _ rfl
   unfold visV at v0
   have HV := Lib.hid (reach1_any M n N l hl hr (blind n (fun _ => false) + 1) (fun _ => false) u wr (by omega) hu hV)
   have hzV := hV.size
   clear hV
   go_wp2_with fail
   refine HV.out.mono ?_
   rintro e W5 ⟨rfl, t5, k1, k2, k3⟩
   have hb5 : Below w.heap.size w W5 := hb.trans ((k3.below (by omega)).mono (by have := HM.out; omega))
   go_wp2_with fail
   go_round
   case rel => exact ⟨.inr ⟨rfl, t5, k1, k2⟩, hb5⟩
   case measure => simp [intOf]
  ·have s0 := hV.sb 0 _ rfl
   go_wp2_with fail
   go_ret
   exact ⟨M + 1, t, rfl, by have := HM.out; omega, hV.row, ht.reach, hb⟩
end Go.Proofs.YtkpjdanfpolimaaGreat
