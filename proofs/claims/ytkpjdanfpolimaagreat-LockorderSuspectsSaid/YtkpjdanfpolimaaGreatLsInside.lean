/- lockorder's inside, walked. Conditions: the program lies in memory, it is valid. -/
import Derived.Test.YtkpjdanfpolimaaGreatLsFrom
import Derived.Test.YtkpjdanfpolimaaGreatLsRnd
import Derived.Laws.EntriesVeiled
set_option maxRecDepth 100000
set_option maxHeartbeats 6400000
namespace Go.Proofs.YtkpjdanfpolimaaGreat
open Go.RowKit Go.Shelf
attribute [local go_sem] Oper.semAt_some
/-- Whether another scope is closed by the same instruction. -/
def twin (p : Prg) (f : Nat) (stop : Int) (j : Nat) : Bool := decide ((p.ins f j).op = 35 ∧ (p.ins f j).c = stop)
/-- Where inside stops. -/
def insideStop (p : Prg) (f k : Nat) : Int := if (fromL p f (k + 1) (p.ins f k).c).any (twin p f (p.ins f k).c) then -1 else (p.ins f k).c
theorem insideM_eq (p : Prg) (f k : Nat) : insideM p f k = fromL p f (k + 1) (insideStop p f k) := by
 unfold insideM insideStop twin
 dsimp only
 split <;> rfl
theorem fromM_mem {p : Prg} {f : Nat} {stop : Int} : ∀ (m : Nat) (seen l : List Nat) (x : Nat), x ∈ fromM p f stop m seen l → x < p.len f
 | 0, _, _, _, h => by cases h
 | _ + 1, _, [], _, h => by cases h
 | m + 1, seen, k :: l, x, h => by
  rw [fromM] at h
  split at h
  ·exact fromM_mem m seen l x h
  ·rename_i hc
   rcases List.mem_cons.1 h with rfl | h
   ·exact Nat.lt_of_not_le (fun e => hc (.inl e))
   ·exact fromM_mem m _ _ x h
theorem from_mem {p : Prg} {f start : Nat} {stop : Int} {x : Nat} (h : x ∈ fromL p f start stop) : x < p.len f := fromM_mem _ _ _ _ h
theorem CellsKept.refl (lo hi : Nat) (A : World) : CellsKept lo hi A A := ⟨Nat.le_refl _, fun _ _ _ _ _ h => h⟩
theorem CellsKept.trans {lo hi : Nat} {A B C : World} (h1 : CellsKept lo hi A B) (h2 : CellsKept lo hi B C) : CellsKept lo hi A C := ⟨Nat.le_trans h1.size h2.size, fun k c e fr hk h => h2.cells k c e fr hk (h1.cells k c e fr hk h)⟩
theorem CellsKept.putObj {lo hi l : Nat} {W : World} {o : Obj} (o' : Obj) (h : W.heap[l]? = some o) (hc : o.isCells = false) : CellsKept lo hi W (W.putObj l o') := by
 refine ⟨by simp, fun k c e fr _ hk => ?_⟩
 by_cases e1 : k = l
 ·subst e1; rw [hk] at h; injection h with h; subst h; cases hc
 ·exact (World.putObj_heap_other e1).trans hk
theorem CellsKept.turn {lo hi : Nat} {W W' : World} (h : Turn lo hi W W') : CellsKept lo hi W W' := ⟨h.size, fun k _ _ _ hk hc => (h.block k (Array.getElem?_eq_some_iff.1 hc).1 hk).trans hc⟩
theorem KeepsFrom.turn {lo hi B : Nat} {W W' : World} (h : Turn lo hi W W') (hB : hi ≤ B) : KeepsFrom B W W' := ⟨h.size, fun k o hk ho _ => (h.block k (Array.getElem?_eq_some_iff.1 ho).1 (.inr (by omega))).trans ho⟩
theorem below_grownFrom {B : Nat} {W W' : World} {row : Option Nat} (h : W.grownBy W' row) (hr : ∀ r, row = some r → B ≤ r) (hB : B ≤ W.heap.size) : Below B W W' := ⟨h.os, h.tape, h.output, h.size, fun k hk => h.block k (by omega) (fun e => by have := hr k e.symm; omega)⟩
/-- What lies in memory while inside looks for a twin. -/
structure InI (p : Prg) (f k : Nat) (A : Option Addr) (w : World) (r : Value) (W : World) : Prop where
 pb : Bx W w.heap.size [.slice p.funA p.funs.length p.funC, .slice p.obA p.obs.length p.obC, .slice p.vrA p.vrs.length p.vrC]
 fb : Bx W (w.heap.size + 1) [.int .i64 f]
 kb : Bx W (w.heap.size + 2) [.int .i64 k]
 rb : Boxed W (w.heap.size + 3) 103 r
 cb : Bx W (w.heap.size + 4) [.slice A (p.len f) (p.fn f).codeC]
 eb : Bx W (w.heap.size + 5) [.int .i64 (p.ins f k).c]
 bl : Below w.heap.size w W
theorem InI.next {p : Prg} {f k B : Nat} {A : Option Addr} {w W W' : World} {r : Value} (h : InI p f k A w r W) (hb : Below B W W') (hB : w.heap.size + 6 ≤ B) : InI p f k A w r W' :=
 ⟨h.pb.below hb (by omega), h.fb.below hb (by omega), h.kb.below hb (by omega), (hb.block _ (by omega)).trans h.rb, h.cb.below hb (by omega), h.eb.below hb (by omega), h.bl.trans (hb.mono (by omega))⟩
theorem InI.setR {p : Prg} {f k : Nat} {A : Option Addr} {w W : World} {r : Value} (h : InI p f k A w r W) (r' : Value) : InI p f k A w r' (W.setCell ⟨w.heap.size + 3, 0, none⟩ r') := by
 have hk : ∀ (g : Nat) (cs : List Value), g ≠ w.heap.size + 3 → Bx W g cs → Bx (W.setCell ⟨w.heap.size + 3, 0, none⟩ r') g cs := fun g cs hg hb j v hv => (World.cell?_setCell_far _ _ _ _ (by show w.heap.size + 3 ≠ g; omega)).trans (hb j v hv)
 exact ⟨hk _ _ (by omega) h.pb, hk _ _ (by omega) h.fb, hk _ _ (by omega) h.kb, Boxed.set _ h.rb, hk _ _ (by omega) h.cb, hk _ _ (by omega) h.eb, h.bl.setCell (p := ⟨w.heap.size + 3, 0, none⟩) (by show _ ≤ w.heap.size + 3; omega) _⟩
theorem insideL_any (p : Prg) (hfit : Fits p) (hv : prgOk p) (f k : Nat) (hf : f < p.funs.length) (hk : k < p.len f) (w : World) (h : Lies w w.heap.size p) :
  Calls Tryz.prog 111 #[p.val, .int .i64 f, .int .i64 k] w fun e W => ∃ b0, e = .returned (fromVal b0) ∧ w.heap.size ≤ b0 ∧ b0 + 4 ≤ W.heap.size ∧ FromMem p w.heap.size b0 f (k + 1) (insideStop p f k) W ∧ Below w.heap.size w W := by
 have hF : ∀ f, Fence.wide.fn f := fun _ => trivial
 have hf1 := hF 111
 have hf2 := hF 128
 have hW := wf_of hv
 have hl := hW.len f hf
 obtain ⟨b, off, b2, off2, hA, hb, hb2, -, d5, q0, q1, q2, q3, q4⟩ := h.at_ hf hk
 have f0 : (0 : Int) ≤ (f : Int) := by omega
 have f1 : (f : Int) < (p.funs.length : Int) := by omega
 have k0 : (0 : Int) ≤ (k : Int) := by omega
 have k1 : (k : Int) < (p.len f : Int) := by omega
 have kw : IntKind.i64.wrap ((k : Int) + 1) = (k : Int) + 1 := by rw [IntKind.wrap_i64]; omega
 have HFR : Hid (∀ (stop : Int) (W : World), Calls Tryz.prog 128 #[p.val, .int .i64 f, .int .i64 ((k : Int) + 1), .int .i64 stop] W fun e W' => e = .returned (fromVal W.heap.size) ∧ W' = fromObjs p f (k + 1) stop W) := fun stop W => from_any p f (k + 1) stop W
 unfold Prg.val at HFR ⊢
 rw [hA] at HFR ⊢
 have HH := Lib.hid h
 have HA := Lib.hid hA
 clear h hA
 refine (callsIn_wide (n := 3)).1 ?_
 refine callsIn_of_wp_marks Tryz.func111 rfl trivial ?_ rfl
 simp only [Tryz.ntmps111, List.size_toArray, List.length_cons, List.length_nil, Nat.reduceAdd, Nat.reduceSub, Array.replicate_succ, Array.replicate_zero, List.push_toArray, List.append_toArray, List.nil_append, List.cons_append]
 gi_upto_region 1 with fail
 have h3 := three_new w #[.slice (some ⟨b, off, none⟩) p.funs.length p.funC, .slice p.obA p.obs.length p.obC, .slice p.vrA p.vrs.length p.vrC] #[.int .i64 f] #[.int .i64 k] 26 3 3
 have hbl3 : Below w.heap.size w (((w.alloc (.cells #[.slice (some ⟨b, off, none⟩) p.funs.length p.funC, .slice p.obA p.obs.length p.obC, .slice p.vrA p.vrs.length p.vrC] 26)).alloc (.cells #[.int .i64 f] 3)).alloc (.cells #[.int .i64 k] 3)) := h3.two.below
 have hz3 : (((w.alloc (.cells #[.slice (some ⟨b, off, none⟩) p.funs.length p.funC, .slice p.obA p.obs.length p.obC, .slice p.vrA p.vrs.length p.vrC] 26)).alloc (.cells #[.int .i64 f] 3)).alloc (.cells #[.int .i64 k] 3)).heap.size = w.heap.size + 3 := by simp
 simp only [Nat.add_assoc, Nat.reduceAdd]
 generalize (((w.alloc _).alloc _).alloc _) = w3 at h3 hbl3 hz3 ⊢
 have h4 := h3.next (below_alloc w3 (.cells #[.nilFunc] 103))
 have r4 := Boxed.new w3 103 .nilFunc
 have hz4 : (w3.alloc (.cells #[.nilFunc] 103)).heap.size = w.heap.size + 4 := by simp [hz3]
 rw [hz3] at r4
 clear h3 hbl3 hz3
 generalize w3.alloc _ = w4 at h4 r4 hz4 ⊢
 have d5' := (h4.two.below.cell (p := ⟨b, off + f * 6 + 5, none⟩) hb).trans d5
 have q3' := (h4.two.below.cell (p := ⟨b2, off2 + k * 5 + 3, none⟩) hb2).trans q3
 obtain ⟨x0, x1, x2⟩ := bx3 h4.two.fst
 have y0 := h4.two.snd 0 _ rfl
 have z0 := h4.thd 0 _ rfl
 have HD5 := Lib.hid d5
 clear d5 q0 q1 q2 q3 q4
 gi_upto_region 2 with fail
 have hb5 := below_alloc w4 (.cells #[.slice (some ⟨b2, off2, none⟩) (p.len f) (p.fn f).codeC] 58)
 have c5 := bx_new w4 #[.slice (some ⟨b2, off2, none⟩) (p.len f) (p.fn f).codeC] 58
 have h5 := h4.next hb5
 have r5 := r4.alloc (.cells #[.slice (some ⟨b2, off2, none⟩) (p.len f) (p.fn f).codeC] 58)
 have q5 := (hb5.cell (p := ⟨b2, off2 + k * 5 + 3, none⟩) (by show b2 < _; omega)).trans q3'
 have hz5 : (w4.alloc (.cells #[.slice (some ⟨b2, off2, none⟩) (p.len f) (p.fn f).codeC] 58)).heap.size = w.heap.size + 5 := by simp [hz4]
 rw [hz4] at c5
 try simp only [hz4]
 clear x0 x1 x2 y0 z0 h4 r4 d5' q3' hb5 hz4
 generalize w4.alloc _ = w5 at h5 r5 c5 q5 hz5 ⊢
 have z0 := h5.thd 0 _ rfl
 have t0 := c5 0 _ rfl
 gi_upto_region 3 with fail
 have hb6 := below_alloc w5 (.cells #[.int .i64 (p.ins f k).c] 3)
 have e6 := bx_new w5 #[.int .i64 (p.ins f k).c] 3
 have h6 := h5.next hb6
 have r6 := r5.alloc (.cells #[.int .i64 (p.ins f k).c] 3)
 have c6 := c5.below hb6 (by omega)
 have hz6 : (w5.alloc (.cells #[.int .i64 (p.ins f k).c] 3)).heap.size = w.heap.size + 6 := by simp [hz5]
 rw [hz5] at e6
 try simp only [hz5]
 have hI6 : InI p f k (some ⟨b2, off2, none⟩) w .nilFunc (w5.alloc (.cells #[.int .i64 (p.ins f k).c] 3)) := ⟨by rw [HA.out]; exact h6.two.fst, h6.two.snd, h6.thd, r6, c6, e6, h6.two.below⟩
 clear z0 t0 h5 r5 c5 q5 hb6 hz5 e6 h6 r6 c6
 generalize w5.alloc _ = w6 at hI6 hz6 ⊢
 obtain ⟨x0, x1, x2⟩ := bx3 hI6.pb
 rw [HA.out] at x0
 have y0 := hI6.fb 0 _ rfl
 have z0 := hI6.kb 0 _ rfl
 have t0 := hI6.eb 0 _ rfl
 gi_wp2
 refine (callsIn_wide.2 (HFR.out _ _)).mono ?_
 rintro e w7 ⟨rfl, rfl⟩
 have hb7 := fromObjs_below p f (k + 1) (p.ins f k).c w6
 have hz7 := fromObjs_size p f (k + 1) (p.ins f k).c w6
 have hm7 := fromObjs_mem p w.heap.size f (k + 1) (p.ins f k).c w6 (HH.out.below hI6.bl) (by omega)
 have hI7 := hI6.next hb7 (by omega)
 rw [hz6] at hz7 hm7
 try simp only [hz6]
 clear x0 x1 x2 y0 z0 t0 hI6 hb7 hz6
 generalize fromObjs p f (k + 1) (p.ins f k).c w6 = w7 at hz7 hm7 hI7 ⊢
 unfold fromVal
 gi_wp2
 refine wpIn_rangeFunc_ac rfl (by omega) (gf := 144) (lb := #[.pointer (some ⟨w.heap.size + 6, 0, none⟩), .pointer (some ⟨w.heap.size + 6 + 1, 0, none⟩), .pointer (some ⟨w.heap.size + 6 + 2, 0, none⟩), .pointer (some ⟨w.heap.size + 6 + 3, 0, none⟩)]) rfl trivial (enters_of Tryz.func144 (by kernel_rfl) rfl)
  (from_stops 2 (by omega) p hfit hv w.heap.size w.heap.size (w.heap.size + 6) f (k + 1) (p.ins f k).c (Nat.le_refl _) (by omega) hf w7 hm7 (by omega))
  (fun h k => h.trans k) (fun W l o o' _ hl hc _ => CellsKept.putObj o' hl hc) (Below.refl _ _) (fun _ => rfl)
  (fun A' B' k o hab _ ho hc => hab.rec_ k o ho hc)
  (fun pre W => InI p f k (some ⟨b2, off2, none⟩) w .nilFunc W ∧ w.heap.size + 10 ≤ W.heap.size ∧ ∀ x ∈ pre, twin p f (p.ins f k).c x = false)
  (fun c pre W => c = .ret ∧ ∃ b0, InI p f k (some ⟨b2, off2, none⟩) w (fromVal b0) W ∧ w.heap.size + 6 ≤ b0 ∧ b0 + 4 ≤ W.heap.size ∧ FromMem p w.heap.size b0 f (k + 1) (insideStop p f k) W)
  (fun s W W' row hs hg hr => ⟨hs.1.next (below_grownFrom (B := w.heap.size + 10) hg (fun r e => by have := (hr r e).1; omega) hs.2.1) (by omega), Nat.le_trans hs.2.1 hg.size, hs.2.2⟩)
  (fun c s W W' row hs hg hr => by
   obtain ⟨rfl, b0, h1, h2, h3, h4⟩ := hs
   have hk : CellsKept w.heap.size w.heap.size W W' := ⟨hg.size, fun i cc e fr _ hc => (hg.block i (Array.getElem?_eq_some_iff.1 hc).1 (fun e => by obtain ⟨_, o, ho, hoc⟩ := hr i e.symm; rw [hc] at ho; injection ho with ho; subst ho; cases hoc)).trans hc⟩
   exact ⟨rfl, b0, h1.next (below_grownFrom (B := w.heap.size + 6) hg (fun r e => by have := (hr r e).1; omega) (by omega)) (by omega), h2, Nat.le_trans h3 hg.size, h4.kept hk (by omega)⟩)
  (fun pre A' B' hs hab => ⟨hs.1.next hab.below (by omega), Nat.le_trans hs.2.1 hab.below.size, hs.2.2⟩)
  ⟨hI7, by omega, fun x hx => by cases hx⟩
  (fun x a' _ => a' = { tmps := #[.agg #[.slice (some ⟨b, off, none⟩) p.funs.length p.funC, .slice p.obA p.obs.length p.obC, .slice p.vrA p.vrs.length p.vrC], .int .i64 f, .int .i64 k, .pointer (some ⟨w.heap.size, 0, none⟩), .pointer (some ⟨w.heap.size + 1, 0, none⟩), .pointer (some ⟨w.heap.size + 2, 0, none⟩), .pointer (some ⟨w.heap.size + 3, 0, none⟩), .pointer (some ⟨w.heap.size + 4, 0, none⟩), .pointer (some ⟨w.heap.size + 5, 0, none⟩), .int .i64 (x : Nat), .pointer (some ⟨w.heap.size, 0, none⟩), .slice (some ⟨b, off, none⟩) p.funs.length p.funC, .int .i64 f, .pointer (some ⟨b, off + f * 6, none⟩), .pointer (some ⟨b, off + f * 6 + 5, none⟩), .slice (some ⟨b2, off2, none⟩) (p.len f) (p.fn f).codeC, .slice (some ⟨b2, off2, none⟩) (p.len f) (p.fn f).codeC, .int .i64 k, .pointer (some ⟨b2, off2 + k * 5, none⟩), .pointer (some ⟨b2, off2 + k * 5 + 3, none⟩), .int .i64 (p.ins f k).c, .agg #[.slice (some ⟨b, off, none⟩) p.funs.length p.funC, .slice p.obA p.obs.length p.obC, .slice p.vrA p.vrs.length p.vrC], .int .i64 f, .int .i64 k, .int .i64 ((k : Int) + 1), .int .i64 (p.ins f k).c, .func (.func 144) #[] #[.pointer (some ⟨w.heap.size + 6, 0, none⟩), .pointer (some ⟨w.heap.size + 6 + 1, 0, none⟩), .pointer (some ⟨w.heap.size + 6 + 2, 0, none⟩), .pointer (some ⟨w.heap.size + 6 + 3, 0, none⟩)], .int .i64 (x : Nat), undef, undef, undef, undef, undef, undef, undef, undef, undef, undef, undef, undef, undef, undef, undef, undef, undef, undef, undef, undef, undef, undef, undef, undef, undef, undef], defers := [] })
  (fun _ _ _ _ _ hs _ _ => hs) ?assign ?body ?done ?stop
 case assign =>
  rintro l pre x W K hJ hK
  gi_wp2
  exact hK _ _ (KeepsFrom.refl _ _) (CellsKept.refl _ _ _) hJ rfl
 case stop =>
  rintro D c' pre W hD - ⟨rfl, b0, h1, h2, h3, h4⟩ hK
  gi_wp2
  have hgD := grownBy_putObj' W D (.deferred none)
  refine ⟨by simp, .inl ⟨_, _, rfl, run_takeDeferred hK, ?_⟩⟩
  refine ⟨_, results_cell1 rfl rfl (load_cell (by kernel_rfl) (h1.rb.kept hgD (by simp; omega)).cell), ?_⟩
  exact ⟨b0, rfl, by omega, by simpa using h3, h4.kept (CellsKept.putObj _ hK rfl) (by omega), h1.bl.grown hgD h1.bl.size (fun k e => by cases e; omega)⟩
 case done =>
  rintro D ys W hD rfl ⟨hI, hsW, htw⟩ hK
  have HST := Lib.hid (show insideStop p f k = (p.ins f k).c from by
   unfold insideStop
   rw [if_neg]
   rw [List.any_eq_true]
   rintro ⟨x, hx, ht⟩
   rw [htw x hx] at ht; cases ht)
  clear htw
  obtain ⟨x0, x1, x2⟩ := bx3 hI.pb
  rw [HA.out] at x0
  have y0 := hI.fb 0 _ rfl
  have z0 := hI.kb 0 _ rfl
  have e0 := hI.eb 0 _ rfl
  gi_wp2
  refine (callsIn_wide.2 (HFR.out _ _)).mono ?_
  rintro e w9 ⟨rfl, rfl⟩
  have hb9 := fromObjs_below p f (k + 1) (p.ins f k).c W
  have hz9 := fromObjs_size p f (k + 1) (p.ins f k).c W
  have hm9 := fromObjs_mem p w.heap.size f (k + 1) (p.ins f k).c W (HH.out.below hI.bl) (by omega)
  have hI9 := hI.next hb9 (by omega)
  have hK9 := (hb9.block D (Array.getElem?_eq_some_iff.1 hK).1).trans hK
  clear x0 x1 x2 y0 z0 e0 hb9
  generalize fromObjs p f (k + 1) (p.ins f k).c W = w9 at hz9 hm9 hI9 hK9 ⊢
  have r0 := hI9.rb.cell
  have r1 := hI9.rb.frozen
  have HI9 := Lib.hid hI9
  clear hI9
  unfold fromVal
  gi_wp2
  have hgD := grownBy_putObj' (w9.setCell ⟨w.heap.size + 3, 0, none⟩ (fromVal W.heap.size)) D (.deferred none)
  have hE1 := HI9.out.setR (fromVal W.heap.size)
  have hED : (w9.setCell ⟨w.heap.size + 3, 0, none⟩ (fromVal W.heap.size)).heap[D]? = some (.deferred (some [])) := (Below.heap_setCell _ _ _ _ (by show _ ≠ w.heap.size + 3; omega)).trans hK9
  refine ⟨by simp, .inl ⟨_, _, rfl, run_takeDeferred hED, ?_⟩⟩
  refine ⟨_, results_cell1 rfl rfl (load_cell (by kernel_rfl) (hE1.rb.kept hgD (by simp; omega)).cell), ?_⟩
  have hk : CellsKept (w.heap.size + 3) (w.heap.size + 4) w9 ((w9.setCell ⟨w.heap.size + 3, 0, none⟩ (fromVal W.heap.size)).putObj D (.deferred none)) := ⟨by simp, fun i c e fr hi hc => by
   have hiD : i ≠ D := fun e => by rw [e, hK9] at hc; cases hc
   exact (World.putObj_heap_other hiD).trans ((heap_setCell_other _ _ _ _ (by show i ≠ w.heap.size + 3; omega)).trans hc)⟩
  refine ⟨W.heap.size, rfl, by omega, by simp; omega, ?_, hE1.bl.grown hgD hE1.bl.size (fun k e => by cases e; omega)⟩
  rw [HST.out]
  exact ⟨hm9.prog.impl fun b' o' v' hb' hc' => hk.cell (.inl (by omega)) hc', fun j v hv => hk.cell (.inr (by omega)) (hm9.pb j v hv), fun j v hv => hk.cell (.inr (by omega)) (hm9.fb j v hv), fun j v hv => hk.cell (.inr (by omega)) (hm9.sb j v hv), fun j v hv => hk.cell (.inr (by omega)) (hm9.eb j v hv)⟩
 case body =>
  rintro lp pre x a' W ⟨hI, hsW, htw⟩ rfl hpre
  have hxl : x < p.len f := from_mem (hpre.subset (by simp))
  obtain ⟨g0, -, -, g3, -⟩ := code_at HH.out ⟨Nat.le_refl _, Nat.le_refl _⟩ HA.out hb2 HD5.out hf hxl (Turn.of_below hI.bl)
  have c0 := hI.cb 0 _ rfl
  have e0 := hI.eb 0 _ rfl
  have x0' : (0 : Int) ≤ (x : Int) := by omega
  have x1' : (x : Int) < (p.len f : Int) := by omega
  have HI := Lib.hid hI
  have HTW := Lib.hid htw
  clear hI htw
  by_cases ho : (p.ins f x).op = 35
  ·by_cases hc : (p.ins f x).c = (p.ins f k).c
   ·have HST := Lib.hid (show insideStop p f k = -1 from by
     unfold insideStop
     rw [if_pos]
     rw [List.any_eq_true]
     exact ⟨x, hpre.subset (by simp), by unfold twin; exact decide_eq_true ⟨ho, hc⟩⟩)
    rw [ho] at g0
    rw [hc] at g3
    clear ho hc
    gi_wp2
    refine wp_round_quiet (by kernel_rfl) (by kernel_rfl) (fun h => by obtain ⟨_, _, h⟩ := h; exact h) (by kernel_rfl) ?_
    repeat (go_big_quiet_step (fail))
    refine wpQuiet_nil ?_
    rintro _ ⟨nq, rfl⟩
    have hI2 := HI.out.next (below_drews W.heap.size W nq) (by omega)
    have hT2 : Turn w.heap.size w.heap.size W (W.drewN nq) := (Turn.refl _ _ _).drewN nq
    have hs2 : w.heap.size + 10 ≤ (W.drewN nq).heap.size := hsW
    generalize W.drewN nq = W0 at hI2 hT2 hs2 ⊢
    clear g0 g3 c0 e0
    obtain ⟨x0, x1, x2⟩ := bx3 hI2.pb
    rw [HA.out] at x0
    have y0 := hI2.fb 0 _ rfl
    have z0 := hI2.kb 0 _ rfl
    gi_wp2
    refine (CallsIn.inRound lp (callsIn_wide.2 (HFR.out _ _))).mono ?_
    rintro e w9 ⟨rfl, rfl⟩
    have hb9 := fromObjs_below p f (k + 1) (-1) W0
    have hz9 := fromObjs_size p f (k + 1) (-1) W0
    have hm9 := fromObjs_mem p w.heap.size f (k + 1) (-1) W0 (HH.out.below hI2.bl) (by omega)
    have hI9 := hI2.next hb9 (by omega)
    have hT9 := hT2.trans (Turn.of_below hb9)
    clear x0 x1 x2 y0 z0 hb9
    generalize fromObjs p f (k + 1) (-1) W0 = w9 at hz9 hm9 hI9 hT9 ⊢
    have r0 := hI9.rb.cell
    have r1 := hI9.rb.frozen
    have HI9 := Lib.hid hI9
    clear hI9
    unfold fromVal
    gi_wp2
    have hk : CellsKept (w.heap.size + 3) (w.heap.size + 4) w9 (w9.setCell ⟨w.heap.size + 3, 0, none⟩ (fromVal W0.heap.size)) := ⟨by simp, fun i c e fr hi hc => (heap_setCell_other _ _ _ _ (by show i ≠ w.heap.size + 3; omega)).trans hc⟩
    have hTs : Turn (w.heap.size + 3) (w.heap.size + 4) W (w9.setCell ⟨w.heap.size + 3, 0, none⟩ (fromVal W0.heap.size)) := Turn.setCell ⟨hT9.os, hT9.tape, hT9.output, hT9.size, fun i hi _ => hT9.block i hi (by omega)⟩ (a := ⟨w.heap.size + 3, 0, none⟩) ⟨by show _ ≤ w.heap.size + 3; omega, by show w.heap.size + 3 < _; omega⟩ _
    refine ⟨KeepsFrom.turn hTs (by omega), rfl, W0.heap.size, HI9.out.setR _, by omega, by simp; omega, ?_⟩
    rw [HST.out]
    exact ⟨hm9.prog.impl fun b' o' v' hb' hc' => hk.cell (.inl (by omega)) hc', fun j v hv => hk.cell (.inr (by omega)) (hm9.pb j v hv), fun j v hv => hk.cell (.inr (by omega)) (hm9.fb j v hv), fun j v hv => hk.cell (.inr (by omega)) (hm9.sb j v hv), fun j v hv => hk.cell (.inr (by omega)) (hm9.eb j v hv)⟩
   ·have HNT := Lib.hid (show twin p f (p.ins f k).c x = false from by unfold twin; exact decide_eq_false (fun e => hc e.2))
    have e2 : ((p.ins f x).c == (p.ins f k).c) = false := by simpa using hc
    rw [ho] at g0
    clear ho hc e0
    have e0 := HI.out.eb 0 _ rfl
    gi_wp2
    refine wp_round_quiet (by kernel_rfl) (by kernel_rfl) (fun h => by obtain ⟨_, _, h⟩ := h; exact h) (by kernel_rfl) ?_
    repeat (go_big_quiet_step (fail))
    refine wpQuiet_nil ?_
    rintro _ ⟨nq, rfl⟩
    have hI2 := HI.out.next (below_drews W.heap.size W nq) (by omega)
    have hT2 : Turn w.heap.size w.heap.size W (W.drewN nq) := (Turn.refl _ _ _).drewN nq
    have hs2 : w.heap.size + 10 ≤ (W.drewN nq).heap.size := hsW
    generalize W.drewN nq = W0 at hI2 hT2 hs2 ⊢
    clear g0 g3 c0 e0
    gi_wp2
    exact ⟨KeepsFrom.turn hT2 (by omega), CellsKept.turn hT2, hI2, hs2, fun y hy => by
     rcases List.mem_append.1 hy with hy | hy
     ·exact HTW.out y hy
     ·rw [List.mem_singleton] at hy; rw [hy]; exact HNT.out⟩
  ·have HNT := Lib.hid (show twin p f (p.ins f k).c x = false from by unfold twin; exact decide_eq_false (fun e => ho e.1))
   have e2 : ((p.ins f x).op == 35) = false := by simpa using ho
   clear ho
   gi_wp2
   refine wp_round_quiet (by kernel_rfl) (by kernel_rfl) (fun h => by obtain ⟨_, _, h⟩ := h; exact h) (by kernel_rfl) ?_
   repeat (go_big_quiet_step (fail))
   refine wpQuiet_nil ?_
   rintro _ ⟨nq, rfl⟩
   have hI2 := HI.out.next (below_drews W.heap.size W nq) (by omega)
   have hT2 : Turn w.heap.size w.heap.size W (W.drewN nq) := (Turn.refl _ _ _).drewN nq
   have hs2 : w.heap.size + 10 ≤ (W.drewN nq).heap.size := hsW
   generalize W.drewN nq = W0 at hI2 hT2 hs2 ⊢
   clear g0 g3 c0 e0
   gi_wp2
   exact ⟨KeepsFrom.turn hT2 (by omega), CellsKept.turn hT2, hI2, hs2, fun y hy => by
    rcases List.mem_append.1 hy with hy | hy
    ·exact HTW.out y hy
    ·rw [List.mem_singleton] at hy; rw [hy]; exact HNT.out⟩
end Go.Proofs.YtkpjdanfpolimaaGreat
