/- Regions that draw their order, within a round of a range over a function: the laws of quiet regions and of regions with a tail. Conditions: no operation defers. · The checker's cases of a select, walked for valid ones. Conditions: the program lies in memory, the cases are valid. · The checker's args of valid instructions, walked. Conditions: the program lies in memory, the instruction is valid. -/
import Derived.Test.YtkpjdanfpolimaaGreatLsIns
import Derived.Deep.Quiet
import Derived.StillTailTactics
import Derived.Lib.QuietBelow
import Derived.BigQuiet
set_option maxRecDepth 100000
set_option maxHeartbeats 3200000
section
namespace Go.Proofs.YtkpjdanfpolimaaGreat
open Go.RowKit
theorem wp_round_any {P : Program} {id l n : Nat} {ops : List Oper} {Q : Exit → Act → World → Prop} {a : Act} {w : World} (hm : P.follows .mixedOrders = true) (hnd : noDefer ops = true) (hQ : ¬ LetsOut Q)
  (h : wpAny P .any ops.toArray Q ops.toArray.size (Array.replicate ops.toArray.size false) a w.drew) : (Code.region id ops.toArray true).wpIn (Fence.wide.inRound l) n P Q a w :=
 wpIn_region_draw (F := Fence.wide.inRound l) fun t => by
  simp only [Region.schedule, hm, Bool.true_or, if_true]
  exact wpAnyIn_sound _ t _ a _ (wpAny_round (noDefer_spec hnd) hQ _ _ _ _ h)
theorem wp_round_class {P : Program} {id k n : Nat} {l : List Oper} {Q : Exit → Act → World → Prop} {a : Act} {w : World} {C : World → Prop} (hm : P.follows .mixedOrders = true) (hnd : noDefer l = true) (hQ : ¬ LetsOut Q) (hB : Region.lexB .any l.toArray = true) (hC : C w.drew)
  (h : wpQuiet P l.toArray C (fun a' => ∀ w', C w' → Q .normal a' w') l a) : (Code.region id l.toArray true).wpIn (Fence.wide.inRound k) n P Q a w := by
 simp only [Region.lexB, Bool.and_eq_true] at hB
 refine wp_round_any hm hnd hQ (wpAny_of_quiet (Q := fun a' => ∀ w', C w' → Q .normal a' w') (fun _ w' hw' h => h w' hw') _ _ _ _ hC ?_)
 have := wpAnyQ_lex (C := C) (md := .any) hB.1 l.toArray.toList 0 (Array.replicate l.toArray.size false) a (by simp) (by simpa using hB.2) (by simpa using h)
 simpa using this
/-- A region that only reads. -/
theorem wp_round_quiet {P : Program} {id k n : Nat} {l : List Oper} {Q : Exit → Act → World → Prop} {a : Act} {w : World} (hm : P.follows .mixedOrders = true) (hnd : noDefer l = true) (hQ : ¬ LetsOut Q) (hB : Region.lexB .any l.toArray = true)
  (h : wpQuiet P l.toArray (fun w' => ∃ n, w' = w.drewN n) (fun a' => ∀ w', (∃ n, w' = w.drewN n) → Q .normal a' w') l a) : (Code.region id l.toArray true).wpIn (Fence.wide.inRound k) n P Q a w :=
 wp_round_class (C := fun w' => ∃ n, w' = w.drewN n) hm hnd hQ hB ⟨1, rfl⟩ h
/-- A region that reads, and whose callees only lay new blocks. -/
theorem wp_round_below {P : Program} {id k n : Nat} {l : List Oper} {Q : Exit → Act → World → Prop} {a : Act} {w : World} (hm : P.follows .mixedOrders = true) (hnd : noDefer l = true) (hQ : ¬ LetsOut Q) (hB : Region.lexB .any l.toArray = true)
  (h : wpQuiet P l.toArray (fun w' => ∃ p : Regrown, w' = Go.Sort.grow (redrawn w p.d) p.os) (fun a' => ∀ w', (∃ p : Regrown, w' = Go.Sort.grow (redrawn w p.d) p.os) → Q .normal a' w') l a) : (Code.region id l.toArray true).wpIn (Fence.wide.inRound k) n P Q a w :=
 wp_round_class (C := fun w' => ∃ p : Regrown, w' = Go.Sort.grow (redrawn w p.d) p.os) hm hnd hQ hB ⟨⟨w.drawn + 1, #[]⟩, by rw [Go.Sort.grow_empty]; rfl⟩ h
/-- A region whose head reads, and whose tail is run in the text's order. -/
theorem wp_round_tail {P : Program} {id k m : Nat} {Q : Exit → Act → World → Prop} {a : Act} {w : World} {l : List Oper} (n : Nat) (hm : P.follows .mixedOrders = true) (hnd : noDefer l = true) (hQ : ¬ LetsOut Q) (hB : Region.lexTailB .any l.toArray n = true)
  (h : wpStill P l.toArray w.drew (fun a' => wpList P l.toArray Q (l.drop n) a' w.drew) (l.take n) a) : (Code.region id l.toArray true).wpIn (Fence.wide.inRound k) m P Q a w := by
 simp only [Region.lexTailB, Bool.and_eq_true, decide_eq_true_eq] at hB
 obtain ⟨⟨⟨⟨hsel, hn⟩, hs⟩, hc⟩, hlex⟩ := hB
 have hn' : n < l.length := by simpa using hn
 have htl : (l.take n).length = n := by simp; omega
 have hdl : (l.drop n).length = l.toArray.size - n := by simp
 have inv0 : HeadInv .any l.toArray n (Array.replicate l.toArray.size false) :=
  ⟨by simp, fun j oj _ hl => (by rw [getD_replicate_false] at hl; cases hl), fun t _ ht => getD_in (by simpa using ht) (getD_replicate_false _ _)⟩
 have H := wpAnyL_lex (md := .any) (g := l.toArray.size - n) hsel hs hc hn (l.take n) 0 _ a (fun j hj => by
  have hj' : j < n := by rw [htl] at hj; exact hj
  simp [hj']) (by simpa using htl) inv0 (by rw [htl]; exact hlex) h
 refine wp_round_any hm hnd hQ ?_
 have := wpAny_of_head (Q' := Q) (g := l.toArray.size - n) (fun listed a' hL => by
  have := wpAny_of_seq (md := .any) (Q' := Q) (l.drop n) n listed a' w.drew (fun j => by simp [List.getElem?_drop]) (by rw [hdl]; exact hL.1) hL.2
  rwa [hdl] at this) _ _ _ H
 rw [htl, show n + (l.toArray.size - n) = l.toArray.size by omega] at this
 exact this
#print axioms wp_round_tail
end Go.Proofs.YtkpjdanfpolimaaGreat
end
section
namespace Go.Proofs.YtkpjdanfpolimaaGreat
open Go.RowKit Go.Shelf
attribute [local go_sem] Oper.semAt_some
theorem RetE.ok {V : Prop} {w : World} {e : Ending} {w' : World} (h : RetE V w e w') (hv : V) : Ret (.int .i64 0) w e w' := by
 obtain ⟨n, rfl, hn, hb⟩ := h
 rw [hn.2 hv]
 exact ⟨rfl, hb⟩
theorem of_ret (k : Int) (w : World) : Calls Tryz.prog 136 #[.int .i64 k] w (Ret (.agg #[.int .i64 12, .int .i64 k]) w) :=
 (of_any k w).mono fun e w' ⟨h1, h2⟩ => ⟨h1, by rw [h2]; exact below_alloc _ _⟩
/-- What lies in memory while the cases are checked. -/
structure CaI (w : World) (cs : Array Value) (D : Nat) (W : World) : Prop where
 ck : W.heap[w.heap.size]? = some (.cells cs 144 (0, 0))
 er : Boxed W (w.heap.size + 1) 32 (.int .i64 0)
 df : Boxed W (w.heap.size + 2) 3 (.int .i64 (D : Nat))
 bl : Below w.heap.size w W
theorem CaI.cells {w : World} {p : Prg} {f : Fn} {D : Nat} {W : World} (h : CaI w (ckCells p f).toArray D W) : Bx W w.heap.size (ckCells p f) := fun j v hv => by
 have := h.ck
 simp only [World.cell?, this]
 simpa using hv
theorem CaI.setDf {w : World} {cs : Array Value} {D D' : Nat} {W : World} (h : CaI w cs D W) : CaI w cs D' (W.setCell ⟨w.heap.size + 2, 0, none⟩ (.int .i64 (D' : Nat))) :=
 ⟨(Below.heap_setCell _ _ _ _ (by show _ ≠ w.heap.size + 2; omega)).trans h.ck, Boxed.other h.er (by omega) _, Boxed.set _ h.df, h.bl.setCell (p := ⟨w.heap.size + 2, 0, none⟩) (by show _ ≤ w.heap.size + 2; omega) _⟩
theorem CaI.keepsC {w : World} {cs : Array Value} {D D' : Nat} {W : World} (_ : CaI w cs D W) : KeepsC (w.heap.size + 3) W (W.setCell ⟨w.heap.size + 2, 0, none⟩ (.int .i64 (D' : Nat))) :=
 ⟨Below.heap_setCell _ _ _ _ (by show _ ≠ w.heap.size + 2; omega), Below.heap_setCell _ _ _ _ (by show _ ≠ w.heap.size + 2; omega)⟩
theorem CaI.kept {w : World} {cs : Array Value} {D : Nat} {W W' : World} {row : Option Nat} (h : CaI w cs D W) (hg : W.grownBy W' row) (hr : ∀ r, row = some r → w.heap.size + 3 ≤ r) : CaI w cs D W' := by
 have hne : ∀ k, k < w.heap.size + 3 → some k ≠ row := fun k hk e => by have := hr k e.symm; omega
 exact ⟨(hg.block _ (Array.getElem?_eq_some_iff.1 h.ck).1 (hne _ (by omega))).trans h.ck, h.er.kept hg (hne _ (by omega)), h.df.kept hg (hne _ (by omega)), h.bl.grown hg h.bl.size (fun k e => by have := hr k e; omega)⟩
theorem getD_lt {l : List Int} {i : Nat} (h : i < l.length) : l.getD i 0 = l[i] := by simp [List.getD, h]
theorem grown_drewN (W : World) (n : Nat) : W.grownBy (W.drewN n) none := ⟨rfl, rfl, rfl, Nat.le_refl _, fun _ _ _ => rfl⟩
theorem keeps_drewN (W : World) (n : Nat) : KeepsOthers W (W.drewN n) := KeepsOthers.of_grownBy (grown_drewN W n) (fun _ _ e => by cases e)
def CaJ (w : World) (cs : Array Value) (l : List Int) (pre : List Nat) (W : World) : Prop := ∃ D : Nat, Hid (D = dcnt l pre.length) ∧ CaI w cs D W ∧ w.heap.size + 5 ≤ W.heap.size
theorem caJ_own {w : World} {cs : Array Value} {l : List Int} : OwnFrom (w.heap.size + 3) (CaJ w cs l) := fun _ _ _ _ hs hg hr => by
 obtain ⟨D, h1, h2, h3⟩ := hs
 exact ⟨D, h1, h2.kept hg (fun r e => (hr r e).1), Nat.le_trans h3 hg.size⟩
theorem dcnt_mono (l : List Int) {m n : Nat} (h : m ≤ n) : dcnt l m ≤ dcnt l n := by
 induction h with
 | refl => exact Nat.le_refl _
 | step _ ih => rw [dcnt]; omega
theorem load_cell {P : Program} {w : World} {t : TypeId} {p : Addr} {v : Value} (ht : (isAgg t).run P w = .ok false w) (h : w.cell? p = some v) : (loadVar t p).run P w = .ok v w := by
 simp [loadVar, Sem.run_bind, ht, Result.andThen, go_sem, h]
theorem results_cell1 {fn : Func} {a : Tmp} {t : TypeId} (h : fn.results = #[.cell a t]) {tmps : Array Value} {P : Program} {w : World} {pa : Addr} {va : Value}
  (ha : tmps.getD a undef = .pointer (some pa)) (hva : (loadVar t pa).run P w = .ok va w) : (results fn tmps).run P w = .ok va w := by
 have hx : (asAddr (.pointer (some pa))).run P w = .ok pa w := rfl
 have hp : ∀ {α : Type} (x : α) (w : World), (pure x : Sem α).run P w = .ok x w := fun _ _ => rfl
 unfold results
 rw [h]
 simp only [List.mapM_toArray, List.mapM_cons, List.mapM_nil, Sem.run_bind, run_map', ha, hx, hva, Result.andThen, hp]
 rfl
set_option linter.unusedSimpArgs false in
theorem cases_ok (p : Prg) (f : Fn) (hf : f ∈ p.funs) (l : List Int) (A : Option Addr) (c : Nat) (hcap : l.length ≤ c) (hfit : ∀ x ∈ l, -9223372036854775808 ≤ x ∧ x ≤ 9223372036854775807) (hr : 0 ≤ f.regs ∧ f.regs ≤ 32)
  (h0 : l.length ≠ 0) (h3 : l.length % 3 = 0) (h18 : l.length ≤ 18) (hall : casesTo p f l (l.length / 3)) (hd : dcnt l (l.length / 3) ≤ 1) (w : World) (h : Lies w w.heap.size p) (ha : Rd w w.heap.size 1 A l.length (i64s l)) :
  Calls Tryz.prog 140 #[ckVal p f, .slice A l.length c] w (Ret (.int .i64 0) w) := by
 have hF : ∀ f, Fence.wide.fn f := fun _ => trivial
 have hf1 := hF 140
 have hf2 := hF 147
 have hf3 := hF 136
 have hf4 := hF 126
 have hf5 := hF 143
 unfold ckVal
 obtain ⟨cs, hcs⟩ : ∃ cs, cs = (ckCells p f).toArray := ⟨_, rfl⟩
 rw [← hcs]
 have HCS := Lib.hid hcs
 obtain ⟨M, hM⟩ : ∃ M, l.length = M := ⟨_, rfl⟩
 obtain ⟨N, hN⟩ : ∃ N, M = 3 * N := ⟨M / 3, by omega⟩
 have hdiv : l.length / 3 = N := by omega
 rw [hM] at h0 h3 h18 hcap ⊢
 rw [hdiv] at hall hd
 have HA := Lib.hid ha
 have HALL := Lib.hid hall
 have HN := Lib.hid hN
 have HM := Lib.hid hM
 have hsz : cs.size = 9 := by rw [hcs]; rfl
 clear hcs hM hN hdiv hall ha
 have e1 : ((M : Int) == 0) = false := by simp; omega
 have e2 : ((M : Int).tmod 3 != 0) = false := by rw [Int.tmod_eq_emod_of_nonneg (by omega)]; simp; omega
 have e3 : decide ((18 : Int) < (M : Int)) = false := decide_eq_false (by omega)
 have e4 : (M == 0) = false := by simp; omega
 have e5 : decide (18 < M) = false := decide_eq_false (by omega)
 refine (callsIn_wide (n := 3)).1 ?_
 refine callsIn_of_wp_marks Tryz.func140 rfl trivial ?_ rfl
 simp only [Tryz.ntmps140, List.size_toArray, List.length_cons, List.length_nil, Nat.reduceAdd, Nat.reduceSub, Array.replicate_succ, Array.replicate_zero, List.push_toArray, List.append_toArray, List.nil_append, List.cons_append]
 gi_wp2
 refine (chunk_in 2 A M c _).mono ?_
 rintro e w2 ⟨rfl, rfl⟩
 gi_wp2
 have bC : (((w.alloc (.cells cs 144)).alloc (.cells #[.int .i64 0] 32)).alloc (.cells #[.int .i64 0] 3)).heap[w.heap.size]? = some (.cells cs 144 (0, 0)) :=
  (Below.heap_alloc _ _ _ (by simp; omega)).trans ((Below.heap_alloc _ _ _ (by simp)).trans (World.alloc_heap_new w _))
 have bE := (Boxed.new (w.alloc (.cells cs 144)) 32 (.int .i64 0)).alloc (.cells #[.int .i64 0] 3)
 have bD := Boxed.new ((w.alloc (.cells cs 144)).alloc (.cells #[.int .i64 0] 32)) 3 (.int .i64 0)
 simp only [World.size_alloc] at bE bD
 have hbl : Below w.heap.size w (((w.alloc (.cells cs 144)).alloc (.cells #[.int .i64 0] 32)).alloc (.cells #[.int .i64 0] 3)) := ((below_alloc w _).alloc (by simp) _).alloc (by simp; omega) _
 have hsz3 : (((w.alloc (.cells cs 144)).alloc (.cells #[.int .i64 0] 32)).alloc (.cells #[.int .i64 0] 3)).heap.size = w.heap.size + 3 := by simp
 generalize (((w.alloc (.cells cs 144)).alloc (.cells #[.int .i64 0] 32)).alloc (.cells #[.int .i64 0] 3)) = w1 at bC bE bD hbl hsz3 ⊢
 have hI : CaI w cs 0 w1 := ⟨bC, bE, bD, hbl⟩
 clear bC bE bD hbl
 have bS := Boxed.new w1 27 (.slice A M c)
 have bN := Boxed.new (w1.alloc (.cells #[.slice A M c] 27)) 3 (.int .i64 3)
 simp only [World.size_alloc, hsz3] at bS bN
 try simp only [hsz3]
 have hg1 : w1.grownBy ((w1.alloc (.cells #[.slice A M c] 27)).alloc (.cells #[.int .i64 3] 3)) none := (World.grownBy_alloc w1 _ none).trans (World.grownBy_alloc _ _ none)
 have hI1 := hI.kept hg1 (fun r e => by cases e)
 have hsz5 : ((w1.alloc (.cells #[.slice A M c] 27)).alloc (.cells #[.int .i64 3] 3)).heap.size = w.heap.size + 5 := by simp [hsz3]
 have bS1 := bS.alloc (.cells #[.int .i64 3] 3)
 generalize ((w1.alloc (.cells #[.slice A M c] 27)).alloc (.cells #[.int .i64 3] 3)) = w2 at bS1 bN hI1 hsz5 ⊢
 refine wpIn_rangeFunc_ab rfl (by omega) (gf := 159) (lb := #[.pointer (some ⟨w.heap.size + 3, 0, none⟩), .pointer (some ⟨w.heap.size + 3 + 1, 0, none⟩)]) rfl trivial (enters_of Tryz.func159 (by kernel_rfl) rfl)
  (chunk_stops 2 (by omega) (w.heap.size + 3) A c N M HN.out hcap (by have := HN.out; omega) _ bS1 bN)
  (fun h k => ⟨k.1.trans h.1, k.2.trans h.2⟩) (fun W k o o' hk _ _ _ => ⟨World.putObj_heap_other (by omega), World.putObj_heap_other (by omega)⟩) (Below.refl _ _) (fun _ => rfl)
  (fun A' B' k o hab hk ho _ => (hab.block k (Array.getElem?_eq_some_iff.1 ho).1 (by simp)).trans ho)
  (CaJ w cs l) (fun _ _ _ => False)
  (by rw [hsz5]; exact fun s W W' row hs hg hr => caJ_own s W W' row hs hg (fun r e => ⟨by have := (hr r e).1; omega, (hr r e).2⟩)) (fun _ => fun _ _ _ _ h _ _ => h)
  (fun pre A' B' hs hab => by obtain ⟨D, h1, h2, h3⟩ := hs; exact ⟨D, h1, h2.kept hab (fun r e => by cases e), Nat.le_trans h3 hab.size⟩)
  (fun c' pre A' B' hs hab => hs)
  ⟨0, Lib.hid rfl, hI1, by omega⟩
  (fun x a' _ => a' = { tmps := #[.agg cs, .slice A M c, .pointer (some ⟨w.heap.size, 0, none⟩), undef, .pointer (some ⟨w.heap.size + 1, 0, none⟩), .pointer (some ⟨w.heap.size + 2, 0, none⟩), chunkAt A (3 * x), undef, undef, undef, undef, .slice A M c, .int .i64 (M : Nat), .bool false, .bool false, .slice A M c, .int .i64 (M : Nat), .int .i64 0, .bool false, .bool false, .bool false, .slice A M c, .int .i64 (M : Nat), .bool false, .bool false, .slice A M c, .func (.func 159) #[] #[.pointer (some ⟨w.heap.size + 3, 0, none⟩), .pointer (some ⟨w.heap.size + 4, 0, none⟩)], chunkAt A (3 * x), undef, undef, undef, undef, undef, undef, undef, undef, undef, undef, undef, undef, undef, undef, undef, undef, undef, undef, undef, undef, undef, undef, undef, undef, undef, undef, undef, undef, undef, undef, undef, undef, undef, undef, undef, undef, undef, undef, undef, undef, undef, undef, undef, undef, undef, undef], defers := [] })
  (fun _ _ _ _ _ hs _ _ => hs) ?assign ?body ?done ?stop
 case assign =>
  rintro l pre x W K hJ hK
  gi_wp2
  exact hK _ _ (KeepsFrom.refl _ _) ⟨rfl, rfl⟩ hJ rfl
 case stop => rintro D c' pre W hD _ hno hK; exact hno.elim
 case done =>
  rintro D ys W hD rfl ⟨D2, hD2, hI, _⟩ hK
  have hdd : D2 ≤ 1 := by rw [hD2.out, List.length_range]; exact hd
  have q0 := hI.df.cell
  have q1 := hI.er.cell
  have q2 := hI.er.frozen
  have HI := Lib.hid hI
  have d1 : decide ((1 : Int) < (D2 : Int)) = false := decide_eq_false (by omega)
  have d2 : decide (1 < D2) = false := decide_eq_false (by omega)
  have hlt : w.heap.size + 3 < w2.heap.size := by omega
  clear hI hD2
  gi_wp2
  have hgD := grownBy_putObj' (W.setCell ⟨w.heap.size + 1, 0, none⟩ (.int .i64 0)) D (.deferred none)
  have hE1 : Boxed (W.setCell ⟨w.heap.size + 1, 0, none⟩ (.int .i64 0)) (w.heap.size + 1) 32 (.int .i64 0) := Boxed.set _ HI.out.er
  have hED : (W.setCell ⟨w.heap.size + 1, 0, none⟩ (.int .i64 0)).heap[D]? = some (.deferred (some [])) := (Below.heap_setCell _ _ _ _ (by show _ ≠ w.heap.size + 1; omega)).trans hK
  refine ⟨by simp, .inl ⟨_, _, rfl, run_takeDeferred hED, ?_⟩⟩
  refine ⟨_, results_cell1 rfl rfl (load_cell (by kernel_rfl) (hE1.kept hgD (by simp; omega)).cell), ?_⟩
  exact ⟨rfl, (HI.out.bl.setCell (p := ⟨w.heap.size + 1, 0, none⟩) (by show _ ≤ w.heap.size + 1; omega) _).grown hgD (by have := HI.out.bl.size; simpa using this) (fun k e => by cases e; omega)⟩
 case body =>
  rintro lp pre x a' W ⟨D, hD, hI, hszW⟩ rfl ⟨hpre, hx⟩
  have hpl : pre.length = x := by rw [hpre]; simp
  rw [hpl] at hD
  have ha : Rd W w.heap.size 1 A l.length (i64s l) := HA.out.below hI.bl
  have hle : 3 * x + 3 ≤ l.length := by have := HM.out; have := HN.out; omega
  obtain ⟨b, off, hA, hbo, hcells⟩ := ha.addr (by omega)
  have hc3 := HALL.out x hx
  rw [getD_lt (by omega), getD_lt (by omega), getD_lt (by omega)] at hc3
  have hdc : dcnt l (x + 1) ≤ 1 := Nat.le_trans (dcnt_mono l (by omega)) hd
  have hdn : dcnt l (x + 1) = D + (if l[3 * x] = 3 then 1 else 0) := by
   rw [hD.out, dcnt, getD_lt (by omega)]
  have hch1 := hfit l[3 * x + 1] (List.getElem_mem _)
  obtain ⟨y, hy⟩ : ∃ y, y = off + 3 * x := ⟨_, rfl⟩
  have g0 : W.cell? ⟨b, y, none⟩ = some (.int .i64 l[3 * x]) := by rw [hy]; exact hcells (3 * x) _ (i64s_at _ _ (by omega))
  have g1 : W.cell? ⟨b, y + 1, none⟩ = some (.int .i64 l[3 * x + 1]) := by rw [hy, Nat.add_assoc]; exact hcells (3 * x + 1) _ (i64s_at _ _ (by omega))
  have g2 : W.cell? ⟨b, y + 2, none⟩ = some (.int .i64 l[3 * x + 2]) := by rw [hy, Nat.add_assoc]; exact hcells (3 * x + 2) _ (i64s_at _ _ (by omega))
  generalize l[3 * x] = kd at hc3 hdn g0
  generalize l[3 * x + 1] = ch at hc3 hch1 g1
  generalize l[3 * x + 2] = rg at hc3 g2
  have hch : chunkAt A (3 * x) = .slice (some ⟨b, y, none⟩) 3 3 := by rw [hA, hy]; simp [chunkAt, Addr.add]
  rw [hch]
  have q0 := hI.df.cell
  have q1 := hI.er.cell
  have q2 := hI.er.frozen
  have q3 := hI.df.frozen
  have HDN := Lib.hid hdn
  have HI := Lib.hid hI
  have HPL := Lib.hid hpl
  have HC := Lib.hid hc3
  clear hy hch hcells hpre hA ha hdn hI hD hpl hc3
  rcases HC.out with ⟨rfl, hok, hrg⟩ | ⟨rfl, hok, rfl⟩ | ⟨rfl, rfl, rfl⟩
  ·have hcs := HCS.out
   subst hcs
   gi_wp2
   refine wp_round_quiet (by kernel_rfl) (by kernel_rfl) (fun h => by obtain ⟨_, _, h⟩ := h; exact h) (by kernel_rfl) ?_
   repeat (go_big_quiet_step (fail))
   refine wpQuiet_nil ?_
   rintro _ ⟨nq, rfl⟩
   have hI2 := HI.out.kept (grown_drewN W nq) (fun r e => by cases e)
   have hKW := keeps_drewN W nq
   have hKC : KeepsC (w.heap.size + 3) W (W.drewN nq) := ⟨rfl, rfl⟩
   generalize W.drewN nq = W0 at hI2 hKW hKC ⊢
   obtain ⟨x0, x1, x2, x3, x4, x5, x6, x7, x8⟩ := bx9 hI2.cells
   have hbW := hI2.bl
   have hwl := hI2.ck
   have HOFH : Hid (∀ W, _) := fun W => of_ret 6 W
   have HOPH : Hid (∀ d os, Calls Tryz.prog 126 #[ckVal p f, .agg #[.int .i64 12, .int .i64 6], .int .i64 ch] (Go.Sort.grow (redrawn W0 d) os) (Ret (.int .i64 0) (Go.Sort.grow (redrawn W0 d) os))) := fun d os =>
    (opd_any p f hf 12 (by omega) ch 6 hch1 hr _ (h.next (hbW.trans ((below_regrown W0 d os).mono hbW.size)))).mono fun e w' hh => hh.ok hok
   have y0 := fun d os => cell_regrown (w := W0) x0 d os
   have y1 := fun d os => cell_regrown (w := W0) x1 d os
   have y2 := fun d os => cell_regrown (w := W0) x2 d os
   have y3 := fun d os => cell_regrown (w := W0) x3 d os
   have y4 := fun d os => cell_regrown (w := W0) x4 d os
   have y5 := fun d os => cell_regrown (w := W0) x5 d os
   have y6 := fun d os => cell_regrown (w := W0) x6 d os
   have y7 := fun d os => cell_regrown (w := W0) x7 d os
   have y8 := fun d os => cell_regrown (w := W0) x8 d os
   have HBW := Lib.hid hbW
   clear hbW hwl hok
   gi_wp2
   refine wp_round_below (by kernel_rfl) (by kernel_rfl) (fun h => by obtain ⟨_, _, h⟩ := h; exact h) (by kernel_rfl) ?_
   repeat (go_big_quiet_step (first | exact Calls.regrown_of (HOFH.out _) | exact Calls.regrown_of (HOPH.out _ _)))
   refine wpQuiet_nil ?_
   rintro _ ⟨pq, rfl⟩
   have hb4 := below_regrown W0 pq.d pq.os
   generalize Go.Sort.grow (redrawn W0 pq.d) pq.os = W4 at hb4 ⊢
   have hg4 : W0.grownBy W4 none := ⟨hb4.os, hb4.tape, hb4.output, hb4.size, fun k hk _ => hb4.block k hk⟩
   have hI4 := hI2.kept hg4 (fun r e => by cases e)
   have hKW4 := hKW.trans (KeepsOthers.of_grownBy hg4 (fun _ _ e => by cases e))
   have hw4 : w.heap.size + 4 < W0.heap.size := by
    have h9 := hKW.size; omega
   have hKC4 : KeepsC (w.heap.size + 3) W W4 := ⟨(hb4.block _ (by omega)).trans hKC.1, (hb4.block _ (by omega)).trans hKC.2⟩
   clear y0 y1 y2 y3 y4 y5 y6 y7 y8 x0 x1 x2 x3 x4 x5 x6 x7 x8
   obtain ⟨x0, x1, x2, x3, x4, x5, x6, x7, x8⟩ := bx9 hI4.cells
   have HRG : Hid (∀ W, Calls Tryz.prog 143 #[ckVal p f, .int .i64 rg] W (Ret (.bool true) W)) := fun W => by have := reg_any p f rg hr W; rwa [hrg] at this
   clear hrg
   gi_wp2
   refine (CallsIn.inRound lp (callsIn_wide.2 (HRG.out _))).mono ?_
   rintro e W5 ⟨rfl, hb5⟩
   have hg5 : W4.grownBy W5 none := ⟨hb5.os, hb5.tape, hb5.output, hb5.size, fun k hk _ => hb5.block k hk⟩
   have hI5 := hI4.kept hg5 (fun r e => by cases e)
   have hKW5 := hKW4.trans (KeepsOthers.of_grownBy hg5 (fun _ _ e => by cases e))
   have hKC5 : KeepsC (w.heap.size + 3) W W5 := ⟨(hb5.block _ (by have := hb4.size; omega)).trans hKC4.1, (hb5.block _ (by have := hb4.size; omega)).trans hKC4.2⟩
   clear x0 x1 x2 x3 x4 x5 x6 x7 x8
   gi_wp2
   refine ⟨hKW5.from _, hKC5, D, Lib.hid ?_, hI5, by have h9 := hKW5.size; omega⟩
   rw [List.length_append, HPL.out]
   have := HDN.out
   rw [if_neg (by decide)] at this
   exact this.symm
  ·have hcs := HCS.out
   subst hcs
   gi_wp2
   refine wp_round_quiet (by kernel_rfl) (by kernel_rfl) (fun h => by obtain ⟨_, _, h⟩ := h; exact h) (by kernel_rfl) ?_
   repeat (go_big_quiet_step (fail))
   refine wpQuiet_nil ?_
   rintro _ ⟨nq, rfl⟩
   have hI2 := HI.out.kept (grown_drewN W nq) (fun r e => by cases e)
   have hKW := keeps_drewN W nq
   have hKC : KeepsC (w.heap.size + 3) W (W.drewN nq) := ⟨rfl, rfl⟩
   generalize W.drewN nq = W0 at hI2 hKW hKC ⊢
   obtain ⟨x0, x1, x2, x3, x4, x5, x6, x7, x8⟩ := bx9 hI2.cells
   have hbW := hI2.bl
   have hwl := hI2.ck
   have HOFH : Hid (∀ W, _) := fun W => of_ret 6 W
   have HOPH : Hid (∀ d os, Calls Tryz.prog 126 #[ckVal p f, .agg #[.int .i64 12, .int .i64 6], .int .i64 ch] (Go.Sort.grow (redrawn W0 d) os) (Ret (.int .i64 0) (Go.Sort.grow (redrawn W0 d) os))) := fun d os =>
    (opd_any p f hf 12 (by omega) ch 6 hch1 hr _ (h.next (hbW.trans ((below_regrown W0 d os).mono hbW.size)))).mono fun e w' hh => hh.ok hok
   have y0 := fun d os => cell_regrown (w := W0) x0 d os
   have y1 := fun d os => cell_regrown (w := W0) x1 d os
   have y2 := fun d os => cell_regrown (w := W0) x2 d os
   have y3 := fun d os => cell_regrown (w := W0) x3 d os
   have y4 := fun d os => cell_regrown (w := W0) x4 d os
   have y5 := fun d os => cell_regrown (w := W0) x5 d os
   have y6 := fun d os => cell_regrown (w := W0) x6 d os
   have y7 := fun d os => cell_regrown (w := W0) x7 d os
   have y8 := fun d os => cell_regrown (w := W0) x8 d os
   have HBW := Lib.hid hbW
   clear hbW hwl hok
   gi_wp2
   refine wp_round_below (by kernel_rfl) (by kernel_rfl) (fun h => by obtain ⟨_, _, h⟩ := h; exact h) (by kernel_rfl) ?_
   repeat (go_big_quiet_step (first | exact Calls.regrown_of (HOFH.out _) | exact Calls.regrown_of (HOPH.out _ _)))
   refine wpQuiet_nil ?_
   rintro _ ⟨pq, rfl⟩
   have hb4 := below_regrown W0 pq.d pq.os
   generalize Go.Sort.grow (redrawn W0 pq.d) pq.os = W4 at hb4 ⊢
   have hg4 : W0.grownBy W4 none := ⟨hb4.os, hb4.tape, hb4.output, hb4.size, fun k hk _ => hb4.block k hk⟩
   have hI4 := hI2.kept hg4 (fun r e => by cases e)
   have hKW4 := hKW.trans (KeepsOthers.of_grownBy hg4 (fun _ _ e => by cases e))
   have hw4 : w.heap.size + 4 < W0.heap.size := by
    have h9 := hKW.size; omega
   have hKC4 : KeepsC (w.heap.size + 3) W W4 := ⟨(hb4.block _ (by omega)).trans hKC.1, (hb4.block _ (by omega)).trans hKC.2⟩
   clear y0 y1 y2 y3 y4 y5 y6 y7 y8 x0 x1 x2 x3 x4 x5 x6 x7 x8
   gi_wp2
   refine ⟨hKW4.from _, hKC4, D, Lib.hid ?_, hI4, by have h9 := hKW4.size; omega⟩
   rw [List.length_append, HPL.out]
   have := HDN.out
   rw [if_neg (by decide)] at this
   exact this.symm
  ·have hwr : IntKind.i64.wrap ((D : Int) + 1) = ((D + 1 : Nat) : Int) := by have := HDN.out; simp only [if_pos] at this; rw [IntKind.wrap_i64]; omega
   gi_wp2
   refine wp_round_quiet (by kernel_rfl) (by kernel_rfl) (fun h => by obtain ⟨_, _, h⟩ := h; exact h) (by kernel_rfl) ?_
   repeat (go_big_quiet_step (fail))
   refine wpQuiet_nil ?_
   rintro _ ⟨nq, rfl⟩
   gi_wp2
   have hI2 : CaI w cs D (W.drewN nq) := HI.out.kept (grown_drewN W nq) (fun r e => by cases e)
   have hI3 := hI2.setDf (D' := D + 1)
   have hK3 := hI2.keepsC (D' := D + 1)
   refine ⟨((keeps_drewN W nq).trans (KeepsOthers.setCell (W.drewN nq) _ _)).from _, ⟨hK3.1, hK3.2⟩, D + 1, Lib.hid ?_, hI3, by simpa using hszW⟩
   rw [List.length_append, HPL.out]
   exact HDN.out.symm
end Go.Proofs.YtkpjdanfpolimaaGreat
end
section
namespace Go.Proofs.YtkpjdanfpolimaaGreat
open Go.RowKit Go.Shelf
theorem args3_ok (p : Prg) (f : Fn) (hf : f ∈ p.funs) (i : Ins) (hcap : i.args.length ≤ i.argC) (hr : 0 ≤ f.regs ∧ f.regs ≤ 32) (hfit : ∀ x ∈ i.args, -9223372036854775808 ≤ x ∧ x ≤ 9223372036854775807) (w : World) (h : Lies w w.heap.size p) (ha : Rd w w.heap.size 1 i.argA i.args.length (i64s i.args)) (hv : argsOk p f 3 i) :
  Calls Tryz.prog 127 #[ckVal p f, .int .i64 3, i.val] w (Ret (.int .i64 0) w) := by
 obtain ⟨⟨h0, h3, h18⟩, hall, hd⟩ := hv
 have HCS : Hid (∀ W, Below w.heap.size w W → Calls Tryz.prog 140 #[ckVal p f, .slice i.argA i.args.length i.argC] W (Ret (.int .i64 0) W)) := fun W hb =>
  cases_ok p f hf i.args i.argA i.argC hcap hfit hr h0 h3 h18 hall hd W (h.next hb) ((ha.below hb).more hb.size)
 obtain ⟨op, a, b, c, args, argA, argC⟩ := i
 unfold ckVal ckCells Ins.val Ins.cells
 dsimp only at HCS ⊢
 generalize args.length = N at HCS ⊢
 have hT := two_new w #[.slice p.funA p.funs.length p.funC, .slice p.obA p.obs.length p.obC, .slice p.vrA p.vrs.length p.vrC, .string f.name, .int .i64 f.params, .int .i64 f.regs, .int .i64 f.prio, .bool f.clean, .slice f.codeA f.code.length f.codeC] #[.int .i64 op, .int .i64 a, .int .i64 b, .int .i64 c, .slice argA N argC] 144 63
 clear h ha hall hd hfit hcap hr h0 h3 h18 hf
 go_enter Tryz.func127, Tryz.ntmps127
 go_wp2_with fail
 generalize World.alloc (World.alloc w _) _ = W1 at hT ⊢
 refine (HCS.out _ hT.below).mono ?_
 rintro e W4 ⟨rfl, hb4⟩
 go_wp2_with fail
 go_ret
 exact ⟨rfl, hT.below.trans (hb4.mono hT.below.size)⟩
theorem args_ok (p : Prg) (f : Fn) (hf : f ∈ p.funs) (g : Nat) (hg : g ≤ 3) (i : Ins) (hal : i.args.length ≤ maxLen) (hcap : i.args.length ≤ i.argC) (hr : 0 ≤ f.regs ∧ f.regs ≤ 32) (hfit : ∀ x ∈ i.args, -9223372036854775808 ≤ x ∧ x ≤ 9223372036854775807) (hb : g = 1 → inR2 i.b 0 ((p.funs.length : Int) - 1) = true) (w : World) (h : Lies w w.heap.size p) (ha : Rd w w.heap.size 1 i.argA i.args.length (i64s i.args)) (hv : argsOk p f g i) :
  Calls Tryz.prog 127 #[ckVal p f, .int .i64 (g : Nat), i.val] w (Ret (.int .i64 0) w) := by
 match g, hg with
 | 0, _ => exact (args0 p f i hal hr w h ha).mono fun _ _ hh => hh.ok hv
 | 1, _ => exact (args1 p f i hal hr (hb rfl) w h ha).mono fun _ _ hh => hh.ok hv
 | 2, _ => exact (args2 p f i hal hr w h ha).mono fun _ _ hh => hh.ok hv
 | 3, _ => exact args3_ok p f hf i hcap hr hfit w h ha hv
end Go.Proofs.YtkpjdanfpolimaaGreat
end
