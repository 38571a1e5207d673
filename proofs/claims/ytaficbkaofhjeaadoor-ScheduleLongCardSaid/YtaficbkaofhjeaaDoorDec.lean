/- schedule.Decode, walked. Conditions: the string is shorter than 2^61. -/
import Derived.Test.YtaficbkaofhjeaaDoorChunk
import Derived.Test.YtaficbkaofhjeaaDoorSchEnc
import Derived.Test.YtaficbkaofhjeaaDoorDecM
import Derived.Test.YtaficbkaofhjeaaDoorReadList
import Derived.Test.YtaficbkaofhjeaaDoorRound
namespace Go.Proofs.YtaficbkaofhjeaaDoor
open Go.RowKit Go.Shelf
attribute [local go_sem] Oper.semAt_some
attribute [local go_sem ↓] run_eql_ch

theorem chinfo : (Tryd.prog.info? 36).map (fun i => (i.zero, i.size, i.bytes)) = some (some (.agg #[.int .i64 0, .int .i64 0]), 2, 16) := by kernel_rfl
/-- Choices and an error are returned. -/
def RetD (r : List Ch × Int) (w : World) : Ending → World → Prop := fun e w' => ∃ A c, e = .returned (.tuple #[.slice A r.1.length c, .int .i64 r.2]) ∧ Chs w' w'.heap.size A r.1 ∧ r.1.length ≤ c ∧ Below w.heap.size w w'
theorem retD_no {r : List Ch × Int} {w w' : World} (h : r = ([], 12)) (hb : Below w.heap.size w w') : RetD r w (.returned (.tuple #[.slice none 0 0, .int .i64 12])) w' := by
  subst h; exact ⟨none, 0, rfl, Rd.nil_, Nat.le_refl _, hb⟩

theorem load_cell {P : Program} {w : World} {t : TypeId} {p : Addr} {v : Value} (ht : (isAgg t).run P w = .ok false w) (h : w.cell? p = some v) : (loadVar t p).run P w = .ok v w := by
  simp [loadVar, Sem.run_bind, ht, Result.andThen, go_sem, h]
theorem run_map' {P : Program} {α β : Type} (f : α → β) (m : Sem α) (w : World) : (f <$> m).run P w = (m.run P w).andThen fun a w => .ok (f a) w := by
  show (m >>= fun a => pure (f a)).run P w = _
  rw [Sem.run_bind]; rfl
theorem results_cell2 {fn : Func} {a b : Tmp} {t u : TypeId} (h : fn.results = #[.cell a t, .cell b u]) {tmps : Array Value} {P : Program} {w : World} {pa pb : Addr} {va vb : Value}
    (ha : tmps.getD a undef = .pointer (some pa)) (hb : tmps.getD b undef = .pointer (some pb)) (hva : (loadVar t pa).run P w = .ok va w) (hvb : (loadVar u pb).run P w = .ok vb w) :
    (results fn tmps).run P w = .ok (.tuple #[va, vb]) w := by
  have hx : (asAddr (.pointer (some pa))).run P w = .ok pa w := rfl
  have hy : (asAddr (.pointer (some pb))).run P w = .ok pb w := rfl
  have hp : ∀ {α : Type} (x : α) (w : World), (pure x : Sem α).run P w = .ok x w := fun _ _ => rfl
  unfold results
  rw [h]
  simp only [List.mapM_toArray, List.mapM_cons, List.mapM_nil, Sem.run_bind, run_map', ha, hb, hx, hy, hva, hvb, Result.andThen, hp]
  rfl

theorem decS_bad {L : List UInt8} {ns : List Int} {n : Nat} {e : Int} (h : rdList L = (ns, n, e)) (hb : e ≠ 0 ∨ n ≠ L.length ∨ ns.length % 3 ≠ 0) : decS L = ([], 12) := by
  unfold decS; rw [h, if_pos hb]
theorem decS_none {L : List UInt8} {ns : List Int} (h : rdList L = (ns, L.length, 0)) (hb : decN [] ns = none) : decS L = ([], 12) := by
  unfold decS; rw [h]; simp only [hb]; split <;> rfl
theorem decS_some {L : List UInt8} {ns : List Int} {l : List Ch} (h : rdList L = (ns, L.length, 0)) (h3 : ns.length % 3 = 0) (hb : decN [] ns = some l) : decS L = (l, 0) := by
  unfold decS; rw [h]; simp only [hb]; rw [if_neg (by simp [h3])]
theorem rdL_len (f : Nat) (t : List UInt8) : (rdL f t).1.length ≤ f := by
  induction f generalizing t with
  | zero => unfold rdL; split <;> (try split) <;> simp
  | succ f ih =>
    unfold rdL
    split
    · simp
    · split
      · simp
      · split
        · simp only []
          split
          · simp; exact ih _
          · simp
        · simp
theorem own_cap {w : World} {base e size n c : Nat} {A : Option Addr} {xs : List Value} (h : w.ownsRow base e size (.slice A n c) n xs) : n ≤ c := by
  rcases h.2 with ⟨_, rfl⟩ | ⟨g, cap, cur, hv, _, _, hc, _⟩
  · exact Nat.zero_le _
  · injection hv with _ _ h3; omega

/-- What holds while the decoder gathers choices: its boxes at p, p + 1 and o, the numbers, the choices so far. -/
def DecI (w0 : World) (p o : Nat) (ns : List Int) (A : Option Addr) (acc : List Ch) (W : World) : Prop :=
  (∃ v, Boxed W o 22 v ∧ W.ownsRow (o + 3) 36 2 v acc.length (chCells acc)) ∧ Boxed W p 22 (.slice none 0 0) ∧ Boxed W (p + 1) 24 (.int .i64 0) ∧ Below p w0 W ∧ o + 3 ≤ W.heap.size ∧ Rd W o 1 A ns.length (i64s ns)
theorem DecI.kept {w0 : World} {p o : Nat} {ns : List Int} {A : Option Addr} {acc : List Ch} {W W' : World} {row : Option Nat} (h : DecI w0 p o ns A acc W) (hp0 : p ≤ w0.heap.size) (hp : p + 2 ≤ o) (hg : W.grownBy W' row) (hr : ∀ r, row = some r → o + 3 ≤ r ∧ ∃ x : Obj, W.heap[r]? = some x ∧ x.isCells = false) : DecI w0 p o ns A acc W' := by
  obtain ⟨⟨v, hv, hown⟩, hb0, hb1, hbl, hsz, hrd⟩ := h
  have hne : ∀ k, k < o + 3 → some k ≠ row := fun k hk e => by have := (hr k e.symm).1; omega
  refine ⟨⟨v, hv.kept hg (hne o (by omega)), hown.kept hg ?_⟩, hb0.kept hg (hne p (by omega)), hb1.kept hg (hne (p + 1) (by omega)), hbl.grown hg (by have := hbl.size; omega) (fun k e => by have := (hr k e).1; omega), Nat.le_trans hsz hg.size, hrd.grown hg (by omega) (fun g e => by have := (hr g e).1; omega)⟩
  rcases hown.2 with ⟨rfl, _⟩ | ⟨g, cap, cur, rfl, _, hgb, _⟩
  · exact .inl rfl
  · refine .inr fun e => ?_
    obtain ⟨_, x, hx, hxc⟩ := hr g (by simpa [Value.ownBlock] using e.symm)
    rw [hgb] at hx; cases hx; cases hxc
/-- Where the decoder stands behind some parts. -/
def DecJ (w0 : World) (p o : Nat) (ns : List Int) (A : Option Addr) (pre : List Nat) (W : World) : Prop :=
  ∃ acc : List Ch, Hid (decN [] ns = decN acc (ns.drop (3 * pre.length))) ∧ acc.length ≤ 2000 ∧ DecI w0 p o ns A acc W
/-- It gave up. -/
def DecX (w0 : World) (p : Nat) (ns : List Int) (c : Code) (_ : List Nat) (W : World) : Prop :=
  c = .ret ∧ Hid (decN [] ns = none) ∧ Boxed W p 22 (.slice none 0 0) ∧ Boxed W (p + 1) 24 (.int .i64 12) ∧ Below p w0 W
theorem decJ_own {w0 : World} {p o : Nat} {ns : List Int} {A : Option Addr} (hp0 : p ≤ w0.heap.size) (hp : p + 2 ≤ o) : OwnFrom (o + 3) (DecJ w0 p o ns A) :=
  fun _ _ _ _ hs hg hr => by obtain ⟨acc, h1, h2, h3⟩ := hs; exact ⟨acc, h1, h2, h3.kept hp0 hp hg hr⟩
theorem decX_own {w0 : World} {p o : Nat} {ns : List Int} {c : Code} (hp0 : p ≤ w0.heap.size) (hp : p + 2 ≤ o) : OwnFrom (o + 3) (DecX w0 p ns c) :=
  fun _ _ _ row hs hg hr => by
    obtain ⟨h1, h2, h3, h4, h5⟩ := hs
    have hne : ∀ k, k < o + 3 → some k ≠ row := fun k hk e => by have := (hr k e.symm).1; omega
    exact ⟨h1, h2, h3.kept hg (hne p (by omega)), h4.kept hg (hne (p + 1) (by omega)), h5.grown hg (by have := h5.size; omega) (fun k e => by have := (hr k e).1; omega)⟩

theorem wpListIn_append_at {F : Fence} {n : Nat} {P : Program} (w : World) {ops : Array Oper} {rest : List Oper} {o : Oper} {a : Act} {Q : Exit → Act → World → Prop}
    (hg : o.guard = none) (s x : Operand) (t : TypeId) (hop : o.op = Op.call { callee := Callee.builtin Builtin.append, args := #[s, x], argTypes := #[t, t] })
    (base : Nat) (e : TypeId) (i : TypeInfo) (z : Value) (size bytes : Nat) (h1 : P.underlying t = some (.slice e)) (h2 : P.info? e = some i) (h3 : i.zero = some z) (h4 : i.size = size) (h5 : i.bytes = bytes) (h6 : z.cells.size = size) (h7 : 0 < size)
    (v : Value) (k : Nat) (xs : List Value) (hs : a.eval s = v) (hown : w.ownsRow base e size v k xs) (ad : Addr) (m c : Nat) (news : List Value) (hx : a.eval x = .slice (some ad) m c) (hn : news.length = m * size)
    (hc : ∀ j u, news[j]? = some u → w.cell? (ad.add j) = some u) (h1c : ∀ u ∈ news, u.oneCell' = true) (b1 : k + m ≤ maxLen) (b2 : (k + m) * bytes ≤ 140737488355328) (b3 : base ≤ w.heap.size)
    (hK : ∀ v' w', w'.ownsRow base e size v' (k + m) (xs ++ news) → w.grownBy w' v.ownBlock → (v'.ownBlock = v.ownBlock ∨ v'.ownBlock = some w.heap.size) → wpListIn F n P ops Q rest (a.put o.dst v') w') :
    wpListIn F n P ops Q (o :: rest) a w := by
  refine wpListIn_plain hg fun K hK' => ?_
  obtain ⟨v', w', hrun, r1, r2, _, r3⟩ := run_append_own_at (P := P) w base t o.type e i z size bytes h1 h2 h3 h4 h5 h6 h7 v k xs hown ad m c news hn hc h1c b1 b2 b3
  unfold Oper.wpIn
  refine ⟨?_, ?_⟩
  · simp [Oper.about, hop, resolve, Target.leads, Sem.run_pure]
  · rw [Oper.semAt_plain F _ _ (by rw [hop]; intro c hc'; cases hc')]
    simp [execOp, hop, resolve, invoke, builtin, hs, hx, hrun, Result.andThen]
    exact hK' _ _ (hK v' w' r1 r2 r3)
/-- What holds while the choices of one run are appended: the boxes, the choice's own block q, the choices so far. -/
def DecL (w0 : World) (p o q : Nat) (ns : List Int) (A : Option Addr) (t d : Int) (W : World) (acc : List Ch) (wr : World) : Prop :=
  (∃ v, Boxed wr o 22 v ∧ wr.ownsRow (o + 3) 36 2 v acc.length (chCells acc) ∧ v.ownBlock ≠ some q) ∧ Boxed wr p 22 (.slice none 0 0) ∧ Boxed wr (p + 1) 24 (.int .i64 0) ∧ Below p w0 wr ∧
    wr.heap[q]? = some (.cells #[.int .i64 t, .int .i64 d] 36 (0, 0)) ∧ Rd wr o 1 A ns.length (i64s ns) ∧ KeepsOthers W wr ∧ KeepsC (o + 1) W wr
theorem own_chs {w : World} {base n : Nat} {v : Value} {xs : List Value} {l : List Ch} (hn : n = l.length) (hx : xs = chCells l) (h : w.ownsRow base 36 2 v n xs) : w.ownsRow base 36 2 v l.length (chCells l) := by
  subst hn; subst hx; exact h
theorem decX_end' {w0 : World} {p : Nat} {ns : List Int} {pre : List Nat} {W4 : World} (hn : decN [] ns = none) (h0 : Boxed W4 p 22 (.slice none 0 0)) (h1 : Boxed W4 (p + 1) 24 (.int .i64 0)) (hb : Below p w0 W4) :
    DecX w0 p ns .ret pre ((W4.setCell ⟨p, 0, none⟩ (.slice none 0 0)).setCell ⟨p + 1, 0, none⟩ (.int .i64 12)) :=
  ⟨rfl, Lib.hid hn, Boxed.other (Boxed.set _ h0) (by omega) _, Boxed.set _ (Boxed.other h1 (by omega) _), (hb.setCell (p := ⟨p, 0, none⟩) (Nat.le_refl _) (.slice none 0 0)).setCell (p := ⟨p + 1, 0, none⟩) (Nat.le_succ _) (.int .i64 12)⟩
theorem keeps_end' (W4 : World) (a b : Addr) (u v : Value) : KeepsOthers W4 ((W4.setCell a u).setCell b v) := (KeepsOthers.setCell W4 a u).trans (KeepsOthers.setCell _ b v)
theorem decX_end {w0 : World} {p : Nat} {ns : List Int} {pre : List Nat} {W4 : World} (hn : decN [] ns = none) (h0 : Boxed W4 p 22 (.slice none 0 0)) (h1 : Boxed W4 (p + 1) 24 (.int .i64 0)) (hb : Below p w0 W4) :
    DecX w0 p ns .ret pre ((W4.setCell ⟨p, 0, none⟩ (.slice none 0 0)).setCell ⟨p + 1, 0, none⟩ (.int .i64 12)).drew := by
  have hb' := (hb.setCell (p := ⟨p, 0, none⟩) (Nat.le_refl _) (.slice none 0 0)).setCell (p := ⟨p + 1, 0, none⟩) (Nat.le_succ _) (.int .i64 12)
  refine ⟨rfl, Lib.hid hn, ?_, ?_, ⟨hb'.os, hb'.tape, hb'.output, hb'.size, hb'.block⟩⟩
  · exact Boxed.other (Boxed.set _ h0) (by omega) _
  · exact Boxed.set _ (Boxed.other h1 (by omega) _)
theorem keeps_end (W4 : World) (a b : Addr) (u v : Value) : KeepsOthers W4 ((W4.setCell a u).setCell b v).drew := ((KeepsOthers.setCell W4 a u).trans (KeepsOthers.setCell _ b v)).trans (KeepsOthers.drew _)
theorem runOk_small {acc : List Ch} {n : Int} {c : Ch} (h : n < 1) : runOk acc n c = false := by simp [runOk]; omega
theorem runOk_great {acc : List Ch} {n : Int} {c : Ch} (h : 2000 - (acc.length : Int) < n) : runOk acc n c = false := by simp [runOk]; omega
theorem runOk_bad {acc : List Ch} {n : Int} {c : Ch} (h : validB c = false) : runOk acc n c = false := by simp [runOk, h]
theorem runOk_same {acc : List Ch} {n : Int} {c : Ch} (h : acc.getLast? = some c) : runOk acc n c = false := by simp [runOk, h]
theorem runOk_fine {acc : List Ch} {n : Int} {c : Ch} (h1 : ¬ n < 1) (h2 : ¬ 2000 - (acc.length : Int) < n) (h3 : validB c = true) (h4 : acc.getLast? ≠ some c) : runOk acc n c = true := by
  simp [runOk, h3]; exact ⟨by omega, h4⟩

set_option linter.unusedSimpArgs false in
set_option maxRecDepth 100000 in
set_option maxHeartbeats 3200000 in
theorem dec_any (L : List UInt8) (hs : L.length < 2305843009213693952) (w : World) :
    Calls Tryd.prog 9 #[.string ⟨L.toArray⟩] w (RetD (decS L) w) := by
  obtain ⟨i0, hi, hz0, hz1, hz2⟩ := info_parts chinfo
  have hF : ∀ f, Fence.wide.fn f := fun _ => trivial
  have hf1 := hF 9
  have hf2 := hF 22
  have hf3 := hF 23
  have hf4 := hF 24
  obtain ⟨s, hsL⟩ : ∃ s : ByteArray, s = ⟨L.toArray⟩ := ⟨_, rfl⟩
  have hsz : s.size = L.length := by rw [hsL]; simp [ByteArray.size]
  rw [← hsL]
  have HSL := Lib.hid hsL
  clear hsL
  refine (callsIn_wide (n := 3)).1 ?_
  refine callsIn_of_wp_marks Tryd.func9 rfl trivial ?_ rfl
  simp only [Tryd.ntmps9, List.size_toArray, List.length_cons, List.length_nil, Nat.reduceAdd, Nat.reduceSub, Array.replicate_succ, Array.replicate_zero, List.push_toArray, List.append_toArray, List.nil_append, List.cons_append]
  have b0 := ((Boxed.new w 22 (.slice none 0 0)).alloc (.cells #[.int .i64 0] 24))
  have b1 := (Boxed.new (w.alloc (.cells #[.slice none 0 0] 22)) 24 (.int .i64 0))
  rw [World.size_alloc] at b1
  have hcall := readList_any L hs ((w.alloc (.cells #[.slice none 0 0] 22)).alloc (.cells #[.int .i64 0] 24))
  rw [← HSL.out] at hcall
  have HCALL := Lib.hid hcall
  clear hcall
  gi_wp2
  refine (callsIn_wide.2 HCALL.out).mono ?_
  rintro e w1 ⟨v, rfl, hown, hb1⟩
  obtain ⟨⟨ns, n, e0⟩, hr⟩ : ∃ r, rdList L = r := ⟨_, rfl⟩
  rw [hr] at hown ⊢
  dsimp only at hown ⊢
  obtain ⟨A, c, rfl⟩ := own_form hown
  have b0' := (hb1.block w.heap.size (by simp; omega)).trans b0
  have b1' := (hb1.block (w.heap.size + 1) (by simp)).trans b1
  have hb : Below w.heap.size w w1 := (((below_alloc w _).alloc (by simp) _).trans (hb1.mono (by simp; omega)))
  have hnl : ns.length ≤ 20000 := by have := rdL_len 20000 L; rw [show rdL 20000 L = rdList L from rfl, hr] at this; exact this
  have HR := Lib.hid hr
  have c0 := Boxed.cell b0'
  have c1 := Boxed.cell b1'
  have f0 := Boxed.frozen b0'
  have f1 := Boxed.frozen b1'
  have hB0 : Boxed ((w1.setCell ⟨w.heap.size, 0, none⟩ (.slice none 0 0)).setCell ⟨w.heap.size + 1, 0, none⟩ (.int .i64 12)) w.heap.size 22 (.slice none 0 0) := Boxed.other (Boxed.set _ b0') (by omega) _
  have hB1 : Boxed ((w1.setCell ⟨w.heap.size, 0, none⟩ (.slice none 0 0)).setCell ⟨w.heap.size + 1, 0, none⟩ (.int .i64 12)) (w.heap.size + 1) 24 (.int .i64 12) := Boxed.set _ (Boxed.other b1' (by omega) _)
  have hb2 : Below w.heap.size w ((w1.setCell ⟨w.heap.size, 0, none⟩ (.slice none 0 0)).setCell ⟨w.heap.size + 1, 0, none⟩ (.int .i64 12)) := (hb.setCell (Nat.le_refl _) _).setCell (Nat.le_succ _) _
  clear hb1 b0 b1 hr HCALL
  by_cases he : e0 = 0
  · subst he
    by_cases hn : n = L.length
    · subst hn
      have hn1 : ((L.length : Int) != (L.length : Int)) = false := by simp
      by_cases h3 : ns.length % 3 = 0
      · gi_wp2
        refine (chunk_in 2 A ns.length c _).mono ?_
        rintro e w2 ⟨rfl, rfl⟩
        gi_wp2
        have hcap := own_cap hown
        have hrd0 : Rd w1 w1.heap.size 1 A ns.length (i64s ns) := Rd.of_own hown
        have bO := Boxed.new w1 22 (.slice none 0 0)
        have bS := Boxed.new (w1.alloc (.cells #[.slice none 0 0] 22)) 39 (.slice A ns.length c)
        have bN := Boxed.new ((w1.alloc (.cells #[.slice none 0 0] 22)).alloc (.cells #[.slice A ns.length c] 39)) 3 (.int .i64 3)
        simp only [World.size_alloc] at bO bS bN
        have hps : w.heap.size + 2 ≤ w1.heap.size := by have := hb.size; have := b1'; have := (Array.getElem?_eq_some_iff.1 b1').1; omega
        obtain ⟨N, hN⟩ : ∃ N, ns.length = 3 * N := ⟨ns.length / 3, by omega⟩
        have hN6 : N < 1000000 := by omega
        have HN := Lib.hid hN
        clear hN
        refine wpIn_rangeFunc_ab rfl (by omega) (gf := 41) (lb := #[.pointer (some ⟨w1.heap.size + 1, 0, none⟩), .pointer (some ⟨w1.heap.size + 1 + 1, 0, none⟩)]) rfl trivial (enters_of Tryd.func41 (by kernel_rfl) rfl)
          (chunk_stops 2 (by omega) (w1.heap.size + 1) A c N ns.length HN.out hcap hN6 _ (bS.alloc _) bN)
          (fun h k => ⟨k.1.trans h.1, k.2.trans h.2⟩) (fun W k o o' hk _ _ _ => ⟨World.putObj_heap_other (by simp at hk; omega), World.putObj_heap_other (by simp at hk; omega)⟩) (Below.refl _ _) (fun _ => rfl)
          (fun A' B' k o hab hk ho _ => (hab.block k (Array.getElem?_eq_some_iff.1 ho).1 (by simp)).trans ho)
          (DecJ w w.heap.size w1.heap.size ns A) (DecX w w.heap.size ns)
          (by simp only [World.size_alloc]; exact decJ_own (Nat.le_refl _) hps) (fun _ => by simp only [World.size_alloc]; exact decX_own (Nat.le_refl _) hps)
          (fun pre A' B' hs hab => by obtain ⟨acc, h1, h2, h3⟩ := hs; exact ⟨acc, h1, h2, h3.kept (Nat.le_refl _) hps hab (fun r e => by cases e)⟩)
          (fun c' pre A' B' hs hab => by
            obtain ⟨h1, h2, h3, h4, h5⟩ := hs
            exact ⟨h1, h2, h3.kept hab (by simp), h4.kept hab (by simp), h5.grown hab h5.size (fun k e => by cases e)⟩)
          ⟨[], Lib.hid (by simp), by simp, ⟨_, (bO.alloc _).alloc _, World.ownsRow_nil _ _ _ _⟩, ?b0, ?b1, ?bl, by simp, ?rd⟩
          (fun x a' _ => a' = { tmps := #[.string s, undef, .pointer (some ⟨w.heap.size, 0, none⟩), .pointer (some ⟨w.heap.size + 1, 0, none⟩), .slice A ns.length c, .int .i64 (L.length : Nat), .int .i64 0, .pointer (some ⟨w1.heap.size, 0, none⟩), chunkAt A (3 * x), undef, undef, Value.tuple #[Value.slice A ns.length c, Value.int IntKind.i64 (L.length : Nat), Value.int IntKind.i64 0], .string s, Value.tuple #[Value.slice A ns.length c, Value.int IntKind.i64 (L.length : Nat), Value.int IntKind.i64 0], .slice A ns.length c, .int .i64 (L.length : Nat), .int .i64 0, .int .i64 0, .bool false, .bool false, .int .i64 (L.length : Nat), .string s, .int .i64 (L.length : Nat), .bool false, .bool false, .bool false, .slice A ns.length c, .int .i64 (ns.length : Nat), .int .i64 ((ns.length : Nat) % 3), .bool false, .bool false, .slice A ns.length c, .func (.func 41) #[] #[.pointer (some ⟨w1.heap.size + 1, 0, none⟩), .pointer (some ⟨w1.heap.size + 1 + 1, 0, none⟩)], chunkAt A (3 * x), undef, undef, undef, undef, undef, undef, undef, undef, undef, undef, undef, undef, undef, undef, undef, undef, undef, undef, undef, undef, undef, undef, undef, undef, undef, undef, undef, undef, undef, undef, undef, undef, undef, undef, undef, undef, undef, undef, undef, undef, undef, undef, undef, undef, undef, undef, undef, undef], defers := [] })
          (fun _ _ _ _ _ hs _ _ => hs) ?assign ?body ?done ?stop
        case b0 => exact ((Boxed.alloc b0' _).alloc _).alloc _
        case b1 => exact ((Boxed.alloc b1' _).alloc _).alloc _
        case bl => exact ((hb.alloc hb.size _).alloc (by have := hb.size; simp; omega) _).alloc (by have := hb.size; simp; omega) _
        case rd => exact ((hrd0.alloc (Nat.le_refl _) _).alloc (by simp) _).alloc (by simp; omega) _
        case assign =>
          rintro l pre x W K hJ hK
          gi_wp2
          exact hK _ _ (KeepsFrom.refl _ _) ⟨rfl, rfl⟩ hJ rfl
        case body =>
          rintro l pre x a' W ⟨acc, hdec, hal, hI⟩ rfl ⟨hpre, hx⟩
          have hsz : w1.heap.size + 3 ≤ W.heap.size := hI.2.2.2.2.1
          have hrd : Rd W w1.heap.size 1 A ns.length (i64s ns) := hI.2.2.2.2.2
          obtain ⟨b, off, hA, hbo, hcells⟩ := hrd.addr (by have := HN.out; omega)
          have hi3 : 3 * x + 3 ≤ ns.length := by have := HN.out; omega
          obtain ⟨y, hy⟩ : ∃ y, y = off + 3 * x := ⟨_, rfl⟩
          obtain ⟨n, hn⟩ : ∃ n, n = ns[3 * x] := ⟨_, rfl⟩
          obtain ⟨t, ht⟩ : ∃ t, t = ns[3 * x + 1] := ⟨_, rfl⟩
          obtain ⟨d, hd⟩ : ∃ d, d = ns[3 * x + 2] := ⟨_, rfl⟩
          have g0 : W.cell? ⟨b, y, none⟩ = some (.int .i64 n) := by rw [hy, hn]; exact hcells (3 * x) _ (i64s_at _ _ (by omega))
          have g1 : W.cell? ⟨b, y + 1, none⟩ = some (.int .i64 t) := by rw [hy, ht, Nat.add_assoc]; exact hcells (3 * x + 1) _ (i64s_at _ _ (by omega))
          have g2 : W.cell? ⟨b, y + 2, none⟩ = some (.int .i64 d) := by rw [hy, hd, Nat.add_assoc]; exact hcells (3 * x + 2) _ (i64s_at _ _ (by omega))
          have hch : chunkAt A (3 * x) = .slice (some ⟨b, y, none⟩) 3 3 := by rw [hA, hy]; simp [chunkAt, Addr.add]
          have hdr : decN acc (ns.drop (3 * x)) = decN acc (n :: t :: d :: ns.drop (3 * (x + 1))) := by rw [drop3 hi3, hn, ht, hd]
          have hpl : pre.length = x := by rw [hpre]; simp
          have HD : Hid (decN [] ns = decN acc (n :: t :: d :: ns.drop (3 * (x + 1)))) := by
            show _ = _
            rw [hdec.out, hpl, hdr]
          have hbW : b < W.heap.size := by omega
          rw [hch]
          clear hy hn ht hd hdr hch hcells hdec hpre hA
          -- ROUND
          gi_wp2
          refine wp_region_round (S := fun w' => w'.cell? ⟨b, y, none⟩ = some (.int .i64 n) ∧ w'.cell? ⟨b, y + 1, none⟩ = some (.int .i64 t) ∧ w'.cell? ⟨b, y + 2, none⟩ = some (.int .i64 d)) (by kernel_rfl) (by kernel_rfl) (fun h => by obtain ⟨_, _, h⟩ := h; exact h) ⟨g0, g1, g2⟩ (fun hHeld => ?_)
          refine wpAnyH_take (i := 0) (v := ?_) rfl (by kernel_rfl) (by kernel_rfl) (by kernel_rfl) (fun _ _ _ h => h) (Or.inl ⟨by kernel_rfl, ?_⟩) (by assumption) ?_
          rotate_left
          · intro w hSw; (try dsimp only at hSw); go_simp; with_reducible rfl
          try simp only [List.getElem_toArray, List.getElem_cons_succ, List.getElem_cons_zero, Act.put, List.setIfInBounds_toArray, List.set_cons_zero, List.set_cons_succ]
          refine wpAnyH_take (i := 1) (v := ?_) rfl (by kernel_rfl) (by kernel_rfl) (by kernel_rfl) (fun _ _ _ h => h) (Or.inl ⟨by kernel_rfl, ?_⟩) (by assumption) ?_
          rotate_left
          · intro w hSw; (try dsimp only at hSw); go_simp; with_reducible rfl
          try simp only [List.getElem_toArray, List.getElem_cons_succ, List.getElem_cons_zero, Act.put, List.setIfInBounds_toArray, List.set_cons_zero, List.set_cons_succ]
          refine wpAnyH_take (i := 2) (v := ?_) rfl (by kernel_rfl) (by kernel_rfl) (by kernel_rfl) (fun _ _ _ h => h) (Or.inl ⟨by kernel_rfl, ?_⟩) (by assumption) ?_
          rotate_left
          · intro w hSw; (try dsimp only at hSw); go_simp; with_reducible rfl
          try simp only [List.getElem_toArray, List.getElem_cons_succ, List.getElem_cons_zero, Act.put, List.setIfInBounds_toArray, List.set_cons_zero, List.set_cons_succ]
          refine wpAnyH_take (i := 3) (v := ?_) rfl (by kernel_rfl) (by kernel_rfl) (by kernel_rfl) (fun _ _ _ h => h) (Or.inl ⟨by kernel_rfl, ?_⟩) (by assumption) ?_
          rotate_left
          · intro w hSw; (try dsimp only at hSw); go_simp; with_reducible rfl
          try simp only [List.getElem_toArray, List.getElem_cons_succ, List.getElem_cons_zero, Act.put, List.setIfInBounds_toArray, List.set_cons_zero, List.set_cons_succ]
          refine wpAnyH_take (i := 4) (v := ?_) rfl (by kernel_rfl) (by kernel_rfl) (by kernel_rfl) (fun _ _ _ h => h) (Or.inl ⟨by kernel_rfl, ?_⟩) (by assumption) ?_
          rotate_left
          · intro w hSw; (try dsimp only at hSw); go_simp; with_reducible rfl
          try simp only [List.getElem_toArray, List.getElem_cons_succ, List.getElem_cons_zero, Act.put, List.setIfInBounds_toArray, List.set_cons_zero, List.set_cons_succ]
          refine wpAnyH_take (i := 5) (v := ?_) rfl (by kernel_rfl) (by kernel_rfl) (by kernel_rfl) (fun _ _ _ h => h) (Or.inl ⟨by kernel_rfl, ?_⟩) (by assumption) ?_
          rotate_left
          · intro w hSw; (try dsimp only at hSw); go_simp; with_reducible rfl
          try simp only [List.getElem_toArray, List.getElem_cons_succ, List.getElem_cons_zero, Act.put, List.setIfInBounds_toArray, List.set_cons_zero, List.set_cons_succ]
          refine wpAnyH_take (i := 6) (v := ?_) rfl (by kernel_rfl) (by kernel_rfl) (by kernel_rfl) (fun _ _ _ h => h) (Or.inl ⟨by kernel_rfl, ?_⟩) (by assumption) ?_
          rotate_left
          · intro w hSw; (try dsimp only at hSw); go_simp; with_reducible rfl
          try simp only [List.getElem_toArray, List.getElem_cons_succ, List.getElem_cons_zero, Act.put, List.setIfInBounds_toArray, List.set_cons_zero, List.set_cons_succ]
          refine wpAnyH_take (i := 7) (v := ?_) rfl (by kernel_rfl) (by kernel_rfl) (by kernel_rfl) (fun _ _ _ h => h) (Or.inl ⟨by kernel_rfl, ?_⟩) (by assumption) ?_
          rotate_left
          · intro w hSw; (try dsimp only at hSw); go_simp; with_reducible rfl
          try simp only [List.getElem_toArray, List.getElem_cons_succ, List.getElem_cons_zero, Act.put, List.setIfInBounds_toArray, List.set_cons_zero, List.set_cons_succ]
          refine wpAnyH_take (i := 8) (v := ?_) rfl (by kernel_rfl) (by kernel_rfl) (by kernel_rfl) (fun _ _ _ h => h) (Or.inl ⟨by kernel_rfl, ?_⟩) (by assumption) ?_
          rotate_left
          · intro w hSw; (try dsimp only at hSw); go_simp; with_reducible rfl
          try simp only [List.getElem_toArray, List.getElem_cons_succ, List.getElem_cons_zero, Act.put, List.setIfInBounds_toArray, List.set_cons_zero, List.set_cons_succ]
          refine wpAnyH_take (i := 9) (v := ?_) rfl (by kernel_rfl) (by kernel_rfl) (by kernel_rfl) (fun _ _ _ h => h) (Or.inl ⟨by kernel_rfl, ?_⟩) (by assumption) ?_
          rotate_left
          · intro w hSw; (try dsimp only at hSw); go_simp; with_reducible rfl
          try simp only [List.getElem_toArray, List.getElem_cons_succ, List.getElem_cons_zero, Act.put, List.setIfInBounds_toArray, List.set_cons_zero, List.set_cons_succ]
          refine wpAnyH_ready (rs := [10]) (by kernel_rfl) (by simp) ?_
          refine AllReadyH.cons rfl (fun K hK => ?_) AllReadyH.nil
          go_simp
          refine hK.out _ _ ?_ (fun hHeld => ?_)
          · exact ⟨(World.cell?_alloc_lt W _ ⟨b, y, none⟩ hbW).trans g0, (World.cell?_alloc_lt W _ ⟨b, y + 1, none⟩ hbW).trans g1, (World.cell?_alloc_lt W _ ⟨b, y + 2, none⟩ hbW).trans g2⟩
          clear hK K
          try simp only [List.getElem_toArray, List.getElem_cons_succ, List.getElem_cons_zero, Act.put, List.setIfInBounds_toArray, List.set_cons_zero, List.set_cons_succ]
          refine wpAnyH_take (i := 11) (v := ?_) rfl (by kernel_rfl) (by kernel_rfl) (by kernel_rfl) (fun _ _ _ h => h) (Or.inl ⟨by kernel_rfl, ?_⟩) (by assumption) ?_
          rotate_left
          · intro w hSw; (try dsimp only at hSw); go_simp; with_reducible rfl
          try simp only [List.getElem_toArray, List.getElem_cons_succ, List.getElem_cons_zero, Act.put, List.setIfInBounds_toArray, List.set_cons_zero, List.set_cons_succ]
          refine wpAnyH_ready (rs := [12]) (by kernel_rfl) (by simp) ?_
          refine AllReadyH.cons rfl (fun K hK => ?_) AllReadyH.nil
          go_simp
          refine hK.out _ _ ?_ (fun hHeld => ?_)
          · exact ⟨(World.cell?_alloc_lt W _ ⟨b, y, none⟩ hbW).trans g0, (World.cell?_alloc_lt W _ ⟨b, y + 1, none⟩ hbW).trans g1, (World.cell?_alloc_lt W _ ⟨b, y + 2, none⟩ hbW).trans g2⟩
          clear hK K
          try simp only [List.getElem_toArray, List.getElem_cons_succ, List.getElem_cons_zero, Act.put, List.setIfInBounds_toArray, List.set_cons_zero, List.set_cons_succ]
          refine wpAnyH_done (by kernel_rfl) ?_ _
          have hg3 : W.grownBy (W.alloc (.cells #[.int .i64 t, .int .i64 d] 36)).drew none := World.grownBy.trans (World.grownBy_alloc W _ none) ⟨rfl, rfl, rfl, Nat.le_refl _, fun _ _ _ => rfl⟩
          have hbl3 : Below W.heap.size W (W.alloc (.cells #[.int .i64 t, .int .i64 d] 36)).drew := ⟨hg3.os, hg3.tape, hg3.output, hg3.size, fun k hk => hg3.block k hk (by simp)⟩
          obtain ⟨⟨v3, hvW, hrW⟩, hq0W, hq1W, hbbW, _, hrdW⟩ := hI
          have hvq : v3.ownBlock ≠ some W.heap.size := fun e => by have := (World.ownsRow.lt hrW _ e).2; omega
          have hv := hvW.kept hg3 (by simp)
          have hr := own_row_below hrW hbl3
          have hq0 := hq0W.kept hg3 (by simp)
          have hq1 := hq1W.kept hg3 (by simp)
          have hbb : Below w.heap.size w (W.alloc (.cells #[.int .i64 t, .int .i64 d] 36)).drew := hbbW.grown hg3 hbbW.size (fun k e => by cases e)
          have hrd3 : Rd (W.alloc (.cells #[.int .i64 t, .int .i64 d] 36)).drew w1.heap.size 1 A ns.length (i64s ns) := hrdW.grown hg3 (by omega) (fun g e => by cases e)
          have hsz3 : w1.heap.size + 3 ≤ (W.alloc (.cells #[.int .i64 t, .int .i64 d] 36)).drew.heap.size := Nat.le_trans hsz hg3.size
          have hKf : KeepsOthers W (W.alloc (.cells #[.int .i64 t, .int .i64 d] 36)).drew := (KeepsOthers.alloc W _).trans (KeepsOthers.drew _)
          have hKc : KeepsC (w1.heap.size + 1) W (W.alloc (.cells #[.int .i64 t, .int .i64 d] 36)).drew := ⟨Below.heap_alloc _ _ _ (by omega), Below.heap_alloc _ _ _ (by omega)⟩
          have k0 : (W.alloc (.cells #[.int .i64 t, .int .i64 d] 36)).drew.cell? ⟨W.heap.size, 0, none⟩ = some (.int .i64 t) := by show (W.alloc _).cell? _ = _; simp only [World.cell?, World.alloc_heap_new]; rfl
          have k1 : (W.alloc (.cells #[.int .i64 t, .int .i64 d] 36)).drew.cell? ⟨W.heap.size, 1, none⟩ = some (.int .i64 d) := by show (W.alloc _).cell? _ = _; simp only [World.cell?, World.alloc_heap_new]; rfl
          have hblk : (W.alloc (.cells #[.int .i64 t, .int .i64 d] 36)).drew.heap[W.heap.size]? = some (.cells #[.int .i64 t, .int .i64 d] 36 (0, 0)) := World.alloc_heap_new W _
          have hq3 : W.heap.size < (W.alloc (.cells #[.int .i64 t, .int .i64 d] 36)).drew.heap.size := by show _ < (W.alloc _).heap.size; simp
          obtain ⟨W3, hW3⟩ : ∃ W3, (W.alloc (.cells #[.int .i64 t, .int .i64 d] 36)).drew = W3 := ⟨_, rfl⟩
          clear hg3 hbl3
          rw [hW3] at hv hr hq0 hq1 hbb hrd3 hsz3 hKf hKc k0 k1 hq3 hblk ⊢
          obtain ⟨q, hq⟩ : ∃ q, W.heap.size = q := ⟨_, rfl⟩
          rw [hq] at k0 k1 hq3 hsz hbW hblk hvq ⊢
          have HQ := Lib.hid hq
          clear hq
          clear hvW hrW hq0W hq1W hbbW hrdW hrd hW3 g0 g1 g2
          obtain ⟨A2, c2, rfl⟩ := own_form hr
          have ho0 := hv.cell
          have hp0 := hq0.cell
          have hp1 := hq1.cell
          have hfz0 := hv.frozen
          have hfz1 := hq0.frozen
          have hfz2 := hq1.frozen
          have hwr : IntKind.i64.wrap (2000 - (acc.length : Int)) = 2000 - (acc.length : Int) := IntWalk.i64_in _ (by omega)
          have hal2 : acc.length ≤ maxLen := by unfold maxLen; omega
          by_cases hn1 : n < 1
          · have hd1 : decide (n < 1) = true := by simpa using hn1
            gi_wp2
            refine wp_region_round (S := fun w' => w'.cell? ⟨w1.heap.size, 0, none⟩ = some (.slice A2 acc.length c2) ∧ w'.cell? ⟨q, 0, none⟩ = some (.int .i64 t) ∧ w'.cell? ⟨q, 1, none⟩ = some (.int .i64 d)) (by kernel_rfl) (by kernel_rfl) (fun h => by obtain ⟨_, _, h⟩ := h; exact h) ⟨hv.cell, k0, k1⟩ (fun hHeld => ?_)
            refine wpAnyH_take (i := 0) (v := ?_) rfl (by kernel_rfl) (by kernel_rfl) (by kernel_rfl) (fun _ _ _ h => h) (Or.inl ⟨by kernel_rfl, ?_⟩) (by assumption) ?_
            rotate_left
            · intro w hSw; (try dsimp only at hSw); go_simp; with_reducible rfl
            try simp only [List.getElem_toArray, List.getElem_cons_succ, List.getElem_cons_zero, Act.put, List.setIfInBounds_toArray, List.set_cons_zero, List.set_cons_succ]
            refine wpAnyH_take (i := 1) (v := ?_) rfl (by kernel_rfl) (by kernel_rfl) (by kernel_rfl) (fun _ _ _ h => h) (Or.inl ⟨by kernel_rfl, ?_⟩) (by assumption) ?_
            rotate_left
            · intro w hSw; (try dsimp only at hSw); go_simp; with_reducible rfl
            try simp only [List.getElem_toArray, List.getElem_cons_succ, List.getElem_cons_zero, Act.put, List.setIfInBounds_toArray, List.set_cons_zero, List.set_cons_succ]
            refine wpAnyH_take (i := 2) (v := ?_) rfl (by kernel_rfl) (by kernel_rfl) (by kernel_rfl) (fun _ _ _ h => h) (Or.inl ⟨by kernel_rfl, ?_⟩) (by assumption) ?_
            rotate_left
            · intro w hSw; (try dsimp only at hSw); go_simp; with_reducible rfl
            try simp only [List.getElem_toArray, List.getElem_cons_succ, List.getElem_cons_zero, Act.put, List.setIfInBounds_toArray, List.set_cons_zero, List.set_cons_succ]
            refine wpAnyH_take (i := 3) (v := undef) rfl (by kernel_rfl) (by kernel_rfl) (by kernel_rfl) (fun _ _ _ h => h) (Or.inr ⟨by kernel_rfl, rfl⟩) (by assumption) ?_
            try simp only [List.getElem_toArray, List.getElem_cons_succ, List.getElem_cons_zero, Act.put, List.setIfInBounds_toArray, List.set_cons_zero, List.set_cons_succ]
            refine wpAnyH_take (i := 4) (v := undef) rfl (by kernel_rfl) (by kernel_rfl) (by kernel_rfl) (fun _ _ _ h => h) (Or.inr ⟨by kernel_rfl, rfl⟩) (by assumption) ?_
            try simp only [List.getElem_toArray, List.getElem_cons_succ, List.getElem_cons_zero, Act.put, List.setIfInBounds_toArray, List.set_cons_zero, List.set_cons_succ]
            refine wpAnyH_take (i := 5) (v := undef) rfl (by kernel_rfl) (by kernel_rfl) (by kernel_rfl) (fun _ _ _ h => h) (Or.inr ⟨by kernel_rfl, rfl⟩) (by assumption) ?_
            try simp only [List.getElem_toArray, List.getElem_cons_succ, List.getElem_cons_zero, Act.put, List.setIfInBounds_toArray, List.set_cons_zero, List.set_cons_succ]
            refine wpAnyH_take (i := 6) (v := undef) rfl (by kernel_rfl) (by kernel_rfl) (by kernel_rfl) (fun _ _ _ h => h) (Or.inr ⟨by kernel_rfl, rfl⟩) (by assumption) ?_
            try simp only [List.getElem_toArray, List.getElem_cons_succ, List.getElem_cons_zero, Act.put, List.setIfInBounds_toArray, List.set_cons_zero, List.set_cons_succ]
            refine wpAnyH_take (i := 7) (v := undef) rfl (by kernel_rfl) (by kernel_rfl) (by kernel_rfl) (fun _ _ _ h => h) (Or.inr ⟨by kernel_rfl, rfl⟩) (by assumption) ?_
            try simp only [List.getElem_toArray, List.getElem_cons_succ, List.getElem_cons_zero, Act.put, List.setIfInBounds_toArray, List.set_cons_zero, List.set_cons_succ]
            refine wpAnyH_take (i := 8) (v := ?_) rfl (by kernel_rfl) (by kernel_rfl) (by kernel_rfl) (fun _ _ _ h => h) (Or.inl ⟨by kernel_rfl, ?_⟩) (by assumption) ?_
            rotate_left
            · intro w hSw; (try dsimp only at hSw); go_simp; with_reducible rfl
            try simp only [List.getElem_toArray, List.getElem_cons_succ, List.getElem_cons_zero, Act.put, List.setIfInBounds_toArray, List.set_cons_zero, List.set_cons_succ]
            refine wpAnyH_take (i := 9) (v := ?_) rfl (by kernel_rfl) (by kernel_rfl) (by kernel_rfl) (fun _ _ _ h => h) (Or.inl ⟨by kernel_rfl, ?_⟩) (by assumption) ?_
            rotate_left
            · intro w hSw; (try dsimp only at hSw); go_simp; with_reducible rfl
            try simp only [List.getElem_toArray, List.getElem_cons_succ, List.getElem_cons_zero, Act.put, List.setIfInBounds_toArray, List.set_cons_zero, List.set_cons_succ]
            refine wpAnyH_take (i := 10) (v := undef) rfl (by kernel_rfl) (by kernel_rfl) (by kernel_rfl) (fun _ _ _ h => h) (Or.inr ⟨by kernel_rfl, rfl⟩) (by assumption) ?_
            try simp only [List.getElem_toArray, List.getElem_cons_succ, List.getElem_cons_zero, Act.put, List.setIfInBounds_toArray, List.set_cons_zero, List.set_cons_succ]
            refine wpAnyH_take (i := 11) (v := undef) rfl (by kernel_rfl) (by kernel_rfl) (by kernel_rfl) (fun _ _ _ h => h) (Or.inr ⟨by kernel_rfl, rfl⟩) (by assumption) ?_
            try simp only [List.getElem_toArray, List.getElem_cons_succ, List.getElem_cons_zero, Act.put, List.setIfInBounds_toArray, List.set_cons_zero, List.set_cons_succ]
            refine wpAnyH_take (i := 12) (v := undef) rfl (by kernel_rfl) (by kernel_rfl) (by kernel_rfl) (fun _ _ _ h => h) (Or.inr ⟨by kernel_rfl, rfl⟩) (by assumption) ?_
            try simp only [List.getElem_toArray, List.getElem_cons_succ, List.getElem_cons_zero, Act.put, List.setIfInBounds_toArray, List.set_cons_zero, List.set_cons_succ]
            refine wpAnyH_take (i := 13) (v := ?_) rfl (by kernel_rfl) (by kernel_rfl) (by kernel_rfl) (fun _ _ _ h => h) (Or.inl ⟨by kernel_rfl, ?_⟩) (by assumption) ?_
            rotate_left
            · intro w hSw; (try dsimp only at hSw); go_simp; with_reducible rfl
            try simp only [List.getElem_toArray, List.getElem_cons_succ, List.getElem_cons_zero, Act.put, List.setIfInBounds_toArray, List.set_cons_zero, List.set_cons_succ]
            refine wpAnyH_take (i := 14) (v := ?_) rfl (by kernel_rfl) (by kernel_rfl) (by kernel_rfl) (fun _ _ _ h => h) (Or.inl ⟨by kernel_rfl, ?_⟩) (by assumption) ?_
            rotate_left
            · intro w hSw; (try dsimp only at hSw); go_simp; with_reducible rfl
            try simp only [List.getElem_toArray, List.getElem_cons_succ, List.getElem_cons_zero, Act.put, List.setIfInBounds_toArray, List.set_cons_zero, List.set_cons_succ]
            refine wpAnyH_take (i := 15) (v := undef) rfl (by kernel_rfl) (by kernel_rfl) (by kernel_rfl) (fun _ _ _ h => h) (Or.inr ⟨by kernel_rfl, rfl⟩) (by assumption) ?_
            try simp only [List.getElem_toArray, List.getElem_cons_succ, List.getElem_cons_zero, Act.put, List.setIfInBounds_toArray, List.set_cons_zero, List.set_cons_succ]
            refine wpAnyH_take (i := 16) (v := undef) rfl (by kernel_rfl) (by kernel_rfl) (by kernel_rfl) (fun _ _ _ h => h) (Or.inr ⟨by kernel_rfl, rfl⟩) (by assumption) ?_
            try simp only [List.getElem_toArray, List.getElem_cons_succ, List.getElem_cons_zero, Act.put, List.setIfInBounds_toArray, List.set_cons_zero, List.set_cons_succ]
            refine wpAnyH_take (i := 17) (v := undef) rfl (by kernel_rfl) (by kernel_rfl) (by kernel_rfl) (fun _ _ _ h => h) (Or.inr ⟨by kernel_rfl, rfl⟩) (by assumption) ?_
            try simp only [List.getElem_toArray, List.getElem_cons_succ, List.getElem_cons_zero, Act.put, List.setIfInBounds_toArray, List.set_cons_zero, List.set_cons_succ]
            refine wpAnyH_take (i := 18) (v := undef) rfl (by kernel_rfl) (by kernel_rfl) (by kernel_rfl) (fun _ _ _ h => h) (Or.inr ⟨by kernel_rfl, rfl⟩) (by assumption) ?_
            try simp only [List.getElem_toArray, List.getElem_cons_succ, List.getElem_cons_zero, Act.put, List.setIfInBounds_toArray, List.set_cons_zero, List.set_cons_succ]
            refine wpAnyH_take (i := 19) (v := undef) rfl (by kernel_rfl) (by kernel_rfl) (by kernel_rfl) (fun _ _ _ h => h) (Or.inr ⟨by kernel_rfl, rfl⟩) (by assumption) ?_
            try simp only [List.getElem_toArray, List.getElem_cons_succ, List.getElem_cons_zero, Act.put, List.setIfInBounds_toArray, List.set_cons_zero, List.set_cons_succ]
            refine wpAnyH_take (i := 20) (v := undef) rfl (by kernel_rfl) (by kernel_rfl) (by kernel_rfl) (fun _ _ _ h => h) (Or.inr ⟨by kernel_rfl, rfl⟩) (by assumption) ?_
            try simp only [List.getElem_toArray, List.getElem_cons_succ, List.getElem_cons_zero, Act.put, List.setIfInBounds_toArray, List.set_cons_zero, List.set_cons_succ]
            refine wpAnyH_take (i := 21) (v := undef) rfl (by kernel_rfl) (by kernel_rfl) (by kernel_rfl) (fun _ _ _ h => h) (Or.inr ⟨by kernel_rfl, rfl⟩) (by assumption) ?_
            try simp only [List.getElem_toArray, List.getElem_cons_succ, List.getElem_cons_zero, Act.put, List.setIfInBounds_toArray, List.set_cons_zero, List.set_cons_succ]
            refine wpAnyH_take (i := 22) (v := undef) rfl (by kernel_rfl) (by kernel_rfl) (by kernel_rfl) (fun _ _ _ h => h) (Or.inr ⟨by kernel_rfl, rfl⟩) (by assumption) ?_
            try simp only [List.getElem_toArray, List.getElem_cons_succ, List.getElem_cons_zero, Act.put, List.setIfInBounds_toArray, List.set_cons_zero, List.set_cons_succ]
            refine wpAnyH_take (i := 23) (v := undef) rfl (by kernel_rfl) (by kernel_rfl) (by kernel_rfl) (fun _ _ _ h => h) (Or.inr ⟨by kernel_rfl, rfl⟩) (by assumption) ?_
            try simp only [List.getElem_toArray, List.getElem_cons_succ, List.getElem_cons_zero, Act.put, List.setIfInBounds_toArray, List.set_cons_zero, List.set_cons_succ]
            refine wpAnyH_take (i := 24) (v := undef) rfl (by kernel_rfl) (by kernel_rfl) (by kernel_rfl) (fun _ _ _ h => h) (Or.inr ⟨by kernel_rfl, rfl⟩) (by assumption) ?_
            try simp only [List.getElem_toArray, List.getElem_cons_succ, List.getElem_cons_zero, Act.put, List.setIfInBounds_toArray, List.set_cons_zero, List.set_cons_succ]
            refine wpAnyH_take (i := 25) (v := undef) rfl (by kernel_rfl) (by kernel_rfl) (by kernel_rfl) (fun _ _ _ h => h) (Or.inr ⟨by kernel_rfl, rfl⟩) (by assumption) ?_
            try simp only [List.getElem_toArray, List.getElem_cons_succ, List.getElem_cons_zero, Act.put, List.setIfInBounds_toArray, List.set_cons_zero, List.set_cons_succ]
            refine wpAnyH_take (i := 26) (v := undef) rfl (by kernel_rfl) (by kernel_rfl) (by kernel_rfl) (fun _ _ _ h => h) (Or.inr ⟨by kernel_rfl, rfl⟩) (by assumption) ?_
            try simp only [List.getElem_toArray, List.getElem_cons_succ, List.getElem_cons_zero, Act.put, List.setIfInBounds_toArray, List.set_cons_zero, List.set_cons_succ]
            refine wpAnyH_take (i := 27) (v := undef) rfl (by kernel_rfl) (by kernel_rfl) (by kernel_rfl) (fun _ _ _ h => h) (Or.inr ⟨by kernel_rfl, rfl⟩) (by assumption) ?_
            try simp only [List.getElem_toArray, List.getElem_cons_succ, List.getElem_cons_zero, Act.put, List.setIfInBounds_toArray, List.set_cons_zero, List.set_cons_succ]
            refine wpAnyH_take (i := 28) (v := ?_) rfl (by kernel_rfl) (by kernel_rfl) (by kernel_rfl) (fun _ _ _ h => h) (Or.inl ⟨by kernel_rfl, ?_⟩) (by assumption) ?_
            rotate_left
            · intro w hSw; (try dsimp only at hSw); go_simp; with_reducible rfl
            try simp only [List.getElem_toArray, List.getElem_cons_succ, List.getElem_cons_zero, Act.put, List.setIfInBounds_toArray, List.set_cons_zero, List.set_cons_succ]
            refine wpAnyH_done (by kernel_rfl) ?_ _
            gi_wp2
            exact ⟨(hKf.trans (keeps_end W3 _ _ _ _)).from _, decX_end (by rw [HD.out, decN_no (runOk_small hn1)]) hq0 hq1 hbb⟩
          · have hd1 : decide (n < 1) = false := by simpa using hn1
            by_cases hn2 : 2000 - (acc.length : Int) < n
            · have hd2 : decide (2000 - (acc.length : Int) < n) = true := by simpa using hn2
              gi_wp2
              refine wp_region_round (S := fun w' => w'.cell? ⟨w1.heap.size, 0, none⟩ = some (.slice A2 acc.length c2) ∧ w'.cell? ⟨q, 0, none⟩ = some (.int .i64 t) ∧ w'.cell? ⟨q, 1, none⟩ = some (.int .i64 d)) (by kernel_rfl) (by kernel_rfl) (fun h => by obtain ⟨_, _, h⟩ := h; exact h) ⟨hv.cell, k0, k1⟩ (fun hHeld => ?_)
              refine wpAnyH_take (i := 0) (v := ?_) rfl (by kernel_rfl) (by kernel_rfl) (by kernel_rfl) (fun _ _ _ h => h) (Or.inl ⟨by kernel_rfl, ?_⟩) (by assumption) ?_
              rotate_left
              · intro w hSw; (try dsimp only at hSw); go_simp; with_reducible rfl
              try simp only [List.getElem_toArray, List.getElem_cons_succ, List.getElem_cons_zero, Act.put, List.setIfInBounds_toArray, List.set_cons_zero, List.set_cons_succ]
              refine wpAnyH_take (i := 1) (v := ?_) rfl (by kernel_rfl) (by kernel_rfl) (by kernel_rfl) (fun _ _ _ h => h) (Or.inl ⟨by kernel_rfl, ?_⟩) (by assumption) ?_
              rotate_left
              · intro w hSw; (try dsimp only at hSw); go_simp; with_reducible rfl
              try simp only [List.getElem_toArray, List.getElem_cons_succ, List.getElem_cons_zero, Act.put, List.setIfInBounds_toArray, List.set_cons_zero, List.set_cons_succ]
              refine wpAnyH_take (i := 2) (v := ?_) rfl (by kernel_rfl) (by kernel_rfl) (by kernel_rfl) (fun _ _ _ h => h) (Or.inl ⟨by kernel_rfl, ?_⟩) (by assumption) ?_
              rotate_left
              · intro w hSw; (try dsimp only at hSw); go_simp; with_reducible rfl
              try simp only [List.getElem_toArray, List.getElem_cons_succ, List.getElem_cons_zero, Act.put, List.setIfInBounds_toArray, List.set_cons_zero, List.set_cons_succ]
              refine wpAnyH_take (i := 3) (v := ?_) rfl (by kernel_rfl) (by kernel_rfl) (by kernel_rfl) (fun _ _ _ h => h) (Or.inl ⟨by kernel_rfl, ?_⟩) (by assumption) ?_
              rotate_left
              · intro w hSw; (try dsimp only at hSw); go_simp; with_reducible rfl
              try simp only [List.getElem_toArray, List.getElem_cons_succ, List.getElem_cons_zero, Act.put, List.setIfInBounds_toArray, List.set_cons_zero, List.set_cons_succ]
              refine wpAnyH_take (i := 4) (v := ?_) rfl (by kernel_rfl) (by kernel_rfl) (by kernel_rfl) (fun _ _ _ h => h) (Or.inl ⟨by kernel_rfl, ?_⟩) (by assumption) ?_
              rotate_left
              · intro w hSw; (try dsimp only at hSw); go_simp; with_reducible rfl
              try simp only [List.getElem_toArray, List.getElem_cons_succ, List.getElem_cons_zero, Act.put, List.setIfInBounds_toArray, List.set_cons_zero, List.set_cons_succ]
              refine wpAnyH_take (i := 5) (v := ?_) rfl (by kernel_rfl) (by kernel_rfl) (by kernel_rfl) (fun _ _ _ h => h) (Or.inl ⟨by kernel_rfl, ?_⟩) (by assumption) ?_
              rotate_left
              · intro w hSw; (try dsimp only at hSw); go_simp; with_reducible rfl
              try simp only [List.getElem_toArray, List.getElem_cons_succ, List.getElem_cons_zero, Act.put, List.setIfInBounds_toArray, List.set_cons_zero, List.set_cons_succ]
              refine wpAnyH_take (i := 6) (v := ?_) rfl (by kernel_rfl) (by kernel_rfl) (by kernel_rfl) (fun _ _ _ h => h) (Or.inl ⟨by kernel_rfl, ?_⟩) (by assumption) ?_
              rotate_left
              · intro w hSw; (try dsimp only at hSw); go_simp; with_reducible rfl
              try simp only [List.getElem_toArray, List.getElem_cons_succ, List.getElem_cons_zero, Act.put, List.setIfInBounds_toArray, List.set_cons_zero, List.set_cons_succ]
              refine wpAnyH_take (i := 7) (v := ?_) rfl (by kernel_rfl) (by kernel_rfl) (by kernel_rfl) (fun _ _ _ h => h) (Or.inl ⟨by kernel_rfl, ?_⟩) (by assumption) ?_
              rotate_left
              · intro w hSw; (try dsimp only at hSw); go_simp; with_reducible rfl
              try simp only [List.getElem_toArray, List.getElem_cons_succ, List.getElem_cons_zero, Act.put, List.setIfInBounds_toArray, List.set_cons_zero, List.set_cons_succ]
              refine wpAnyH_take (i := 8) (v := ?_) rfl (by kernel_rfl) (by kernel_rfl) (by kernel_rfl) (fun _ _ _ h => h) (Or.inl ⟨by kernel_rfl, ?_⟩) (by assumption) ?_
              rotate_left
              · intro w hSw; (try dsimp only at hSw); go_simp; with_reducible rfl
              try simp only [List.getElem_toArray, List.getElem_cons_succ, List.getElem_cons_zero, Act.put, List.setIfInBounds_toArray, List.set_cons_zero, List.set_cons_succ]
              refine wpAnyH_take (i := 9) (v := ?_) rfl (by kernel_rfl) (by kernel_rfl) (by kernel_rfl) (fun _ _ _ h => h) (Or.inl ⟨by kernel_rfl, ?_⟩) (by assumption) ?_
              rotate_left
              · intro w hSw; (try dsimp only at hSw); go_simp; with_reducible rfl
              try simp only [List.getElem_toArray, List.getElem_cons_succ, List.getElem_cons_zero, Act.put, List.setIfInBounds_toArray, List.set_cons_zero, List.set_cons_succ]
              refine wpAnyH_take (i := 10) (v := undef) rfl (by kernel_rfl) (by kernel_rfl) (by kernel_rfl) (fun _ _ _ h => h) (Or.inr ⟨by kernel_rfl, rfl⟩) (by assumption) ?_
              try simp only [List.getElem_toArray, List.getElem_cons_succ, List.getElem_cons_zero, Act.put, List.setIfInBounds_toArray, List.set_cons_zero, List.set_cons_succ]
              refine wpAnyH_take (i := 11) (v := undef) rfl (by kernel_rfl) (by kernel_rfl) (by kernel_rfl) (fun _ _ _ h => h) (Or.inr ⟨by kernel_rfl, rfl⟩) (by assumption) ?_
              try simp only [List.getElem_toArray, List.getElem_cons_succ, List.getElem_cons_zero, Act.put, List.setIfInBounds_toArray, List.set_cons_zero, List.set_cons_succ]
              refine wpAnyH_take (i := 12) (v := undef) rfl (by kernel_rfl) (by kernel_rfl) (by kernel_rfl) (fun _ _ _ h => h) (Or.inr ⟨by kernel_rfl, rfl⟩) (by assumption) ?_
              try simp only [List.getElem_toArray, List.getElem_cons_succ, List.getElem_cons_zero, Act.put, List.setIfInBounds_toArray, List.set_cons_zero, List.set_cons_succ]
              refine wpAnyH_take (i := 13) (v := ?_) rfl (by kernel_rfl) (by kernel_rfl) (by kernel_rfl) (fun _ _ _ h => h) (Or.inl ⟨by kernel_rfl, ?_⟩) (by assumption) ?_
              rotate_left
              · intro w hSw; (try dsimp only at hSw); go_simp; with_reducible rfl
              try simp only [List.getElem_toArray, List.getElem_cons_succ, List.getElem_cons_zero, Act.put, List.setIfInBounds_toArray, List.set_cons_zero, List.set_cons_succ]
              refine wpAnyH_take (i := 14) (v := ?_) rfl (by kernel_rfl) (by kernel_rfl) (by kernel_rfl) (fun _ _ _ h => h) (Or.inl ⟨by kernel_rfl, ?_⟩) (by assumption) ?_
              rotate_left
              · intro w hSw; (try dsimp only at hSw); go_simp; with_reducible rfl
              try simp only [List.getElem_toArray, List.getElem_cons_succ, List.getElem_cons_zero, Act.put, List.setIfInBounds_toArray, List.set_cons_zero, List.set_cons_succ]
              refine wpAnyH_take (i := 15) (v := undef) rfl (by kernel_rfl) (by kernel_rfl) (by kernel_rfl) (fun _ _ _ h => h) (Or.inr ⟨by kernel_rfl, rfl⟩) (by assumption) ?_
              try simp only [List.getElem_toArray, List.getElem_cons_succ, List.getElem_cons_zero, Act.put, List.setIfInBounds_toArray, List.set_cons_zero, List.set_cons_succ]
              refine wpAnyH_take (i := 16) (v := undef) rfl (by kernel_rfl) (by kernel_rfl) (by kernel_rfl) (fun _ _ _ h => h) (Or.inr ⟨by kernel_rfl, rfl⟩) (by assumption) ?_
              try simp only [List.getElem_toArray, List.getElem_cons_succ, List.getElem_cons_zero, Act.put, List.setIfInBounds_toArray, List.set_cons_zero, List.set_cons_succ]
              refine wpAnyH_take (i := 17) (v := undef) rfl (by kernel_rfl) (by kernel_rfl) (by kernel_rfl) (fun _ _ _ h => h) (Or.inr ⟨by kernel_rfl, rfl⟩) (by assumption) ?_
              try simp only [List.getElem_toArray, List.getElem_cons_succ, List.getElem_cons_zero, Act.put, List.setIfInBounds_toArray, List.set_cons_zero, List.set_cons_succ]
              refine wpAnyH_take (i := 18) (v := undef) rfl (by kernel_rfl) (by kernel_rfl) (by kernel_rfl) (fun _ _ _ h => h) (Or.inr ⟨by kernel_rfl, rfl⟩) (by assumption) ?_
              try simp only [List.getElem_toArray, List.getElem_cons_succ, List.getElem_cons_zero, Act.put, List.setIfInBounds_toArray, List.set_cons_zero, List.set_cons_succ]
              refine wpAnyH_take (i := 19) (v := undef) rfl (by kernel_rfl) (by kernel_rfl) (by kernel_rfl) (fun _ _ _ h => h) (Or.inr ⟨by kernel_rfl, rfl⟩) (by assumption) ?_
              try simp only [List.getElem_toArray, List.getElem_cons_succ, List.getElem_cons_zero, Act.put, List.setIfInBounds_toArray, List.set_cons_zero, List.set_cons_succ]
              refine wpAnyH_take (i := 20) (v := undef) rfl (by kernel_rfl) (by kernel_rfl) (by kernel_rfl) (fun _ _ _ h => h) (Or.inr ⟨by kernel_rfl, rfl⟩) (by assumption) ?_
              try simp only [List.getElem_toArray, List.getElem_cons_succ, List.getElem_cons_zero, Act.put, List.setIfInBounds_toArray, List.set_cons_zero, List.set_cons_succ]
              refine wpAnyH_take (i := 21) (v := undef) rfl (by kernel_rfl) (by kernel_rfl) (by kernel_rfl) (fun _ _ _ h => h) (Or.inr ⟨by kernel_rfl, rfl⟩) (by assumption) ?_
              try simp only [List.getElem_toArray, List.getElem_cons_succ, List.getElem_cons_zero, Act.put, List.setIfInBounds_toArray, List.set_cons_zero, List.set_cons_succ]
              refine wpAnyH_take (i := 22) (v := undef) rfl (by kernel_rfl) (by kernel_rfl) (by kernel_rfl) (fun _ _ _ h => h) (Or.inr ⟨by kernel_rfl, rfl⟩) (by assumption) ?_
              try simp only [List.getElem_toArray, List.getElem_cons_succ, List.getElem_cons_zero, Act.put, List.setIfInBounds_toArray, List.set_cons_zero, List.set_cons_succ]
              refine wpAnyH_take (i := 23) (v := undef) rfl (by kernel_rfl) (by kernel_rfl) (by kernel_rfl) (fun _ _ _ h => h) (Or.inr ⟨by kernel_rfl, rfl⟩) (by assumption) ?_
              try simp only [List.getElem_toArray, List.getElem_cons_succ, List.getElem_cons_zero, Act.put, List.setIfInBounds_toArray, List.set_cons_zero, List.set_cons_succ]
              refine wpAnyH_take (i := 24) (v := undef) rfl (by kernel_rfl) (by kernel_rfl) (by kernel_rfl) (fun _ _ _ h => h) (Or.inr ⟨by kernel_rfl, rfl⟩) (by assumption) ?_
              try simp only [List.getElem_toArray, List.getElem_cons_succ, List.getElem_cons_zero, Act.put, List.setIfInBounds_toArray, List.set_cons_zero, List.set_cons_succ]
              refine wpAnyH_take (i := 25) (v := undef) rfl (by kernel_rfl) (by kernel_rfl) (by kernel_rfl) (fun _ _ _ h => h) (Or.inr ⟨by kernel_rfl, rfl⟩) (by assumption) ?_
              try simp only [List.getElem_toArray, List.getElem_cons_succ, List.getElem_cons_zero, Act.put, List.setIfInBounds_toArray, List.set_cons_zero, List.set_cons_succ]
              refine wpAnyH_take (i := 26) (v := undef) rfl (by kernel_rfl) (by kernel_rfl) (by kernel_rfl) (fun _ _ _ h => h) (Or.inr ⟨by kernel_rfl, rfl⟩) (by assumption) ?_
              try simp only [List.getElem_toArray, List.getElem_cons_succ, List.getElem_cons_zero, Act.put, List.setIfInBounds_toArray, List.set_cons_zero, List.set_cons_succ]
              refine wpAnyH_take (i := 27) (v := undef) rfl (by kernel_rfl) (by kernel_rfl) (by kernel_rfl) (fun _ _ _ h => h) (Or.inr ⟨by kernel_rfl, rfl⟩) (by assumption) ?_
              try simp only [List.getElem_toArray, List.getElem_cons_succ, List.getElem_cons_zero, Act.put, List.setIfInBounds_toArray, List.set_cons_zero, List.set_cons_succ]
              refine wpAnyH_take (i := 28) (v := ?_) rfl (by kernel_rfl) (by kernel_rfl) (by kernel_rfl) (fun _ _ _ h => h) (Or.inl ⟨by kernel_rfl, ?_⟩) (by assumption) ?_
              rotate_left
              · intro w hSw; (try dsimp only at hSw); go_simp; with_reducible rfl
              try simp only [List.getElem_toArray, List.getElem_cons_succ, List.getElem_cons_zero, Act.put, List.setIfInBounds_toArray, List.set_cons_zero, List.set_cons_succ]
              refine wpAnyH_done (by kernel_rfl) ?_ _
              gi_wp2
              exact ⟨(hKf.trans (keeps_end W3 _ _ _ _)).from _, decX_end (by rw [HD.out, decN_no (runOk_great hn2)]) hq0 hq1 hbb⟩
            · have hd2 : decide (2000 - (acc.length : Int) < n) = false := by simpa using hn2
              by_cases hvb : validB (t, d) = true
              · have HV : Hid (∀ w, Calls Tryd.prog 24 #[.agg #[.int .i64 t, .int .i64 d]] w (Ret (.bool true) w)) := fun w => by have := valid_any (t, d) w; rwa [hvb] at this
                by_cases hac : acc.length = 0
                · have hd3 : decide ((0 : Int) < (acc.length : Int)) = false := decide_eq_false (by omega)
                  have hd4 : decide (0 < acc.length) = false := decide_eq_false (by omega)
                  have HOK := Lib.hid (runOk_fine (acc := acc) hn1 hn2 hvb (by rw [List.length_eq_zero_iff.1 hac]; simp))
                  clear hac
                  gi_wp2
                  refine wp_region_round (S := fun w' => w'.cell? ⟨w1.heap.size, 0, none⟩ = some (.slice A2 acc.length c2) ∧ w'.cell? ⟨q, 0, none⟩ = some (.int .i64 t) ∧ w'.cell? ⟨q, 1, none⟩ = some (.int .i64 d)) (by kernel_rfl) (by kernel_rfl) (fun h => by obtain ⟨_, _, h⟩ := h; exact h) ⟨hv.cell, k0, k1⟩ (fun hHeld => ?_)
                  refine wpAnyH_take (i := 0) (v := ?_) rfl (by kernel_rfl) (by kernel_rfl) (by kernel_rfl) (fun _ _ _ h => h) (Or.inl ⟨by kernel_rfl, ?_⟩) (by assumption) ?_
                  rotate_left
                  · intro w hSw; (try dsimp only at hSw); go_simp; with_reducible rfl
                  try simp only [List.getElem_toArray, List.getElem_cons_succ, List.getElem_cons_zero, Act.put, List.setIfInBounds_toArray, List.set_cons_zero, List.set_cons_succ]
                  refine wpAnyH_take (i := 1) (v := ?_) rfl (by kernel_rfl) (by kernel_rfl) (by kernel_rfl) (fun _ _ _ h => h) (Or.inl ⟨by kernel_rfl, ?_⟩) (by assumption) ?_
                  rotate_left
                  · intro w hSw; (try dsimp only at hSw); go_simp; with_reducible rfl
                  try simp only [List.getElem_toArray, List.getElem_cons_succ, List.getElem_cons_zero, Act.put, List.setIfInBounds_toArray, List.set_cons_zero, List.set_cons_succ]
                  refine wpAnyH_take (i := 2) (v := ?_) rfl (by kernel_rfl) (by kernel_rfl) (by kernel_rfl) (fun _ _ _ h => h) (Or.inl ⟨by kernel_rfl, ?_⟩) (by assumption) ?_
                  rotate_left
                  · intro w hSw; (try dsimp only at hSw); go_simp; with_reducible rfl
                  try simp only [List.getElem_toArray, List.getElem_cons_succ, List.getElem_cons_zero, Act.put, List.setIfInBounds_toArray, List.set_cons_zero, List.set_cons_succ]
                  refine wpAnyH_take (i := 3) (v := ?_) rfl (by kernel_rfl) (by kernel_rfl) (by kernel_rfl) (fun _ _ _ h => h) (Or.inl ⟨by kernel_rfl, ?_⟩) (by assumption) ?_
                  rotate_left
                  · intro w hSw; (try dsimp only at hSw); go_simp; with_reducible rfl
                  try simp only [List.getElem_toArray, List.getElem_cons_succ, List.getElem_cons_zero, Act.put, List.setIfInBounds_toArray, List.set_cons_zero, List.set_cons_succ]
                  refine wpAnyH_take (i := 4) (v := ?_) rfl (by kernel_rfl) (by kernel_rfl) (by kernel_rfl) (fun _ _ _ h => h) (Or.inl ⟨by kernel_rfl, ?_⟩) (by assumption) ?_
                  rotate_left
                  · intro w hSw; (try dsimp only at hSw); go_simp; with_reducible rfl
                  try simp only [List.getElem_toArray, List.getElem_cons_succ, List.getElem_cons_zero, Act.put, List.setIfInBounds_toArray, List.set_cons_zero, List.set_cons_succ]
                  refine wpAnyH_take (i := 5) (v := ?_) rfl (by kernel_rfl) (by kernel_rfl) (by kernel_rfl) (fun _ _ _ h => h) (Or.inl ⟨by kernel_rfl, ?_⟩) (by assumption) ?_
                  rotate_left
                  · intro w hSw; (try dsimp only at hSw); go_simp; with_reducible rfl
                  try simp only [List.getElem_toArray, List.getElem_cons_succ, List.getElem_cons_zero, Act.put, List.setIfInBounds_toArray, List.set_cons_zero, List.set_cons_succ]
                  refine wpAnyH_take (i := 6) (v := ?_) rfl (by kernel_rfl) (by kernel_rfl) (by kernel_rfl) (fun _ _ _ h => h) (Or.inl ⟨by kernel_rfl, ?_⟩) (by assumption) ?_
                  rotate_left
                  · intro w hSw; (try dsimp only at hSw); go_simp; with_reducible rfl
                  try simp only [List.getElem_toArray, List.getElem_cons_succ, List.getElem_cons_zero, Act.put, List.setIfInBounds_toArray, List.set_cons_zero, List.set_cons_succ]
                  refine wpAnyH_take (i := 7) (v := ?_) rfl (by kernel_rfl) (by kernel_rfl) (by kernel_rfl) (fun _ _ _ h => h) (Or.inl ⟨by kernel_rfl, ?_⟩) (by assumption) ?_
                  rotate_left
                  · intro w hSw; (try dsimp only at hSw); go_simp; with_reducible rfl
                  try simp only [List.getElem_toArray, List.getElem_cons_succ, List.getElem_cons_zero, Act.put, List.setIfInBounds_toArray, List.set_cons_zero, List.set_cons_succ]
                  refine wpAnyH_take (i := 8) (v := ?_) rfl (by kernel_rfl) (by kernel_rfl) (by kernel_rfl) (fun _ _ _ h => h) (Or.inl ⟨by kernel_rfl, ?_⟩) (by assumption) ?_
                  rotate_left
                  · intro w hSw; (try dsimp only at hSw); go_simp; with_reducible rfl
                  try simp only [List.getElem_toArray, List.getElem_cons_succ, List.getElem_cons_zero, Act.put, List.setIfInBounds_toArray, List.set_cons_zero, List.set_cons_succ]
                  refine wpAnyH_take (i := 9) (v := ?_) rfl (by kernel_rfl) (by kernel_rfl) (by kernel_rfl) (fun _ _ _ h => h) (Or.inl ⟨by kernel_rfl, ?_⟩) (by assumption) ?_
                  rotate_left
                  · intro w hSw; (try dsimp only at hSw); go_simp; with_reducible rfl
                  try simp only [List.getElem_toArray, List.getElem_cons_succ, List.getElem_cons_zero, Act.put, List.setIfInBounds_toArray, List.set_cons_zero, List.set_cons_succ]
                  refine wpAnyH_take (i := 10) (v := ?_) rfl (by kernel_rfl) (by kernel_rfl) (by kernel_rfl) (fun _ _ _ h => h) (Or.inl ⟨by kernel_rfl, ?_⟩) (by assumption) ?_
                  rotate_left
                  · intro w hSw; (try dsimp only at hSw); go_simp; with_reducible rfl
                  try simp only [List.getElem_toArray, List.getElem_cons_succ, List.getElem_cons_zero, Act.put, List.setIfInBounds_toArray, List.set_cons_zero, List.set_cons_succ]
                  refine wpAnyH_ready (rs := [11]) (by kernel_rfl) (by simp) ?_
                  refine AllReadyH.cons rfl (fun K hK => ?_) AllReadyH.nil
                  go_simp
                  refine (HV.out _).mono ?_
                  rintro e w4 ⟨rfl, hb4⟩
                  try simp only []
                  refine hK.out _ _ ?_ (fun hHeld => ?_)
                  · exact ⟨(hb4.cell (by exact hv.lt)).trans hv.cell, (hb4.cell (by exact hq3)).trans k0, (hb4.cell (by exact hq3)).trans k1⟩
                  clear hK K
                  try simp only [List.getElem_toArray, List.getElem_cons_succ, List.getElem_cons_zero, Act.put, List.setIfInBounds_toArray, List.set_cons_zero, List.set_cons_succ]
                  refine wpAnyH_take (i := 12) (v := ?_) rfl (by kernel_rfl) (by kernel_rfl) (by kernel_rfl) (fun _ _ _ h => h) (Or.inl ⟨by kernel_rfl, ?_⟩) (by assumption) ?_
                  rotate_left
                  · intro w hSw; (try dsimp only at hSw); go_simp; with_reducible rfl
                  try simp only [List.getElem_toArray, List.getElem_cons_succ, List.getElem_cons_zero, Act.put, List.setIfInBounds_toArray, List.set_cons_zero, List.set_cons_succ]
                  refine wpAnyH_take (i := 13) (v := ?_) rfl (by kernel_rfl) (by kernel_rfl) (by kernel_rfl) (fun _ _ _ h => h) (Or.inl ⟨by kernel_rfl, ?_⟩) (by assumption) ?_
                  rotate_left
                  · intro w hSw; (try dsimp only at hSw); go_simp; with_reducible rfl
                  try simp only [List.getElem_toArray, List.getElem_cons_succ, List.getElem_cons_zero, Act.put, List.setIfInBounds_toArray, List.set_cons_zero, List.set_cons_succ]
                  refine wpAnyH_take (i := 14) (v := ?_) rfl (by kernel_rfl) (by kernel_rfl) (by kernel_rfl) (fun _ _ _ h => h) (Or.inl ⟨by kernel_rfl, ?_⟩) (by assumption) ?_
                  rotate_left
                  · intro w hSw; (try dsimp only at hSw); go_simp; with_reducible rfl
                  try simp only [List.getElem_toArray, List.getElem_cons_succ, List.getElem_cons_zero, Act.put, List.setIfInBounds_toArray, List.set_cons_zero, List.set_cons_succ]
                  refine wpAnyH_take (i := 15) (v := ?_) rfl (by kernel_rfl) (by kernel_rfl) (by kernel_rfl) (fun _ _ _ h => h) (Or.inl ⟨by kernel_rfl, ?_⟩) (by assumption) ?_
                  rotate_left
                  · intro w hSw; (try dsimp only at hSw); go_simp; with_reducible rfl
                  try simp only [List.getElem_toArray, List.getElem_cons_succ, List.getElem_cons_zero, Act.put, List.setIfInBounds_toArray, List.set_cons_zero, List.set_cons_succ]
                  refine wpAnyH_take (i := 16) (v := ?_) rfl (by kernel_rfl) (by kernel_rfl) (by kernel_rfl) (fun _ _ _ h => h) (Or.inl ⟨by kernel_rfl, ?_⟩) (by assumption) ?_
                  rotate_left
                  · intro w hSw; (try dsimp only at hSw); go_simp; with_reducible rfl
                  try simp only [List.getElem_toArray, List.getElem_cons_succ, List.getElem_cons_zero, Act.put, List.setIfInBounds_toArray, List.set_cons_zero, List.set_cons_succ]
                  refine wpAnyH_take (i := 17) (v := ?_) rfl (by kernel_rfl) (by kernel_rfl) (by kernel_rfl) (fun _ _ _ h => h) (Or.inl ⟨by kernel_rfl, ?_⟩) (by assumption) ?_
                  rotate_left
                  · intro w hSw; (try dsimp only at hSw); go_simp; with_reducible rfl
                  try simp only [List.getElem_toArray, List.getElem_cons_succ, List.getElem_cons_zero, Act.put, List.setIfInBounds_toArray, List.set_cons_zero, List.set_cons_succ]
                  refine wpAnyH_take (i := 18) (v := ?_) rfl (by kernel_rfl) (by kernel_rfl) (by kernel_rfl) (fun _ _ _ h => h) (Or.inl ⟨by kernel_rfl, ?_⟩) (by assumption) ?_
                  rotate_left
                  · intro w hSw; (try dsimp only at hSw); go_simp; with_reducible rfl
                  try simp only [List.getElem_toArray, List.getElem_cons_succ, List.getElem_cons_zero, Act.put, List.setIfInBounds_toArray, List.set_cons_zero, List.set_cons_succ]
                  refine wpAnyH_take (i := 19) (v := undef) rfl (by kernel_rfl) (by kernel_rfl) (by kernel_rfl) (fun _ _ _ h => h) (Or.inr ⟨by kernel_rfl, rfl⟩) (by assumption) ?_
                  try simp only [List.getElem_toArray, List.getElem_cons_succ, List.getElem_cons_zero, Act.put, List.setIfInBounds_toArray, List.set_cons_zero, List.set_cons_succ]
                  refine wpAnyH_take (i := 20) (v := undef) rfl (by kernel_rfl) (by kernel_rfl) (by kernel_rfl) (fun _ _ _ h => h) (Or.inr ⟨by kernel_rfl, rfl⟩) (by assumption) ?_
                  try simp only [List.getElem_toArray, List.getElem_cons_succ, List.getElem_cons_zero, Act.put, List.setIfInBounds_toArray, List.set_cons_zero, List.set_cons_succ]
                  refine wpAnyH_take (i := 21) (v := undef) rfl (by kernel_rfl) (by kernel_rfl) (by kernel_rfl) (fun _ _ _ h => h) (Or.inr ⟨by kernel_rfl, rfl⟩) (by assumption) ?_
                  try simp only [List.getElem_toArray, List.getElem_cons_succ, List.getElem_cons_zero, Act.put, List.setIfInBounds_toArray, List.set_cons_zero, List.set_cons_succ]
                  refine wpAnyH_take (i := 22) (v := undef) rfl (by kernel_rfl) (by kernel_rfl) (by kernel_rfl) (fun _ _ _ h => h) (Or.inr ⟨by kernel_rfl, rfl⟩) (by assumption) ?_
                  try simp only [List.getElem_toArray, List.getElem_cons_succ, List.getElem_cons_zero, Act.put, List.setIfInBounds_toArray, List.set_cons_zero, List.set_cons_succ]
                  refine wpAnyH_take (i := 23) (v := undef) rfl (by kernel_rfl) (by kernel_rfl) (by kernel_rfl) (fun _ _ _ h => h) (Or.inr ⟨by kernel_rfl, rfl⟩) (by assumption) ?_
                  try simp only [List.getElem_toArray, List.getElem_cons_succ, List.getElem_cons_zero, Act.put, List.setIfInBounds_toArray, List.set_cons_zero, List.set_cons_succ]
                  refine wpAnyH_take (i := 24) (v := undef) rfl (by kernel_rfl) (by kernel_rfl) (by kernel_rfl) (fun _ _ _ h => h) (Or.inr ⟨by kernel_rfl, rfl⟩) (by assumption) ?_
                  try simp only [List.getElem_toArray, List.getElem_cons_succ, List.getElem_cons_zero, Act.put, List.setIfInBounds_toArray, List.set_cons_zero, List.set_cons_succ]
                  refine wpAnyH_take (i := 25) (v := undef) rfl (by kernel_rfl) (by kernel_rfl) (by kernel_rfl) (fun _ _ _ h => h) (Or.inr ⟨by kernel_rfl, rfl⟩) (by assumption) ?_
                  try simp only [List.getElem_toArray, List.getElem_cons_succ, List.getElem_cons_zero, Act.put, List.setIfInBounds_toArray, List.set_cons_zero, List.set_cons_succ]
                  refine wpAnyH_take (i := 26) (v := undef) rfl (by kernel_rfl) (by kernel_rfl) (by kernel_rfl) (fun _ _ _ h => h) (Or.inr ⟨by kernel_rfl, rfl⟩) (by assumption) ?_
                  try simp only [List.getElem_toArray, List.getElem_cons_succ, List.getElem_cons_zero, Act.put, List.setIfInBounds_toArray, List.set_cons_zero, List.set_cons_succ]
                  refine wpAnyH_take (i := 27) (v := ?_) rfl (by kernel_rfl) (by kernel_rfl) (by kernel_rfl) (fun _ _ _ h => h) (Or.inl ⟨by kernel_rfl, ?_⟩) (by assumption) ?_
                  rotate_left
                  · intro w hSw; (try dsimp only at hSw); go_simp; with_reducible rfl
                  try simp only [List.getElem_toArray, List.getElem_cons_succ, List.getElem_cons_zero, Act.put, List.setIfInBounds_toArray, List.set_cons_zero, List.set_cons_succ]
                  refine wpAnyH_take (i := 28) (v := ?_) rfl (by kernel_rfl) (by kernel_rfl) (by kernel_rfl) (fun _ _ _ h => h) (Or.inl ⟨by kernel_rfl, ?_⟩) (by assumption) ?_
                  rotate_left
                  · intro w hSw; (try dsimp only at hSw); go_simp; with_reducible rfl
                  try simp only [List.getElem_toArray, List.getElem_cons_succ, List.getElem_cons_zero, Act.put, List.setIfInBounds_toArray, List.set_cons_zero, List.set_cons_succ]
                  refine wpAnyH_done (by kernel_rfl) ?_ _
                  have hb5 : Below W3.heap.size W3 w4 := ⟨hb4.os, hb4.tape, hb4.output, hb4.size, hb4.block⟩
                  have hg5 : W3.grownBy w4 none := ⟨hb4.os, hb4.tape, hb4.output, hb4.size, fun k hk _ => hb4.block k hk⟩
                  have hv4 := hv.kept hg5 (by simp)
                  have hr4 := own_row_below hr hb5
                  have hq04 := hq0.kept hg5 (by simp)
                  have hq14 := hq1.kept hg5 (by simp)
                  have hbb4 : Below w.heap.size w w4 := hbb.grown hg5 hbb.size (fun k e => by cases e)
                  have hblk4 := (hb5.block q hq3).trans hblk
                  have hKf4 : KeepsOthers W w4 := hKf.trans (KeepsOthers.of_grownBy hg5 (fun _ _ e => by cases e))
                  have hKc4 : KeepsC (w1.heap.size + 1) W w4 := ⟨(hb5.block _ (by omega)).trans hKc.1, (hb5.block _ (by omega)).trans hKc.2⟩
                  have hrd4 : Rd w4 w1.heap.size 1 A ns.length (i64s ns) := hrd3.below' hb5 (by omega)
                  have hco4 := hv4.cell
                  have hcp4 := hq04.cell
                  have hcq4 := hq14.cell
                  have hfp4 := hq04.frozen
                  have hfq4 := hq14.frozen
                  gi_wp2
                  gi_loopw [74] (fun j wr => ∃ k : Nat, j = .int .i64 (k : Nat) ∧ Hid ((k : Int) ≤ n) ∧ DecL w w.heap.size w1.heap.size q ns A t d W (acc ++ List.replicate k (t, d)) wr) (fun j _ => n.toNat - (intOf j).toNat)
                  case atStart => exact ⟨0, rfl, Lib.hid (by omega), by rw [List.replicate_zero, List.append_nil]; exact ⟨⟨_, hv4, hr4, hvq⟩, hq04, hq14, hbb4, hblk4, hrd4, hKf4, hKc4⟩⟩
                  case round =>
                    obtain ⟨k, rfl, hkn, hL⟩ := hrel
                    obtain ⟨M, hM⟩ : ∃ M, M = acc ++ List.replicate k (t, d) := ⟨_, rfl⟩
                    rw [← hM] at hL
                    obtain ⟨⟨v, hv5, hr5, hvq5⟩, hp05, hp15, hbb5, hblk5, hrd5, hKf5, hKc5⟩ := hL
                    have hql := lt_of_block hblk5
                    have hlen : M.length = acc.length + k := by rw [hM]; simp
                    have hk0 : (0 : Int) ≤ (k : Int) := by omega
                    have hk2 : (k : Int) ≤ 2000 := by have := hkn.out; omega
                    by_cases hlt : (k : Int) < n
                    · have hdk : decide ((k : Int) < n) = true := decide_eq_true hlt
                      have hc5 := hv5.cell
                      have k05 : wr.cell? ⟨q, 0, none⟩ = some (.int .i64 t) := by simp only [World.cell?, hblk5]; rfl
                      have k15 : wr.cell? ⟨q, 1, none⟩ = some (.int .i64 d) := by simp only [World.cell?, hblk5]; rfl
                      have hmx : M.length + 1 ≤ maxLen := by rw [hlen]; unfold maxLen; omega
                      have hby : (M.length + 1) * 16 ≤ 140737488355328 := by rw [hlen]; omega
                      have hbs : w1.heap.size + 3 ≤ (wr.alloc (.cells #[.int .i64 t, .int .i64 d] 36)).heap.size := by simp; omega
                      have HL := Lib.hid hlen
                      have HM := Lib.hid hM
                      clear hlen hM
                      gi_wp2_with (gi_at_builtin; refine wpListIn_append_at _ rfl _ _ 22 rfl (w1.heap.size + 3) 36 i0 (.agg #[.int .i64 0, .int .i64 0]) 2 16 Tryd.underlying22 hi hz0 hz1 hz2 rfl (by decide) _ _ _ rfl (hr5.alloc _) ⟨wr.heap.size, 0, none⟩ 1 1 [.int .i64 t, .int .i64 d] rfl rfl (World.news_of_block (cs := #[.int .i64 t, .int .i64 d]) (t := 36) (fr := (0, 0)) (heap_alloc_new wr _)) (by simp [Value.oneCell']) hmx hby hbs ?_; intro v' w3 hown' hgrow hat; obtain ⟨A6, c6, rfl⟩ := own_form hown'; have hv6 := (hv5.alloc (.cells #[.int .i64 t, .int .i64 d] 36)).kept hgrow (hv5.not_row (by decide) hr5); have hc6 := hv6.cell; have hf6 := hv6.frozen)
                      have hcells := own_cells (hr5.alloc (.cells #[.int .i64 t, .int .i64 d] 36))
                      have hrow : ∀ j, j < w1.heap.size + 3 → some j ≠ v.ownBlock := fun j hj e => by have := (hr5.lt _ e.symm).1; omega
                      have hhp : ∀ j, j < wr.heap.size → j ≠ w1.heap.size → some j ≠ v.ownBlock → (w3.setCell ⟨w1.heap.size, 0, none⟩ (.slice A6 (M.length + 1) c6)).heap[j]? = wr.heap[j]? := fun j h1 h2 h3 =>
                        (Below.heap_setCell w3 _ _ _ h2).trans ((hgrow.block j (by simp; omega) h3).trans (Below.heap_alloc _ _ _ h1))
                      have hbelow : Below w.heap.size wr (w3.setCell ⟨w1.heap.size, 0, none⟩ (.slice A6 (M.length + 1) c6)) := ((below_alloc2 (by omega) (.cells #[.int .i64 t, .int .i64 d] 36)).grown hgrow (by simp; omega) (fun k e => by have := (hr5.lt k e).1; omega)).setCell (p := ⟨w1.heap.size, 0, none⟩) (by show _ ≤ w1.heap.size; omega) _
                      refine ⟨⟨k + 1, by go_num, Lib.hid (by omega), ?_⟩, by simp [intOf]; omega⟩
                      rw [List.replicate_succ', ← List.append_assoc, ← HM.out]
                      refine ⟨⟨_, hv6.set _, ?_, ?_⟩, (hhp _ (by omega) (by omega) (hrow _ (by omega))).trans hp05, (hhp _ (by omega) (by omega) (hrow _ (by omega))).trans hp15, hbb5.trans hbelow, (hhp q hql (by omega) (fun e => hvq5 e.symm)).trans hblk5, ((hrd5.alloc (by omega) _).grown hgrow (by simp; omega) (fun g e => by have := (hr5.lt g e).1; omega)).setCell (Nat.le_refl _) _, hKf5.trans (((KeepsOthers.alloc wr _).trans (KeepsOthers.of_grownBy hgrow hcells)).trans (KeepsOthers.setCell _ _ _)), ⟨(hhp _ (by omega) (by omega) (hrow _ (by omega))).trans hKc5.1, (hhp _ (by omega) (by omega) (hrow _ (by omega))).trans hKc5.2⟩⟩
                      · have := hown'.kept (grownBy_setCell' w3 w1.heap.size (.slice A6 (M.length + 1) c6)) (.inr (hv6.not_row (by decide) hown').symm)
                        exact own_chs (by simp) (by rw [chCells_append M]; rfl) this
                      · rcases hat with e | e
                        · rw [e]; exact hvq5
                        · rw [e]; simp; omega
                    · have hdk : decide ((k : Int) < n) = false := decide_eq_false hlt
                      have hkt : n.toNat = k := by have := hkn.out; omega
                      have HT := Lib.hid hkt
                      have HL := Lib.hid hlen
                      have HM := Lib.hid hM
                      clear hkt hlen hM
                      gi_wp2
                      refine ⟨hKf5.from _, hKc5, M, Lib.hid ?_, by have := hkn.out; rw [HL.out]; omega, ⟨⟨v, hv5, hr5⟩, hp05, hp15, hbb5, by omega, hrd5⟩⟩
                      rw [List.length_append, hpl, HD.out, decN_step HOK.out, HT.out, ← HM.out]; rfl
                · obtain ⟨m, hm⟩ : ∃ m, acc.length = m + 1 := ⟨acc.length - 1, by omega⟩
                  have hchs : Chs W3 W3.heap.size A2 acc := Rd.of_own hr
                  obtain ⟨b2, off2, hA2, hb2, f1, f2⟩ := hchs.at_ (k := m) (by omega)
                  subst hA2
                  obtain ⟨x2, hx2⟩ : ∃ x2 : Ch, acc[m] = x2 := ⟨_, rfl⟩
                  rw [hx2] at f1 f2
                  have hla : acc.getLast? = some x2 := by rw [List.getLast?_eq_getElem?, hm, Nat.add_sub_cancel, List.getElem?_eq_getElem (by omega), hx2]
                  have hd3 : decide ((0 : Int) < (acc.length : Int)) = true := decide_eq_true (by omega)
                  have hd4 : decide (0 < acc.length) = true := decide_eq_true (by omega)
                  have hm1 : (acc.length : Int) - 1 = (m : Int) := by omega
                  have hm2 : IntKind.i64.wrap (m : Int) = (m : Int) := IntWalk.i64_in _ (by omega)
                  have hm3 : (0 : Int) ≤ (m : Int) := by omega
                  have hm4 : (m : Int) < (acc.length : Int) := by omega
                  have hm5 : m < acc.length := by omega
                  clear hm hx2 hchs hac
                  have hHL := Lib.hid hla
                  clear hla
                  by_cases hx : x2 = (t, d)
                  · have hcb : chB x2.1 x2.2 t d = true := by rw [show chB x2.1 x2.2 t d = _ from chB_eq (x := x2) (y := (t, d)), hx]; simp
                    have HOK := Lib.hid (runOk_same (acc := acc) (n := n) (by rw [hHL.out, hx]))
                    clear hx
                    gi_wp2
                    refine wp_region_round (S := fun w' => w'.cell? ⟨w1.heap.size, 0, none⟩ = some (.slice (some ⟨b2, off2, none⟩) acc.length c2) ∧ w'.cell? ⟨q, 0, none⟩ = some (.int .i64 t) ∧ w'.cell? ⟨q, 1, none⟩ = some (.int .i64 d) ∧ w'.cell? ⟨b2, off2 + m * 2, none⟩ = some (.int .i64 x2.1) ∧ w'.cell? ⟨b2, off2 + m * 2 + 1, none⟩ = some (.int .i64 x2.2)) (by kernel_rfl) (by kernel_rfl) (fun h => by obtain ⟨_, _, h⟩ := h; exact h) ⟨hv.cell, k0, k1, f1, f2⟩ (fun hHeld => ?_)
                    refine wpAnyH_take (i := 0) (v := ?_) rfl (by kernel_rfl) (by kernel_rfl) (by kernel_rfl) (fun _ _ _ h => h) (Or.inl ⟨by kernel_rfl, ?_⟩) (by assumption) ?_
                    rotate_left
                    · intro w hSw; (try dsimp only at hSw); go_simp; with_reducible rfl
                    try simp only [List.getElem_toArray, List.getElem_cons_succ, List.getElem_cons_zero, Act.put, List.setIfInBounds_toArray, List.set_cons_zero, List.set_cons_succ]
                    refine wpAnyH_take (i := 1) (v := ?_) rfl (by kernel_rfl) (by kernel_rfl) (by kernel_rfl) (fun _ _ _ h => h) (Or.inl ⟨by kernel_rfl, ?_⟩) (by assumption) ?_
                    rotate_left
                    · intro w hSw; (try dsimp only at hSw); go_simp; with_reducible rfl
                    try simp only [List.getElem_toArray, List.getElem_cons_succ, List.getElem_cons_zero, Act.put, List.setIfInBounds_toArray, List.set_cons_zero, List.set_cons_succ]
                    refine wpAnyH_take (i := 2) (v := ?_) rfl (by kernel_rfl) (by kernel_rfl) (by kernel_rfl) (fun _ _ _ h => h) (Or.inl ⟨by kernel_rfl, ?_⟩) (by assumption) ?_
                    rotate_left
                    · intro w hSw; (try dsimp only at hSw); go_simp; with_reducible rfl
                    try simp only [List.getElem_toArray, List.getElem_cons_succ, List.getElem_cons_zero, Act.put, List.setIfInBounds_toArray, List.set_cons_zero, List.set_cons_succ]
                    refine wpAnyH_take (i := 3) (v := ?_) rfl (by kernel_rfl) (by kernel_rfl) (by kernel_rfl) (fun _ _ _ h => h) (Or.inl ⟨by kernel_rfl, ?_⟩) (by assumption) ?_
                    rotate_left
                    · intro w hSw; (try dsimp only at hSw); go_simp; with_reducible rfl
                    try simp only [List.getElem_toArray, List.getElem_cons_succ, List.getElem_cons_zero, Act.put, List.setIfInBounds_toArray, List.set_cons_zero, List.set_cons_succ]
                    refine wpAnyH_take (i := 4) (v := ?_) rfl (by kernel_rfl) (by kernel_rfl) (by kernel_rfl) (fun _ _ _ h => h) (Or.inl ⟨by kernel_rfl, ?_⟩) (by assumption) ?_
                    rotate_left
                    · intro w hSw; (try dsimp only at hSw); go_simp; with_reducible rfl
                    try simp only [List.getElem_toArray, List.getElem_cons_succ, List.getElem_cons_zero, Act.put, List.setIfInBounds_toArray, List.set_cons_zero, List.set_cons_succ]
                    refine wpAnyH_take (i := 5) (v := ?_) rfl (by kernel_rfl) (by kernel_rfl) (by kernel_rfl) (fun _ _ _ h => h) (Or.inl ⟨by kernel_rfl, ?_⟩) (by assumption) ?_
                    rotate_left
                    · intro w hSw; (try dsimp only at hSw); go_simp; with_reducible rfl
                    try simp only [List.getElem_toArray, List.getElem_cons_succ, List.getElem_cons_zero, Act.put, List.setIfInBounds_toArray, List.set_cons_zero, List.set_cons_succ]
                    refine wpAnyH_take (i := 6) (v := ?_) rfl (by kernel_rfl) (by kernel_rfl) (by kernel_rfl) (fun _ _ _ h => h) (Or.inl ⟨by kernel_rfl, ?_⟩) (by assumption) ?_
                    rotate_left
                    · intro w hSw; (try dsimp only at hSw); go_simp; with_reducible rfl
                    try simp only [List.getElem_toArray, List.getElem_cons_succ, List.getElem_cons_zero, Act.put, List.setIfInBounds_toArray, List.set_cons_zero, List.set_cons_succ]
                    refine wpAnyH_take (i := 7) (v := ?_) rfl (by kernel_rfl) (by kernel_rfl) (by kernel_rfl) (fun _ _ _ h => h) (Or.inl ⟨by kernel_rfl, ?_⟩) (by assumption) ?_
                    rotate_left
                    · intro w hSw; (try dsimp only at hSw); go_simp; with_reducible rfl
                    try simp only [List.getElem_toArray, List.getElem_cons_succ, List.getElem_cons_zero, Act.put, List.setIfInBounds_toArray, List.set_cons_zero, List.set_cons_succ]
                    refine wpAnyH_take (i := 8) (v := ?_) rfl (by kernel_rfl) (by kernel_rfl) (by kernel_rfl) (fun _ _ _ h => h) (Or.inl ⟨by kernel_rfl, ?_⟩) (by assumption) ?_
                    rotate_left
                    · intro w hSw; (try dsimp only at hSw); go_simp; with_reducible rfl
                    try simp only [List.getElem_toArray, List.getElem_cons_succ, List.getElem_cons_zero, Act.put, List.setIfInBounds_toArray, List.set_cons_zero, List.set_cons_succ]
                    refine wpAnyH_take (i := 9) (v := ?_) rfl (by kernel_rfl) (by kernel_rfl) (by kernel_rfl) (fun _ _ _ h => h) (Or.inl ⟨by kernel_rfl, ?_⟩) (by assumption) ?_
                    rotate_left
                    · intro w hSw; (try dsimp only at hSw); go_simp; with_reducible rfl
                    try simp only [List.getElem_toArray, List.getElem_cons_succ, List.getElem_cons_zero, Act.put, List.setIfInBounds_toArray, List.set_cons_zero, List.set_cons_succ]
                    refine wpAnyH_take (i := 10) (v := ?_) rfl (by kernel_rfl) (by kernel_rfl) (by kernel_rfl) (fun _ _ _ h => h) (Or.inl ⟨by kernel_rfl, ?_⟩) (by assumption) ?_
                    rotate_left
                    · intro w hSw; (try dsimp only at hSw); go_simp; with_reducible rfl
                    try simp only [List.getElem_toArray, List.getElem_cons_succ, List.getElem_cons_zero, Act.put, List.setIfInBounds_toArray, List.set_cons_zero, List.set_cons_succ]
                    refine wpAnyH_ready (rs := [11]) (by kernel_rfl) (by simp) ?_
                    refine AllReadyH.cons rfl (fun K hK => ?_) AllReadyH.nil
                    go_simp
                    refine (HV.out _).mono ?_
                    rintro e w4 ⟨rfl, hb4⟩
                    try simp only []
                    refine hK.out _ _ ?_ (fun hHeld => ?_)
                    · exact ⟨(hb4.cell (by exact hv.lt)).trans hv.cell, (hb4.cell (by exact hq3)).trans k0, (hb4.cell (by exact hq3)).trans k1, (hb4.cell (by exact hb2)).trans f1, (hb4.cell (by exact hb2)).trans f2⟩
                    clear hK K
                    try simp only [List.getElem_toArray, List.getElem_cons_succ, List.getElem_cons_zero, Act.put, List.setIfInBounds_toArray, List.set_cons_zero, List.set_cons_succ]
                    refine wpAnyH_take (i := 12) (v := ?_) rfl (by kernel_rfl) (by kernel_rfl) (by kernel_rfl) (fun _ _ _ h => h) (Or.inl ⟨by kernel_rfl, ?_⟩) (by assumption) ?_
                    rotate_left
                    · intro w hSw; (try dsimp only at hSw); go_simp; with_reducible rfl
                    try simp only [List.getElem_toArray, List.getElem_cons_succ, List.getElem_cons_zero, Act.put, List.setIfInBounds_toArray, List.set_cons_zero, List.set_cons_succ]
                    refine wpAnyH_take (i := 13) (v := ?_) rfl (by kernel_rfl) (by kernel_rfl) (by kernel_rfl) (fun _ _ _ h => h) (Or.inl ⟨by kernel_rfl, ?_⟩) (by assumption) ?_
                    rotate_left
                    · intro w hSw; (try dsimp only at hSw); go_simp; with_reducible rfl
                    try simp only [List.getElem_toArray, List.getElem_cons_succ, List.getElem_cons_zero, Act.put, List.setIfInBounds_toArray, List.set_cons_zero, List.set_cons_succ]
                    refine wpAnyH_take (i := 14) (v := ?_) rfl (by kernel_rfl) (by kernel_rfl) (by kernel_rfl) (fun _ _ _ h => h) (Or.inl ⟨by kernel_rfl, ?_⟩) (by assumption) ?_
                    rotate_left
                    · intro w hSw; (try dsimp only at hSw); go_simp; with_reducible rfl
                    try simp only [List.getElem_toArray, List.getElem_cons_succ, List.getElem_cons_zero, Act.put, List.setIfInBounds_toArray, List.set_cons_zero, List.set_cons_succ]
                    refine wpAnyH_take (i := 15) (v := ?_) rfl (by kernel_rfl) (by kernel_rfl) (by kernel_rfl) (fun _ _ _ h => h) (Or.inl ⟨by kernel_rfl, ?_⟩) (by assumption) ?_
                    rotate_left
                    · intro w hSw; (try dsimp only at hSw); go_simp; with_reducible rfl
                    try simp only [List.getElem_toArray, List.getElem_cons_succ, List.getElem_cons_zero, Act.put, List.setIfInBounds_toArray, List.set_cons_zero, List.set_cons_succ]
                    refine wpAnyH_take (i := 16) (v := ?_) rfl (by kernel_rfl) (by kernel_rfl) (by kernel_rfl) (fun _ _ _ h => h) (Or.inl ⟨by kernel_rfl, ?_⟩) (by assumption) ?_
                    rotate_left
                    · intro w hSw; (try dsimp only at hSw); go_simp; with_reducible rfl
                    try simp only [List.getElem_toArray, List.getElem_cons_succ, List.getElem_cons_zero, Act.put, List.setIfInBounds_toArray, List.set_cons_zero, List.set_cons_succ]
                    refine wpAnyH_take (i := 17) (v := ?_) rfl (by kernel_rfl) (by kernel_rfl) (by kernel_rfl) (fun _ _ _ h => h) (Or.inl ⟨by kernel_rfl, ?_⟩) (by assumption) ?_
                    rotate_left
                    · intro w hSw; (try dsimp only at hSw); go_simp; with_reducible rfl
                    try simp only [List.getElem_toArray, List.getElem_cons_succ, List.getElem_cons_zero, Act.put, List.setIfInBounds_toArray, List.set_cons_zero, List.set_cons_succ]
                    refine wpAnyH_take (i := 18) (v := ?_) rfl (by kernel_rfl) (by kernel_rfl) (by kernel_rfl) (fun _ _ _ h => h) (Or.inl ⟨by kernel_rfl, ?_⟩) (by assumption) ?_
                    rotate_left
                    · intro w hSw; (try dsimp only at hSw); go_simp; with_reducible rfl
                    try simp only [List.getElem_toArray, List.getElem_cons_succ, List.getElem_cons_zero, Act.put, List.setIfInBounds_toArray, List.set_cons_zero, List.set_cons_succ]
                    refine wpAnyH_take (i := 19) (v := ?_) rfl (by kernel_rfl) (by kernel_rfl) (by kernel_rfl) (fun _ _ _ h => h) (Or.inl ⟨by kernel_rfl, ?_⟩) (by assumption) ?_
                    rotate_left
                    · intro w hSw; (try dsimp only at hSw); go_simp; with_reducible rfl
                    try simp only [List.getElem_toArray, List.getElem_cons_succ, List.getElem_cons_zero, Act.put, List.setIfInBounds_toArray, List.set_cons_zero, List.set_cons_succ]
                    refine wpAnyH_take (i := 20) (v := ?_) rfl (by kernel_rfl) (by kernel_rfl) (by kernel_rfl) (fun _ _ _ h => h) (Or.inl ⟨by kernel_rfl, ?_⟩) (by assumption) ?_
                    rotate_left
                    · intro w hSw; (try dsimp only at hSw); go_simp; with_reducible rfl
                    try simp only [List.getElem_toArray, List.getElem_cons_succ, List.getElem_cons_zero, Act.put, List.setIfInBounds_toArray, List.set_cons_zero, List.set_cons_succ]
                    refine wpAnyH_take (i := 21) (v := ?_) rfl (by kernel_rfl) (by kernel_rfl) (by kernel_rfl) (fun _ _ _ h => h) (Or.inl ⟨by kernel_rfl, ?_⟩) (by assumption) ?_
                    rotate_left
                    · intro w hSw; (try dsimp only at hSw); go_simp; with_reducible rfl
                    try simp only [List.getElem_toArray, List.getElem_cons_succ, List.getElem_cons_zero, Act.put, List.setIfInBounds_toArray, List.set_cons_zero, List.set_cons_succ]
                    refine wpAnyH_take (i := 22) (v := ?_) rfl (by kernel_rfl) (by kernel_rfl) (by kernel_rfl) (fun _ _ _ h => h) (Or.inl ⟨by kernel_rfl, ?_⟩) (by assumption) ?_
                    rotate_left
                    · intro w hSw; (try dsimp only at hSw); go_simp; with_reducible rfl
                    try simp only [List.getElem_toArray, List.getElem_cons_succ, List.getElem_cons_zero, Act.put, List.setIfInBounds_toArray, List.set_cons_zero, List.set_cons_succ]
                    refine wpAnyH_take (i := 23) (v := ?_) rfl (by kernel_rfl) (by kernel_rfl) (by kernel_rfl) (fun _ _ _ h => h) (Or.inl ⟨by kernel_rfl, ?_⟩) (by assumption) ?_
                    rotate_left
                    · intro w hSw; (try dsimp only at hSw); go_simp; with_reducible rfl
                    try simp only [List.getElem_toArray, List.getElem_cons_succ, List.getElem_cons_zero, Act.put, List.setIfInBounds_toArray, List.set_cons_zero, List.set_cons_succ]
                    refine wpAnyH_take (i := 24) (v := ?_) rfl (by kernel_rfl) (by kernel_rfl) (by kernel_rfl) (fun _ _ _ h => h) (Or.inl ⟨by kernel_rfl, ?_⟩) (by assumption) ?_
                    rotate_left
                    · intro w hSw; (try dsimp only at hSw); go_simp; with_reducible rfl
                    try simp only [List.getElem_toArray, List.getElem_cons_succ, List.getElem_cons_zero, Act.put, List.setIfInBounds_toArray, List.set_cons_zero, List.set_cons_succ]
                    refine wpAnyH_take (i := 25) (v := ?_) rfl (by kernel_rfl) (by kernel_rfl) (by kernel_rfl) (fun _ _ _ h => h) (Or.inl ⟨by kernel_rfl, ?_⟩) (by assumption) ?_
                    rotate_left
                    · intro w hSw; (try dsimp only at hSw); go_simp; with_reducible rfl
                    try simp only [List.getElem_toArray, List.getElem_cons_succ, List.getElem_cons_zero, Act.put, List.setIfInBounds_toArray, List.set_cons_zero, List.set_cons_succ]
                    refine wpAnyH_take (i := 26) (v := ?_) rfl (by kernel_rfl) (by kernel_rfl) (by kernel_rfl) (fun _ _ _ h => h) (Or.inl ⟨by kernel_rfl, ?_⟩) (by assumption) ?_
                    rotate_left
                    · intro w hSw; (try dsimp only at hSw); go_simp; with_reducible rfl
                    try simp only [List.getElem_toArray, List.getElem_cons_succ, List.getElem_cons_zero, Act.put, List.setIfInBounds_toArray, List.set_cons_zero, List.set_cons_succ]
                    refine wpAnyH_take (i := 27) (v := ?_) rfl (by kernel_rfl) (by kernel_rfl) (by kernel_rfl) (fun _ _ _ h => h) (Or.inl ⟨by kernel_rfl, ?_⟩) (by assumption) ?_
                    rotate_left
                    · intro w hSw; (try dsimp only at hSw); go_simp; with_reducible rfl
                    try simp only [List.getElem_toArray, List.getElem_cons_succ, List.getElem_cons_zero, Act.put, List.setIfInBounds_toArray, List.set_cons_zero, List.set_cons_succ]
                    refine wpAnyH_take (i := 28) (v := ?_) rfl (by kernel_rfl) (by kernel_rfl) (by kernel_rfl) (fun _ _ _ h => h) (Or.inl ⟨by kernel_rfl, ?_⟩) (by assumption) ?_
                    rotate_left
                    · intro w hSw; (try dsimp only at hSw); go_simp; with_reducible rfl
                    try simp only [List.getElem_toArray, List.getElem_cons_succ, List.getElem_cons_zero, Act.put, List.setIfInBounds_toArray, List.set_cons_zero, List.set_cons_succ]
                    refine wpAnyH_done (by kernel_rfl) ?_ _
                    have hb5 : Below W3.heap.size W3 w4 := ⟨hb4.os, hb4.tape, hb4.output, hb4.size, hb4.block⟩
                    have hg5 : W3.grownBy w4 none := ⟨hb4.os, hb4.tape, hb4.output, hb4.size, fun k hk _ => hb4.block k hk⟩
                    have hv4 := hv.kept hg5 (by simp)
                    have hr4 := own_row_below hr hb5
                    have hq04 := hq0.kept hg5 (by simp)
                    have hq14 := hq1.kept hg5 (by simp)
                    have hbb4 : Below w.heap.size w w4 := hbb.grown hg5 hbb.size (fun k e => by cases e)
                    have hblk4 := (hb5.block q hq3).trans hblk
                    have hKf4 : KeepsOthers W w4 := hKf.trans (KeepsOthers.of_grownBy hg5 (fun _ _ e => by cases e))
                    have hKc4 : KeepsC (w1.heap.size + 1) W w4 := ⟨(hb5.block _ (by omega)).trans hKc.1, (hb5.block _ (by omega)).trans hKc.2⟩
                    have hrd4 : Rd w4 w1.heap.size 1 A ns.length (i64s ns) := hrd3.below' hb5 (by omega)
                    have hco4 := hv4.cell
                    have hcp4 := hq04.cell
                    have hcq4 := hq14.cell
                    have hfp4 := hq04.frozen
                    have hfq4 := hq14.frozen
                    gi_wp2
                    exact ⟨(hKf4.trans (keeps_end' w4 _ _ _ _)).from _, decX_end' (by rw [HD.out, decN_no HOK.out]) hq04 hq14 hbb4⟩
                  · have hcb : chB x2.1 x2.2 t d = false := by rw [show chB x2.1 x2.2 t d = _ from chB_eq (x := x2) (y := (t, d))]; simpa using hx
                    have HOK := Lib.hid (runOk_fine (acc := acc) hn1 hn2 hvb (by rw [hHL.out]; exact fun e => hx (Option.some.inj e)))
                    clear hx
                    gi_wp2
                    refine wp_region_round (S := fun w' => w'.cell? ⟨w1.heap.size, 0, none⟩ = some (.slice (some ⟨b2, off2, none⟩) acc.length c2) ∧ w'.cell? ⟨q, 0, none⟩ = some (.int .i64 t) ∧ w'.cell? ⟨q, 1, none⟩ = some (.int .i64 d) ∧ w'.cell? ⟨b2, off2 + m * 2, none⟩ = some (.int .i64 x2.1) ∧ w'.cell? ⟨b2, off2 + m * 2 + 1, none⟩ = some (.int .i64 x2.2)) (by kernel_rfl) (by kernel_rfl) (fun h => by obtain ⟨_, _, h⟩ := h; exact h) ⟨hv.cell, k0, k1, f1, f2⟩ (fun hHeld => ?_)
                    refine wpAnyH_take (i := 0) (v := ?_) rfl (by kernel_rfl) (by kernel_rfl) (by kernel_rfl) (fun _ _ _ h => h) (Or.inl ⟨by kernel_rfl, ?_⟩) (by assumption) ?_
                    rotate_left
                    · intro w hSw; (try dsimp only at hSw); go_simp; with_reducible rfl
                    try simp only [List.getElem_toArray, List.getElem_cons_succ, List.getElem_cons_zero, Act.put, List.setIfInBounds_toArray, List.set_cons_zero, List.set_cons_succ]
                    refine wpAnyH_take (i := 1) (v := ?_) rfl (by kernel_rfl) (by kernel_rfl) (by kernel_rfl) (fun _ _ _ h => h) (Or.inl ⟨by kernel_rfl, ?_⟩) (by assumption) ?_
                    rotate_left
                    · intro w hSw; (try dsimp only at hSw); go_simp; with_reducible rfl
                    try simp only [List.getElem_toArray, List.getElem_cons_succ, List.getElem_cons_zero, Act.put, List.setIfInBounds_toArray, List.set_cons_zero, List.set_cons_succ]
                    refine wpAnyH_take (i := 2) (v := ?_) rfl (by kernel_rfl) (by kernel_rfl) (by kernel_rfl) (fun _ _ _ h => h) (Or.inl ⟨by kernel_rfl, ?_⟩) (by assumption) ?_
                    rotate_left
                    · intro w hSw; (try dsimp only at hSw); go_simp; with_reducible rfl
                    try simp only [List.getElem_toArray, List.getElem_cons_succ, List.getElem_cons_zero, Act.put, List.setIfInBounds_toArray, List.set_cons_zero, List.set_cons_succ]
                    refine wpAnyH_take (i := 3) (v := ?_) rfl (by kernel_rfl) (by kernel_rfl) (by kernel_rfl) (fun _ _ _ h => h) (Or.inl ⟨by kernel_rfl, ?_⟩) (by assumption) ?_
                    rotate_left
                    · intro w hSw; (try dsimp only at hSw); go_simp; with_reducible rfl
                    try simp only [List.getElem_toArray, List.getElem_cons_succ, List.getElem_cons_zero, Act.put, List.setIfInBounds_toArray, List.set_cons_zero, List.set_cons_succ]
                    refine wpAnyH_take (i := 4) (v := ?_) rfl (by kernel_rfl) (by kernel_rfl) (by kernel_rfl) (fun _ _ _ h => h) (Or.inl ⟨by kernel_rfl, ?_⟩) (by assumption) ?_
                    rotate_left
                    · intro w hSw; (try dsimp only at hSw); go_simp; with_reducible rfl
                    try simp only [List.getElem_toArray, List.getElem_cons_succ, List.getElem_cons_zero, Act.put, List.setIfInBounds_toArray, List.set_cons_zero, List.set_cons_succ]
                    refine wpAnyH_take (i := 5) (v := ?_) rfl (by kernel_rfl) (by kernel_rfl) (by kernel_rfl) (fun _ _ _ h => h) (Or.inl ⟨by kernel_rfl, ?_⟩) (by assumption) ?_
                    rotate_left
                    · intro w hSw; (try dsimp only at hSw); go_simp; with_reducible rfl
                    try simp only [List.getElem_toArray, List.getElem_cons_succ, List.getElem_cons_zero, Act.put, List.setIfInBounds_toArray, List.set_cons_zero, List.set_cons_succ]
                    refine wpAnyH_take (i := 6) (v := ?_) rfl (by kernel_rfl) (by kernel_rfl) (by kernel_rfl) (fun _ _ _ h => h) (Or.inl ⟨by kernel_rfl, ?_⟩) (by assumption) ?_
                    rotate_left
                    · intro w hSw; (try dsimp only at hSw); go_simp; with_reducible rfl
                    try simp only [List.getElem_toArray, List.getElem_cons_succ, List.getElem_cons_zero, Act.put, List.setIfInBounds_toArray, List.set_cons_zero, List.set_cons_succ]
                    refine wpAnyH_take (i := 7) (v := ?_) rfl (by kernel_rfl) (by kernel_rfl) (by kernel_rfl) (fun _ _ _ h => h) (Or.inl ⟨by kernel_rfl, ?_⟩) (by assumption) ?_
                    rotate_left
                    · intro w hSw; (try dsimp only at hSw); go_simp; with_reducible rfl
                    try simp only [List.getElem_toArray, List.getElem_cons_succ, List.getElem_cons_zero, Act.put, List.setIfInBounds_toArray, List.set_cons_zero, List.set_cons_succ]
                    refine wpAnyH_take (i := 8) (v := ?_) rfl (by kernel_rfl) (by kernel_rfl) (by kernel_rfl) (fun _ _ _ h => h) (Or.inl ⟨by kernel_rfl, ?_⟩) (by assumption) ?_
                    rotate_left
                    · intro w hSw; (try dsimp only at hSw); go_simp; with_reducible rfl
                    try simp only [List.getElem_toArray, List.getElem_cons_succ, List.getElem_cons_zero, Act.put, List.setIfInBounds_toArray, List.set_cons_zero, List.set_cons_succ]
                    refine wpAnyH_take (i := 9) (v := ?_) rfl (by kernel_rfl) (by kernel_rfl) (by kernel_rfl) (fun _ _ _ h => h) (Or.inl ⟨by kernel_rfl, ?_⟩) (by assumption) ?_
                    rotate_left
                    · intro w hSw; (try dsimp only at hSw); go_simp; with_reducible rfl
                    try simp only [List.getElem_toArray, List.getElem_cons_succ, List.getElem_cons_zero, Act.put, List.setIfInBounds_toArray, List.set_cons_zero, List.set_cons_succ]
                    refine wpAnyH_take (i := 10) (v := ?_) rfl (by kernel_rfl) (by kernel_rfl) (by kernel_rfl) (fun _ _ _ h => h) (Or.inl ⟨by kernel_rfl, ?_⟩) (by assumption) ?_
                    rotate_left
                    · intro w hSw; (try dsimp only at hSw); go_simp; with_reducible rfl
                    try simp only [List.getElem_toArray, List.getElem_cons_succ, List.getElem_cons_zero, Act.put, List.setIfInBounds_toArray, List.set_cons_zero, List.set_cons_succ]
                    refine wpAnyH_ready (rs := [11]) (by kernel_rfl) (by simp) ?_
                    refine AllReadyH.cons rfl (fun K hK => ?_) AllReadyH.nil
                    go_simp
                    refine (HV.out _).mono ?_
                    rintro e w4 ⟨rfl, hb4⟩
                    try simp only []
                    refine hK.out _ _ ?_ (fun hHeld => ?_)
                    · exact ⟨(hb4.cell (by exact hv.lt)).trans hv.cell, (hb4.cell (by exact hq3)).trans k0, (hb4.cell (by exact hq3)).trans k1, (hb4.cell (by exact hb2)).trans f1, (hb4.cell (by exact hb2)).trans f2⟩
                    clear hK K
                    try simp only [List.getElem_toArray, List.getElem_cons_succ, List.getElem_cons_zero, Act.put, List.setIfInBounds_toArray, List.set_cons_zero, List.set_cons_succ]
                    refine wpAnyH_take (i := 12) (v := ?_) rfl (by kernel_rfl) (by kernel_rfl) (by kernel_rfl) (fun _ _ _ h => h) (Or.inl ⟨by kernel_rfl, ?_⟩) (by assumption) ?_
                    rotate_left
                    · intro w hSw; (try dsimp only at hSw); go_simp; with_reducible rfl
                    try simp only [List.getElem_toArray, List.getElem_cons_succ, List.getElem_cons_zero, Act.put, List.setIfInBounds_toArray, List.set_cons_zero, List.set_cons_succ]
                    refine wpAnyH_take (i := 13) (v := ?_) rfl (by kernel_rfl) (by kernel_rfl) (by kernel_rfl) (fun _ _ _ h => h) (Or.inl ⟨by kernel_rfl, ?_⟩) (by assumption) ?_
                    rotate_left
                    · intro w hSw; (try dsimp only at hSw); go_simp; with_reducible rfl
                    try simp only [List.getElem_toArray, List.getElem_cons_succ, List.getElem_cons_zero, Act.put, List.setIfInBounds_toArray, List.set_cons_zero, List.set_cons_succ]
                    refine wpAnyH_take (i := 14) (v := ?_) rfl (by kernel_rfl) (by kernel_rfl) (by kernel_rfl) (fun _ _ _ h => h) (Or.inl ⟨by kernel_rfl, ?_⟩) (by assumption) ?_
                    rotate_left
                    · intro w hSw; (try dsimp only at hSw); go_simp; with_reducible rfl
                    try simp only [List.getElem_toArray, List.getElem_cons_succ, List.getElem_cons_zero, Act.put, List.setIfInBounds_toArray, List.set_cons_zero, List.set_cons_succ]
                    refine wpAnyH_take (i := 15) (v := ?_) rfl (by kernel_rfl) (by kernel_rfl) (by kernel_rfl) (fun _ _ _ h => h) (Or.inl ⟨by kernel_rfl, ?_⟩) (by assumption) ?_
                    rotate_left
                    · intro w hSw; (try dsimp only at hSw); go_simp; with_reducible rfl
                    try simp only [List.getElem_toArray, List.getElem_cons_succ, List.getElem_cons_zero, Act.put, List.setIfInBounds_toArray, List.set_cons_zero, List.set_cons_succ]
                    refine wpAnyH_take (i := 16) (v := ?_) rfl (by kernel_rfl) (by kernel_rfl) (by kernel_rfl) (fun _ _ _ h => h) (Or.inl ⟨by kernel_rfl, ?_⟩) (by assumption) ?_
                    rotate_left
                    · intro w hSw; (try dsimp only at hSw); go_simp; with_reducible rfl
                    try simp only [List.getElem_toArray, List.getElem_cons_succ, List.getElem_cons_zero, Act.put, List.setIfInBounds_toArray, List.set_cons_zero, List.set_cons_succ]
                    refine wpAnyH_take (i := 17) (v := ?_) rfl (by kernel_rfl) (by kernel_rfl) (by kernel_rfl) (fun _ _ _ h => h) (Or.inl ⟨by kernel_rfl, ?_⟩) (by assumption) ?_
                    rotate_left
                    · intro w hSw; (try dsimp only at hSw); go_simp; with_reducible rfl
                    try simp only [List.getElem_toArray, List.getElem_cons_succ, List.getElem_cons_zero, Act.put, List.setIfInBounds_toArray, List.set_cons_zero, List.set_cons_succ]
                    refine wpAnyH_take (i := 18) (v := ?_) rfl (by kernel_rfl) (by kernel_rfl) (by kernel_rfl) (fun _ _ _ h => h) (Or.inl ⟨by kernel_rfl, ?_⟩) (by assumption) ?_
                    rotate_left
                    · intro w hSw; (try dsimp only at hSw); go_simp; with_reducible rfl
                    try simp only [List.getElem_toArray, List.getElem_cons_succ, List.getElem_cons_zero, Act.put, List.setIfInBounds_toArray, List.set_cons_zero, List.set_cons_succ]
                    refine wpAnyH_take (i := 19) (v := ?_) rfl (by kernel_rfl) (by kernel_rfl) (by kernel_rfl) (fun _ _ _ h => h) (Or.inl ⟨by kernel_rfl, ?_⟩) (by assumption) ?_
                    rotate_left
                    · intro w hSw; (try dsimp only at hSw); go_simp; with_reducible rfl
                    try simp only [List.getElem_toArray, List.getElem_cons_succ, List.getElem_cons_zero, Act.put, List.setIfInBounds_toArray, List.set_cons_zero, List.set_cons_succ]
                    refine wpAnyH_take (i := 20) (v := ?_) rfl (by kernel_rfl) (by kernel_rfl) (by kernel_rfl) (fun _ _ _ h => h) (Or.inl ⟨by kernel_rfl, ?_⟩) (by assumption) ?_
                    rotate_left
                    · intro w hSw; (try dsimp only at hSw); go_simp; with_reducible rfl
                    try simp only [List.getElem_toArray, List.getElem_cons_succ, List.getElem_cons_zero, Act.put, List.setIfInBounds_toArray, List.set_cons_zero, List.set_cons_succ]
                    refine wpAnyH_take (i := 21) (v := ?_) rfl (by kernel_rfl) (by kernel_rfl) (by kernel_rfl) (fun _ _ _ h => h) (Or.inl ⟨by kernel_rfl, ?_⟩) (by assumption) ?_
                    rotate_left
                    · intro w hSw; (try dsimp only at hSw); go_simp; with_reducible rfl
                    try simp only [List.getElem_toArray, List.getElem_cons_succ, List.getElem_cons_zero, Act.put, List.setIfInBounds_toArray, List.set_cons_zero, List.set_cons_succ]
                    refine wpAnyH_take (i := 22) (v := ?_) rfl (by kernel_rfl) (by kernel_rfl) (by kernel_rfl) (fun _ _ _ h => h) (Or.inl ⟨by kernel_rfl, ?_⟩) (by assumption) ?_
                    rotate_left
                    · intro w hSw; (try dsimp only at hSw); go_simp; with_reducible rfl
                    try simp only [List.getElem_toArray, List.getElem_cons_succ, List.getElem_cons_zero, Act.put, List.setIfInBounds_toArray, List.set_cons_zero, List.set_cons_succ]
                    refine wpAnyH_take (i := 23) (v := ?_) rfl (by kernel_rfl) (by kernel_rfl) (by kernel_rfl) (fun _ _ _ h => h) (Or.inl ⟨by kernel_rfl, ?_⟩) (by assumption) ?_
                    rotate_left
                    · intro w hSw; (try dsimp only at hSw); go_simp; with_reducible rfl
                    try simp only [List.getElem_toArray, List.getElem_cons_succ, List.getElem_cons_zero, Act.put, List.setIfInBounds_toArray, List.set_cons_zero, List.set_cons_succ]
                    refine wpAnyH_take (i := 24) (v := ?_) rfl (by kernel_rfl) (by kernel_rfl) (by kernel_rfl) (fun _ _ _ h => h) (Or.inl ⟨by kernel_rfl, ?_⟩) (by assumption) ?_
                    rotate_left
                    · intro w hSw; (try dsimp only at hSw); go_simp; with_reducible rfl
                    try simp only [List.getElem_toArray, List.getElem_cons_succ, List.getElem_cons_zero, Act.put, List.setIfInBounds_toArray, List.set_cons_zero, List.set_cons_succ]
                    refine wpAnyH_take (i := 25) (v := ?_) rfl (by kernel_rfl) (by kernel_rfl) (by kernel_rfl) (fun _ _ _ h => h) (Or.inl ⟨by kernel_rfl, ?_⟩) (by assumption) ?_
                    rotate_left
                    · intro w hSw; (try dsimp only at hSw); go_simp; with_reducible rfl
                    try simp only [List.getElem_toArray, List.getElem_cons_succ, List.getElem_cons_zero, Act.put, List.setIfInBounds_toArray, List.set_cons_zero, List.set_cons_succ]
                    refine wpAnyH_take (i := 26) (v := ?_) rfl (by kernel_rfl) (by kernel_rfl) (by kernel_rfl) (fun _ _ _ h => h) (Or.inl ⟨by kernel_rfl, ?_⟩) (by assumption) ?_
                    rotate_left
                    · intro w hSw; (try dsimp only at hSw); go_simp; with_reducible rfl
                    try simp only [List.getElem_toArray, List.getElem_cons_succ, List.getElem_cons_zero, Act.put, List.setIfInBounds_toArray, List.set_cons_zero, List.set_cons_succ]
                    refine wpAnyH_take (i := 27) (v := ?_) rfl (by kernel_rfl) (by kernel_rfl) (by kernel_rfl) (fun _ _ _ h => h) (Or.inl ⟨by kernel_rfl, ?_⟩) (by assumption) ?_
                    rotate_left
                    · intro w hSw; (try dsimp only at hSw); go_simp; with_reducible rfl
                    try simp only [List.getElem_toArray, List.getElem_cons_succ, List.getElem_cons_zero, Act.put, List.setIfInBounds_toArray, List.set_cons_zero, List.set_cons_succ]
                    refine wpAnyH_take (i := 28) (v := ?_) rfl (by kernel_rfl) (by kernel_rfl) (by kernel_rfl) (fun _ _ _ h => h) (Or.inl ⟨by kernel_rfl, ?_⟩) (by assumption) ?_
                    rotate_left
                    · intro w hSw; (try dsimp only at hSw); go_simp; with_reducible rfl
                    try simp only [List.getElem_toArray, List.getElem_cons_succ, List.getElem_cons_zero, Act.put, List.setIfInBounds_toArray, List.set_cons_zero, List.set_cons_succ]
                    refine wpAnyH_done (by kernel_rfl) ?_ _
                    have hb5 : Below W3.heap.size W3 w4 := ⟨hb4.os, hb4.tape, hb4.output, hb4.size, hb4.block⟩
                    have hg5 : W3.grownBy w4 none := ⟨hb4.os, hb4.tape, hb4.output, hb4.size, fun k hk _ => hb4.block k hk⟩
                    have hv4 := hv.kept hg5 (by simp)
                    have hr4 := own_row_below hr hb5
                    have hq04 := hq0.kept hg5 (by simp)
                    have hq14 := hq1.kept hg5 (by simp)
                    have hbb4 : Below w.heap.size w w4 := hbb.grown hg5 hbb.size (fun k e => by cases e)
                    have hblk4 := (hb5.block q hq3).trans hblk
                    have hKf4 : KeepsOthers W w4 := hKf.trans (KeepsOthers.of_grownBy hg5 (fun _ _ e => by cases e))
                    have hKc4 : KeepsC (w1.heap.size + 1) W w4 := ⟨(hb5.block _ (by omega)).trans hKc.1, (hb5.block _ (by omega)).trans hKc.2⟩
                    have hrd4 : Rd w4 w1.heap.size 1 A ns.length (i64s ns) := hrd3.below' hb5 (by omega)
                    have hco4 := hv4.cell
                    have hcp4 := hq04.cell
                    have hcq4 := hq14.cell
                    have hfp4 := hq04.frozen
                    have hfq4 := hq14.frozen
                    gi_wp2
                    gi_loopw [74] (fun j wr => ∃ k : Nat, j = .int .i64 (k : Nat) ∧ Hid ((k : Int) ≤ n) ∧ DecL w w.heap.size w1.heap.size q ns A t d W (acc ++ List.replicate k (t, d)) wr) (fun j _ => n.toNat - (intOf j).toNat)
                    case atStart => exact ⟨0, rfl, Lib.hid (by omega), by rw [List.replicate_zero, List.append_nil]; exact ⟨⟨_, hv4, hr4, hvq⟩, hq04, hq14, hbb4, hblk4, hrd4, hKf4, hKc4⟩⟩
                    case round =>
                      obtain ⟨k, rfl, hkn, hL⟩ := hrel
                      obtain ⟨M, hM⟩ : ∃ M, M = acc ++ List.replicate k (t, d) := ⟨_, rfl⟩
                      rw [← hM] at hL
                      obtain ⟨⟨v, hv5, hr5, hvq5⟩, hp05, hp15, hbb5, hblk5, hrd5, hKf5, hKc5⟩ := hL
                      have hql := lt_of_block hblk5
                      have hlen : M.length = acc.length + k := by rw [hM]; simp
                      have hk0 : (0 : Int) ≤ (k : Int) := by omega
                      have hk2 : (k : Int) ≤ 2000 := by have := hkn.out; omega
                      by_cases hlt : (k : Int) < n
                      · have hdk : decide ((k : Int) < n) = true := decide_eq_true hlt
                        have hc5 := hv5.cell
                        have k05 : wr.cell? ⟨q, 0, none⟩ = some (.int .i64 t) := by simp only [World.cell?, hblk5]; rfl
                        have k15 : wr.cell? ⟨q, 1, none⟩ = some (.int .i64 d) := by simp only [World.cell?, hblk5]; rfl
                        have hmx : M.length + 1 ≤ maxLen := by rw [hlen]; unfold maxLen; omega
                        have hby : (M.length + 1) * 16 ≤ 140737488355328 := by rw [hlen]; omega
                        have hbs : w1.heap.size + 3 ≤ (wr.alloc (.cells #[.int .i64 t, .int .i64 d] 36)).heap.size := by simp; omega
                        have HL := Lib.hid hlen
                        have HM := Lib.hid hM
                        clear hlen hM
                        gi_wp2_with (gi_at_builtin; refine wpListIn_append_at _ rfl _ _ 22 rfl (w1.heap.size + 3) 36 i0 (.agg #[.int .i64 0, .int .i64 0]) 2 16 Tryd.underlying22 hi hz0 hz1 hz2 rfl (by decide) _ _ _ rfl (hr5.alloc _) ⟨wr.heap.size, 0, none⟩ 1 1 [.int .i64 t, .int .i64 d] rfl rfl (World.news_of_block (cs := #[.int .i64 t, .int .i64 d]) (t := 36) (fr := (0, 0)) (heap_alloc_new wr _)) (by simp [Value.oneCell']) hmx hby hbs ?_; intro v' w3 hown' hgrow hat; obtain ⟨A6, c6, rfl⟩ := own_form hown'; have hv6 := (hv5.alloc (.cells #[.int .i64 t, .int .i64 d] 36)).kept hgrow (hv5.not_row (by decide) hr5); have hc6 := hv6.cell; have hf6 := hv6.frozen)
                        have hcells := own_cells (hr5.alloc (.cells #[.int .i64 t, .int .i64 d] 36))
                        have hrow : ∀ j, j < w1.heap.size + 3 → some j ≠ v.ownBlock := fun j hj e => by have := (hr5.lt _ e.symm).1; omega
                        have hhp : ∀ j, j < wr.heap.size → j ≠ w1.heap.size → some j ≠ v.ownBlock → (w3.setCell ⟨w1.heap.size, 0, none⟩ (.slice A6 (M.length + 1) c6)).heap[j]? = wr.heap[j]? := fun j h1 h2 h3 =>
                          (Below.heap_setCell w3 _ _ _ h2).trans ((hgrow.block j (by simp; omega) h3).trans (Below.heap_alloc _ _ _ h1))
                        have hbelow : Below w.heap.size wr (w3.setCell ⟨w1.heap.size, 0, none⟩ (.slice A6 (M.length + 1) c6)) := ((below_alloc2 (by omega) (.cells #[.int .i64 t, .int .i64 d] 36)).grown hgrow (by simp; omega) (fun k e => by have := (hr5.lt k e).1; omega)).setCell (p := ⟨w1.heap.size, 0, none⟩) (by show _ ≤ w1.heap.size; omega) _
                        refine ⟨⟨k + 1, by go_num, Lib.hid (by omega), ?_⟩, by simp [intOf]; omega⟩
                        rw [List.replicate_succ', ← List.append_assoc, ← HM.out]
                        refine ⟨⟨_, hv6.set _, ?_, ?_⟩, (hhp _ (by omega) (by omega) (hrow _ (by omega))).trans hp05, (hhp _ (by omega) (by omega) (hrow _ (by omega))).trans hp15, hbb5.trans hbelow, (hhp q hql (by omega) (fun e => hvq5 e.symm)).trans hblk5, ((hrd5.alloc (by omega) _).grown hgrow (by simp; omega) (fun g e => by have := (hr5.lt g e).1; omega)).setCell (Nat.le_refl _) _, hKf5.trans (((KeepsOthers.alloc wr _).trans (KeepsOthers.of_grownBy hgrow hcells)).trans (KeepsOthers.setCell _ _ _)), ⟨(hhp _ (by omega) (by omega) (hrow _ (by omega))).trans hKc5.1, (hhp _ (by omega) (by omega) (hrow _ (by omega))).trans hKc5.2⟩⟩
                        · have := hown'.kept (grownBy_setCell' w3 w1.heap.size (.slice A6 (M.length + 1) c6)) (.inr (hv6.not_row (by decide) hown').symm)
                          exact own_chs (by simp) (by rw [chCells_append M]; rfl) this
                        · rcases hat with e | e
                          · rw [e]; exact hvq5
                          · rw [e]; simp; omega
                      · have hdk : decide ((k : Int) < n) = false := decide_eq_false hlt
                        have hkt : n.toNat = k := by have := hkn.out; omega
                        have HT := Lib.hid hkt
                        have HL := Lib.hid hlen
                        have HM := Lib.hid hM
                        clear hkt hlen hM
                        gi_wp2
                        refine ⟨hKf5.from _, hKc5, M, Lib.hid ?_, by have := hkn.out; rw [HL.out]; omega, ⟨⟨v, hv5, hr5⟩, hp05, hp15, hbb5, by omega, hrd5⟩⟩
                        rw [List.length_append, hpl, HD.out, decN_step HOK.out, HT.out, ← HM.out]; rfl
              · have hvb' : validB (t, d) = false := by simpa using hvb
                have HV : Hid (∀ w, Calls Tryd.prog 24 #[.agg #[.int .i64 t, .int .i64 d]] w (Ret (.bool false) w)) := fun w => by have := valid_any (t, d) w; rwa [hvb'] at this
                gi_wp2
                refine wp_region_round (S := fun w' => w'.cell? ⟨w1.heap.size, 0, none⟩ = some (.slice A2 acc.length c2) ∧ w'.cell? ⟨q, 0, none⟩ = some (.int .i64 t) ∧ w'.cell? ⟨q, 1, none⟩ = some (.int .i64 d)) (by kernel_rfl) (by kernel_rfl) (fun h => by obtain ⟨_, _, h⟩ := h; exact h) ⟨hv.cell, k0, k1⟩ (fun hHeld => ?_)
                refine wpAnyH_take (i := 0) (v := ?_) rfl (by kernel_rfl) (by kernel_rfl) (by kernel_rfl) (fun _ _ _ h => h) (Or.inl ⟨by kernel_rfl, ?_⟩) (by assumption) ?_
                rotate_left
                · intro w hSw; (try dsimp only at hSw); go_simp; with_reducible rfl
                try simp only [List.getElem_toArray, List.getElem_cons_succ, List.getElem_cons_zero, Act.put, List.setIfInBounds_toArray, List.set_cons_zero, List.set_cons_succ]
                refine wpAnyH_take (i := 1) (v := ?_) rfl (by kernel_rfl) (by kernel_rfl) (by kernel_rfl) (fun _ _ _ h => h) (Or.inl ⟨by kernel_rfl, ?_⟩) (by assumption) ?_
                rotate_left
                · intro w hSw; (try dsimp only at hSw); go_simp; with_reducible rfl
                try simp only [List.getElem_toArray, List.getElem_cons_succ, List.getElem_cons_zero, Act.put, List.setIfInBounds_toArray, List.set_cons_zero, List.set_cons_succ]
                refine wpAnyH_take (i := 2) (v := ?_) rfl (by kernel_rfl) (by kernel_rfl) (by kernel_rfl) (fun _ _ _ h => h) (Or.inl ⟨by kernel_rfl, ?_⟩) (by assumption) ?_
                rotate_left
                · intro w hSw; (try dsimp only at hSw); go_simp; with_reducible rfl
                try simp only [List.getElem_toArray, List.getElem_cons_succ, List.getElem_cons_zero, Act.put, List.setIfInBounds_toArray, List.set_cons_zero, List.set_cons_succ]
                refine wpAnyH_take (i := 3) (v := ?_) rfl (by kernel_rfl) (by kernel_rfl) (by kernel_rfl) (fun _ _ _ h => h) (Or.inl ⟨by kernel_rfl, ?_⟩) (by assumption) ?_
                rotate_left
                · intro w hSw; (try dsimp only at hSw); go_simp; with_reducible rfl
                try simp only [List.getElem_toArray, List.getElem_cons_succ, List.getElem_cons_zero, Act.put, List.setIfInBounds_toArray, List.set_cons_zero, List.set_cons_succ]
                refine wpAnyH_take (i := 4) (v := ?_) rfl (by kernel_rfl) (by kernel_rfl) (by kernel_rfl) (fun _ _ _ h => h) (Or.inl ⟨by kernel_rfl, ?_⟩) (by assumption) ?_
                rotate_left
                · intro w hSw; (try dsimp only at hSw); go_simp; with_reducible rfl
                try simp only [List.getElem_toArray, List.getElem_cons_succ, List.getElem_cons_zero, Act.put, List.setIfInBounds_toArray, List.set_cons_zero, List.set_cons_succ]
                refine wpAnyH_take (i := 5) (v := ?_) rfl (by kernel_rfl) (by kernel_rfl) (by kernel_rfl) (fun _ _ _ h => h) (Or.inl ⟨by kernel_rfl, ?_⟩) (by assumption) ?_
                rotate_left
                · intro w hSw; (try dsimp only at hSw); go_simp; with_reducible rfl
                try simp only [List.getElem_toArray, List.getElem_cons_succ, List.getElem_cons_zero, Act.put, List.setIfInBounds_toArray, List.set_cons_zero, List.set_cons_succ]
                refine wpAnyH_take (i := 6) (v := ?_) rfl (by kernel_rfl) (by kernel_rfl) (by kernel_rfl) (fun _ _ _ h => h) (Or.inl ⟨by kernel_rfl, ?_⟩) (by assumption) ?_
                rotate_left
                · intro w hSw; (try dsimp only at hSw); go_simp; with_reducible rfl
                try simp only [List.getElem_toArray, List.getElem_cons_succ, List.getElem_cons_zero, Act.put, List.setIfInBounds_toArray, List.set_cons_zero, List.set_cons_succ]
                refine wpAnyH_take (i := 7) (v := ?_) rfl (by kernel_rfl) (by kernel_rfl) (by kernel_rfl) (fun _ _ _ h => h) (Or.inl ⟨by kernel_rfl, ?_⟩) (by assumption) ?_
                rotate_left
                · intro w hSw; (try dsimp only at hSw); go_simp; with_reducible rfl
                try simp only [List.getElem_toArray, List.getElem_cons_succ, List.getElem_cons_zero, Act.put, List.setIfInBounds_toArray, List.set_cons_zero, List.set_cons_succ]
                refine wpAnyH_take (i := 8) (v := ?_) rfl (by kernel_rfl) (by kernel_rfl) (by kernel_rfl) (fun _ _ _ h => h) (Or.inl ⟨by kernel_rfl, ?_⟩) (by assumption) ?_
                rotate_left
                · intro w hSw; (try dsimp only at hSw); go_simp; with_reducible rfl
                try simp only [List.getElem_toArray, List.getElem_cons_succ, List.getElem_cons_zero, Act.put, List.setIfInBounds_toArray, List.set_cons_zero, List.set_cons_succ]
                refine wpAnyH_take (i := 9) (v := ?_) rfl (by kernel_rfl) (by kernel_rfl) (by kernel_rfl) (fun _ _ _ h => h) (Or.inl ⟨by kernel_rfl, ?_⟩) (by assumption) ?_
                rotate_left
                · intro w hSw; (try dsimp only at hSw); go_simp; with_reducible rfl
                try simp only [List.getElem_toArray, List.getElem_cons_succ, List.getElem_cons_zero, Act.put, List.setIfInBounds_toArray, List.set_cons_zero, List.set_cons_succ]
                refine wpAnyH_take (i := 10) (v := ?_) rfl (by kernel_rfl) (by kernel_rfl) (by kernel_rfl) (fun _ _ _ h => h) (Or.inl ⟨by kernel_rfl, ?_⟩) (by assumption) ?_
                rotate_left
                · intro w hSw; (try dsimp only at hSw); go_simp; with_reducible rfl
                try simp only [List.getElem_toArray, List.getElem_cons_succ, List.getElem_cons_zero, Act.put, List.setIfInBounds_toArray, List.set_cons_zero, List.set_cons_succ]
                refine wpAnyH_ready (rs := [11]) (by kernel_rfl) (by simp) ?_
                refine AllReadyH.cons rfl (fun K hK => ?_) AllReadyH.nil
                go_simp
                refine (HV.out _).mono ?_
                rintro e w4 ⟨rfl, hb4⟩
                try simp only []
                refine hK.out _ _ ?_ (fun hHeld => ?_)
                · exact ⟨(hb4.cell (by exact hv.lt)).trans hv.cell, (hb4.cell (by exact hq3)).trans k0, (hb4.cell (by exact hq3)).trans k1⟩
                clear hK K
                try simp only [List.getElem_toArray, List.getElem_cons_succ, List.getElem_cons_zero, Act.put, List.setIfInBounds_toArray, List.set_cons_zero, List.set_cons_succ]
                refine wpAnyH_take (i := 12) (v := ?_) rfl (by kernel_rfl) (by kernel_rfl) (by kernel_rfl) (fun _ _ _ h => h) (Or.inl ⟨by kernel_rfl, ?_⟩) (by assumption) ?_
                rotate_left
                · intro w hSw; (try dsimp only at hSw); go_simp; with_reducible rfl
                try simp only [List.getElem_toArray, List.getElem_cons_succ, List.getElem_cons_zero, Act.put, List.setIfInBounds_toArray, List.set_cons_zero, List.set_cons_succ]
                refine wpAnyH_take (i := 13) (v := ?_) rfl (by kernel_rfl) (by kernel_rfl) (by kernel_rfl) (fun _ _ _ h => h) (Or.inl ⟨by kernel_rfl, ?_⟩) (by assumption) ?_
                rotate_left
                · intro w hSw; (try dsimp only at hSw); go_simp; with_reducible rfl
                try simp only [List.getElem_toArray, List.getElem_cons_succ, List.getElem_cons_zero, Act.put, List.setIfInBounds_toArray, List.set_cons_zero, List.set_cons_succ]
                refine wpAnyH_take (i := 14) (v := ?_) rfl (by kernel_rfl) (by kernel_rfl) (by kernel_rfl) (fun _ _ _ h => h) (Or.inl ⟨by kernel_rfl, ?_⟩) (by assumption) ?_
                rotate_left
                · intro w hSw; (try dsimp only at hSw); go_simp; with_reducible rfl
                try simp only [List.getElem_toArray, List.getElem_cons_succ, List.getElem_cons_zero, Act.put, List.setIfInBounds_toArray, List.set_cons_zero, List.set_cons_succ]
                refine wpAnyH_take (i := 15) (v := undef) rfl (by kernel_rfl) (by kernel_rfl) (by kernel_rfl) (fun _ _ _ h => h) (Or.inr ⟨by kernel_rfl, rfl⟩) (by assumption) ?_
                try simp only [List.getElem_toArray, List.getElem_cons_succ, List.getElem_cons_zero, Act.put, List.setIfInBounds_toArray, List.set_cons_zero, List.set_cons_succ]
                refine wpAnyH_take (i := 16) (v := undef) rfl (by kernel_rfl) (by kernel_rfl) (by kernel_rfl) (fun _ _ _ h => h) (Or.inr ⟨by kernel_rfl, rfl⟩) (by assumption) ?_
                try simp only [List.getElem_toArray, List.getElem_cons_succ, List.getElem_cons_zero, Act.put, List.setIfInBounds_toArray, List.set_cons_zero, List.set_cons_succ]
                refine wpAnyH_take (i := 17) (v := undef) rfl (by kernel_rfl) (by kernel_rfl) (by kernel_rfl) (fun _ _ _ h => h) (Or.inr ⟨by kernel_rfl, rfl⟩) (by assumption) ?_
                try simp only [List.getElem_toArray, List.getElem_cons_succ, List.getElem_cons_zero, Act.put, List.setIfInBounds_toArray, List.set_cons_zero, List.set_cons_succ]
                refine wpAnyH_take (i := 18) (v := undef) rfl (by kernel_rfl) (by kernel_rfl) (by kernel_rfl) (fun _ _ _ h => h) (Or.inr ⟨by kernel_rfl, rfl⟩) (by assumption) ?_
                try simp only [List.getElem_toArray, List.getElem_cons_succ, List.getElem_cons_zero, Act.put, List.setIfInBounds_toArray, List.set_cons_zero, List.set_cons_succ]
                refine wpAnyH_take (i := 19) (v := undef) rfl (by kernel_rfl) (by kernel_rfl) (by kernel_rfl) (fun _ _ _ h => h) (Or.inr ⟨by kernel_rfl, rfl⟩) (by assumption) ?_
                try simp only [List.getElem_toArray, List.getElem_cons_succ, List.getElem_cons_zero, Act.put, List.setIfInBounds_toArray, List.set_cons_zero, List.set_cons_succ]
                refine wpAnyH_take (i := 20) (v := undef) rfl (by kernel_rfl) (by kernel_rfl) (by kernel_rfl) (fun _ _ _ h => h) (Or.inr ⟨by kernel_rfl, rfl⟩) (by assumption) ?_
                try simp only [List.getElem_toArray, List.getElem_cons_succ, List.getElem_cons_zero, Act.put, List.setIfInBounds_toArray, List.set_cons_zero, List.set_cons_succ]
                refine wpAnyH_take (i := 21) (v := undef) rfl (by kernel_rfl) (by kernel_rfl) (by kernel_rfl) (fun _ _ _ h => h) (Or.inr ⟨by kernel_rfl, rfl⟩) (by assumption) ?_
                try simp only [List.getElem_toArray, List.getElem_cons_succ, List.getElem_cons_zero, Act.put, List.setIfInBounds_toArray, List.set_cons_zero, List.set_cons_succ]
                refine wpAnyH_take (i := 22) (v := undef) rfl (by kernel_rfl) (by kernel_rfl) (by kernel_rfl) (fun _ _ _ h => h) (Or.inr ⟨by kernel_rfl, rfl⟩) (by assumption) ?_
                try simp only [List.getElem_toArray, List.getElem_cons_succ, List.getElem_cons_zero, Act.put, List.setIfInBounds_toArray, List.set_cons_zero, List.set_cons_succ]
                refine wpAnyH_take (i := 23) (v := undef) rfl (by kernel_rfl) (by kernel_rfl) (by kernel_rfl) (fun _ _ _ h => h) (Or.inr ⟨by kernel_rfl, rfl⟩) (by assumption) ?_
                try simp only [List.getElem_toArray, List.getElem_cons_succ, List.getElem_cons_zero, Act.put, List.setIfInBounds_toArray, List.set_cons_zero, List.set_cons_succ]
                refine wpAnyH_take (i := 24) (v := undef) rfl (by kernel_rfl) (by kernel_rfl) (by kernel_rfl) (fun _ _ _ h => h) (Or.inr ⟨by kernel_rfl, rfl⟩) (by assumption) ?_
                try simp only [List.getElem_toArray, List.getElem_cons_succ, List.getElem_cons_zero, Act.put, List.setIfInBounds_toArray, List.set_cons_zero, List.set_cons_succ]
                refine wpAnyH_take (i := 25) (v := undef) rfl (by kernel_rfl) (by kernel_rfl) (by kernel_rfl) (fun _ _ _ h => h) (Or.inr ⟨by kernel_rfl, rfl⟩) (by assumption) ?_
                try simp only [List.getElem_toArray, List.getElem_cons_succ, List.getElem_cons_zero, Act.put, List.setIfInBounds_toArray, List.set_cons_zero, List.set_cons_succ]
                refine wpAnyH_take (i := 26) (v := undef) rfl (by kernel_rfl) (by kernel_rfl) (by kernel_rfl) (fun _ _ _ h => h) (Or.inr ⟨by kernel_rfl, rfl⟩) (by assumption) ?_
                try simp only [List.getElem_toArray, List.getElem_cons_succ, List.getElem_cons_zero, Act.put, List.setIfInBounds_toArray, List.set_cons_zero, List.set_cons_succ]
                refine wpAnyH_take (i := 27) (v := undef) rfl (by kernel_rfl) (by kernel_rfl) (by kernel_rfl) (fun _ _ _ h => h) (Or.inr ⟨by kernel_rfl, rfl⟩) (by assumption) ?_
                try simp only [List.getElem_toArray, List.getElem_cons_succ, List.getElem_cons_zero, Act.put, List.setIfInBounds_toArray, List.set_cons_zero, List.set_cons_succ]
                refine wpAnyH_take (i := 28) (v := ?_) rfl (by kernel_rfl) (by kernel_rfl) (by kernel_rfl) (fun _ _ _ h => h) (Or.inl ⟨by kernel_rfl, ?_⟩) (by assumption) ?_
                rotate_left
                · intro w hSw; (try dsimp only at hSw); go_simp; with_reducible rfl
                try simp only [List.getElem_toArray, List.getElem_cons_succ, List.getElem_cons_zero, Act.put, List.setIfInBounds_toArray, List.set_cons_zero, List.set_cons_succ]
                refine wpAnyH_done (by kernel_rfl) ?_ _
                have hb5 : Below W3.heap.size W3 w4 := ⟨hb4.os, hb4.tape, hb4.output, hb4.size, hb4.block⟩
                have hg5 : W3.grownBy w4 none := ⟨hb4.os, hb4.tape, hb4.output, hb4.size, fun k hk _ => hb4.block k hk⟩
                have hv4 := hv.kept hg5 (by simp)
                have hr4 := own_row_below hr hb5
                have hq04 := hq0.kept hg5 (by simp)
                have hq14 := hq1.kept hg5 (by simp)
                have hbb4 : Below w.heap.size w w4 := hbb.grown hg5 hbb.size (fun k e => by cases e)
                have hblk4 := (hb5.block q hq3).trans hblk
                have hKf4 : KeepsOthers W w4 := hKf.trans (KeepsOthers.of_grownBy hg5 (fun _ _ e => by cases e))
                have hKc4 : KeepsC (w1.heap.size + 1) W w4 := ⟨(hb5.block _ (by omega)).trans hKc.1, (hb5.block _ (by omega)).trans hKc.2⟩
                have hrd4 : Rd w4 w1.heap.size 1 A ns.length (i64s ns) := hrd3.below' hb5 (by omega)
                have hco4 := hv4.cell
                have hcp4 := hq04.cell
                have hcq4 := hq14.cell
                have hfp4 := hq04.frozen
                have hfq4 := hq14.frozen
                gi_wp2
                exact ⟨(hKf4.trans (keeps_end' w4 _ _ _ _)).from _, decX_end' (by rw [HD.out, decN_no (runOk_bad hvb')]) hq04 hq14 hbb4⟩
        case done =>
          rintro D ys W hD rfl hJ hK
          obtain ⟨acc, hdec, hal, ⟨⟨v, hv, hr⟩, hq0, hq1, hbb, hsz, hrd⟩⟩ := hJ
          have hD' : w1.heap.size + 3 ≤ D := by simpa using hD
          have hfin : decN [] ns = some acc := by rw [hdec.out, List.length_range, ← HN.out, List.drop_length]; rfl
          have HF := Lib.hid hfin
          obtain ⟨A2, c2, rfl⟩ := own_form hr
          have hcv := hv.cell
          have hcf := hq0.frozen
          have hcg := hq1.frozen
          have hch0 := hq0.cell
          have hch1 := hq1.cell
          clear hfin hdec
          gi_wp2
          have hE0 : Boxed ((W.setCell ⟨w.heap.size, 0, none⟩ (.slice A2 acc.length c2)).setCell ⟨w.heap.size + 1, 0, none⟩ (.int .i64 0)) w.heap.size 22 (.slice A2 acc.length c2) := Boxed.other (Boxed.set _ hq0) (by omega) _
          have hE1 : Boxed ((W.setCell ⟨w.heap.size, 0, none⟩ (.slice A2 acc.length c2)).setCell ⟨w.heap.size + 1, 0, none⟩ (.int .i64 0)) (w.heap.size + 1) 24 (.int .i64 0) := Boxed.set _ (Boxed.other hq1 (by omega) _)
          have hED : ((W.setCell ⟨w.heap.size, 0, none⟩ (.slice A2 acc.length c2)).setCell ⟨w.heap.size + 1, 0, none⟩ (.int .i64 0)).heap[D]? = some (.deferred (some [])) := (Below.heap_setCell _ _ _ _ (by show _ ≠ w.heap.size + 1; omega)).trans ((Below.heap_setCell _ _ _ _ (by show _ ≠ w.heap.size; omega)).trans hK)
          have hEr := (hr.kept (grownBy_setCell' W w.heap.size (.slice A2 acc.length c2)) (.inr (fun e => by have := (hr.lt _ e).1; omega))).kept (grownBy_setCell' _ (w.heap.size + 1) (.int .i64 0)) (.inr (fun e => by have := (hr.lt _ e).1; omega))
          have hEb : Below w.heap.size w ((W.setCell ⟨w.heap.size, 0, none⟩ (.slice A2 acc.length c2)).setCell ⟨w.heap.size + 1, 0, none⟩ (.int .i64 0)) := (hbb.setCell (p := ⟨w.heap.size, 0, none⟩) (Nat.le_refl _) _).setCell (p := ⟨w.heap.size + 1, 0, none⟩) (Nat.le_succ _) _
          obtain ⟨W5, hW5⟩ : ∃ W5, (W.setCell ⟨w.heap.size, 0, none⟩ (.slice A2 acc.length c2)).setCell ⟨w.heap.size + 1, 0, none⟩ (.int .i64 0) = W5 := ⟨_, rfl⟩
          rw [hW5] at hE0 hE1 hED hEr hEb ⊢
          have hgD := grownBy_putObj' W5 D (.deferred none)
          refine ⟨by simp, .inl ⟨_, _, rfl, run_takeDeferred hED, ?_⟩⟩
          refine ⟨_, results_cell2 rfl rfl rfl (load_cell (by kernel_rfl) (hE0.kept hgD (by simp; omega)).cell) (load_cell (by kernel_rfl) (hE1.kept hgD (by simp; omega)).cell), ?_⟩
          have hrD := hEr.kept hgD (by
            rcases hEr.2 with ⟨e, _⟩ | ⟨g, cap, cur, e, _, hgb, _⟩
            · exact .inl (by rw [e]; rfl)
            · refine .inr fun e' => ?_
              rw [e] at e'
              obtain rfl : g = D := by simpa [Value.ownBlock] using e'
              rw [hgb] at hED; cases hED)
          rw [decS_some HR.out h3 HF.out]
          exact ⟨A2, c2, rfl, Rd.of_own hrD, own_cap hrD, hEb.grown hgD hEb.size (fun k e => by cases e; omega)⟩
        case stop =>
          rintro D c' pre W hD _ ⟨rfl, hno, h3', h4, h5⟩ hK
          have hD' : w1.heap.size + 3 ≤ D := by simpa using hD
          gi_wp2
          have hgD := grownBy_putObj' W D (.deferred none)
          refine ⟨by simp, .inl ⟨_, _, rfl, run_takeDeferred hK, ?_⟩⟩
          refine ⟨_, results_cell2 rfl rfl rfl (load_cell (by kernel_rfl) (h3'.kept hgD (by simp; omega)).cell) (load_cell (by kernel_rfl) (h4.kept hgD (by simp; omega)).cell), ?_⟩
          exact retD_no (decS_none HR.out hno.out) (h5.grown hgD h5.size (fun k e => by cases e; omega))
      · gi_wp2
        refine ⟨_, results_cell2 rfl rfl rfl (load_cell (by kernel_rfl) hB0.cell) (load_cell (by kernel_rfl) hB1.cell), ?_⟩
        exact retD_no (decS_bad HR.out (.inr (.inr h3))) hb2
    · have hn1 : ((n : Int) != (L.length : Int)) = true := by simp; omega
      gi_wp2
      refine ⟨_, results_cell2 rfl rfl rfl (load_cell (by kernel_rfl) hB0.cell) (load_cell (by kernel_rfl) hB1.cell), ?_⟩
      exact retD_no (decS_bad HR.out (.inr (.inl hn))) hb2
  · have he1 : (e0 != 0) = true := by simpa using he
    gi_wp2
    refine ⟨_, results_cell2 rfl rfl rfl (load_cell (by kernel_rfl) hB0.cell) (load_cell (by kernel_rfl) hB1.cell), ?_⟩
    exact retD_no (decS_bad HR.out (.inl he)) hb2
end Go.Proofs.YtaficbkaofhjeaaDoor
