/- nurserylaw32.ScheduleLong, walked: it returns true. Conditions: the numbers lie within their kinds; the table of powers of ten lies where it was laid. -/
import Derived.Test.YtaficbkaofhjeaaDoorAwake
import Derived.Test.YtaficbkaofhjeaaDoorRefDec
import Derived.Test.YtaficbkaofhjeaaDoorRep
import Derived.Test.YtaficbkaofhjeaaDoorCodesW
import Derived.Test.YtaficbkaofhjeaaDoorTripW
import Derived.Deep.RegionHeld3
namespace Go.Proofs.YtaficbkaofhjeaaDoor
open Go.RowKit Go.Joins
theorem step_append_rd {P : Program} {ops : Array Oper} {o : Oper} {a : Act} {w : World} {K : Act → World → Prop} {Q : Exit → Act → World → Prop} {E : Prop} (hgd : o.guard = none) (s x : Operand) (t : TypeId)
    (ho : o.op = .call { callee := .builtin .append, args := #[s, x], argTypes := #[t, t] })
    (base : Nat) (e : TypeId) (i : TypeInfo) (z : Value) (size bytes : Nat) (ht : P.underlying t = some (.slice e)) (hi : P.info? e = some i) (hz : i.zero = some z)
    (hsize : i.size = size) (hby : i.bytes = bytes) (hzs : z.cells.size = size) (hsz : 0 < size)
    (v : Value) (n : Nat) (xs : List Value) (hs : a.eval s = v) (hown : w.ownsRow base e size v n xs)
    (B : Nat) (A : Option Addr) (m c : Nat) (news : List Value) (hx : a.eval x = .slice A m c) (hr : Rd w B size A m news) (h1 : ∀ u ∈ news, u.oneCell' = true)
    (h63 : n + m ≤ maxLen) (hbytes : (n + m) * bytes ≤ 140737488355328) (hbase : base ≤ w.heap.size)
    (h : ∀ A' c' w', w'.ownsRow base e size (.slice A' (n + m) c') (n + m) (xs ++ news) → w.grownBy w' v.ownBlock → K (a.put o.dst (.slice A' (n + m) c')) w') :
    if Region.wanted o (yielded ops a.tmps) = true then Oper.wp P o a w K Q else E := by
  have hw : Region.wanted o (yielded ops a.tmps) = true := by simp [Region.wanted, hgd]
  rw [if_pos hw]
  obtain ⟨v', w', hrun, h2, h3, h4⟩ := run_append_rd (P := P) w base t o.type e i z size bytes ht hi hz hsize hby hzs hsz v n xs hown B A m c news hr h1 h63 hbytes hbase
  obtain ⟨A', c', rfl⟩ := own_form h2
  unfold Oper.wp execOp
  simp only [ho, resolve, invoke, builtin, Sem.run_bind, Sem.run_pure, Result.andThen_ok, List.map_toArray, List.map_cons, List.map_nil, hs, hx, hrun]
  exact h A' c' w' h2 h3

theorem lit_chs (W : World) (x0 x1 : Int) : Chs (W.alloc (.cells #[.int .i64 x0, .int .i64 x1] 36)) (W.alloc (.cells #[.int .i64 x0, .int .i64 x1] 36)).heap.size (some ⟨W.heap.size, 0, none⟩) [(x0, x1)] :=
  Rd.of_own (World.ownsRow_lit (base := W.heap.size) (e := 36) (size := 2) W #[.int .i64 x0, .int .i64 x1] 1 (Nat.le_refl _) (by unfold maxLen; omega) rfl)
theorem lit_chs2 (W : World) (x0 x1 : Int) (o : Obj) : Chs ((W.alloc (.cells #[.int .i64 x0, .int .i64 x1] 36)).alloc o) ((W.alloc (.cells #[.int .i64 x0, .int .i64 x1] 36)).alloc o).heap.size (some ⟨W.heap.size, 0, none⟩) [(x0, x1)] :=
  Rd.more (Rd.alloc (lit_chs W x0 x1) (Nat.le_refl _) o) (by simp)
theorem lit_d (W : World) (x0 x1 : Int) (b : Nat) (h : W.heap.size = b) : Chs (W.alloc (.cells #[.int .i64 x0, .int .i64 x1] 36)).drew (W.alloc (.cells #[.int .i64 x0, .int .i64 x1] 36)).drew.heap.size (some ⟨b, 0, none⟩) [(x0, x1)] := by
  subst h; exact lit_chs W x0 x1
theorem lit_d2 (W : World) (x0 x1 : Int) (o : Obj) (b : Nat) (h : W.heap.size = b) : Chs ((W.alloc (.cells #[.int .i64 x0, .int .i64 x1] 36)).alloc o).drew ((W.alloc (.cells #[.int .i64 x0, .int .i64 x1] 36)).alloc o).drew.heap.size (some ⟨b, 0, none⟩) [(x0, x1)] := by
  subst h; exact lit_chs2 W x0 x1 o
/-- The two boxed parameters, somewhere below B. -/
theorem keep_alloc {W : World} {p q B : Nat} {a b c d : Value} (h : (W.cell? ⟨p, 0, none⟩ = some a ∧ W.cell? ⟨p, 1, none⟩ = some b ∧ W.cell? ⟨q, 0, none⟩ = some c ∧ W.cell? ⟨q, 1, none⟩ = some d) ∧ (p < W.heap.size ∧ q < W.heap.size ∧ B ≤ W.heap.size)) (o : Obj) :
    ((W.alloc o).cell? ⟨p, 0, none⟩ = some a ∧ (W.alloc o).cell? ⟨p, 1, none⟩ = some b ∧ (W.alloc o).cell? ⟨q, 0, none⟩ = some c ∧ (W.alloc o).cell? ⟨q, 1, none⟩ = some d) ∧ (p < (W.alloc o).heap.size ∧ q < (W.alloc o).heap.size ∧ B ≤ (W.alloc o).heap.size) := by
  obtain ⟨⟨h0, h1, h2, h3⟩, h4, h5, h6⟩ := h
  have hs : (W.alloc o).heap.size = W.heap.size + 1 := by simp
  refine ⟨⟨(World.cell?_alloc_lt W o _ h4).trans h0, (World.cell?_alloc_lt W o _ h4).trans h1, (World.cell?_alloc_lt W o _ h5).trans h2, (World.cell?_alloc_lt W o _ h5).trans h3⟩, by omega, by omega, by omega⟩
theorem keep_below {W W' : World} {p q B : Nat} {a b c d : Value} (h : (W.cell? ⟨p, 0, none⟩ = some a ∧ W.cell? ⟨p, 1, none⟩ = some b ∧ W.cell? ⟨q, 0, none⟩ = some c ∧ W.cell? ⟨q, 1, none⟩ = some d) ∧ (p < W.heap.size ∧ q < W.heap.size ∧ B ≤ W.heap.size)) (hb : Below W.heap.size W W') :
    (W'.cell? ⟨p, 0, none⟩ = some a ∧ W'.cell? ⟨p, 1, none⟩ = some b ∧ W'.cell? ⟨q, 0, none⟩ = some c ∧ W'.cell? ⟨q, 1, none⟩ = some d) ∧ (p < W'.heap.size ∧ q < W'.heap.size ∧ B ≤ W'.heap.size) := by
  obtain ⟨⟨h0, h1, h2, h3⟩, h4, h5, h6⟩ := h
  have hs := hb.size
  refine ⟨⟨(hb.cell h4).trans h0, (hb.cell h4).trans h1, (hb.cell h5).trans h2, (hb.cell h5).trans h3⟩, by omega, by omega, by omega⟩

theorem keep_belowB {W W' : World} {p q B C : Nat} {a b c d : Value} (h : (W.cell? ⟨p, 0, none⟩ = some a ∧ W.cell? ⟨p, 1, none⟩ = some b ∧ W.cell? ⟨q, 0, none⟩ = some c ∧ W.cell? ⟨q, 1, none⟩ = some d) ∧ (p < W.heap.size ∧ q < W.heap.size ∧ B ≤ W.heap.size)) (hb : Below C W W') (hp : p < C) (hq : q < C) :
    (W'.cell? ⟨p, 0, none⟩ = some a ∧ W'.cell? ⟨p, 1, none⟩ = some b ∧ W'.cell? ⟨q, 0, none⟩ = some c ∧ W'.cell? ⟨q, 1, none⟩ = some d) ∧ (p < W'.heap.size ∧ q < W'.heap.size ∧ B ≤ W'.heap.size) := by
  obtain ⟨⟨h0, h1, h2, h3⟩, h4, h5, h6⟩ := h
  have hs := hb.size
  refine ⟨⟨(hb.cell hp).trans h0, (hb.cell hp).trans h1, (hb.cell hq).trans h2, (hb.cell hq).trans h3⟩, by omega, by omega, by omega⟩
theorem encSRes_form2 (l : List Ch) : ∃ L E, encSRes l = .tuple #[.string ⟨List.toArray L⟩, .int .i64 E] ∧ L.length < 2305843009213693952 := by
  by_cases h : checkE l = 0
  · exact ⟨_, _, by rw [encSRes, if_pos h, listRes], txt_len h⟩
  · exact ⟨[], _, by rw [encSRes, if_neg h], by simp⟩

set_option maxRecDepth 100000 in
set_option maxHeartbeats 6400000 in
theorem long_any (f s : Nat) (x0 x1 y0 y1 : Int) (hf : f < 65536) (hs : s < 65536) (w : World) (ht : PowTab w) :
    Calls Tryd.prog 5 #[.int .u16 f, .int .u16 s, .agg #[.int .i64 x0, .int .i64 x1], .agg #[.int .i64 y0, .int .i64 y1]] w (Ret (.bool true) w) := by
  obtain ⟨i0, hi, hz0, hz1, hz2⟩ := info_parts chinfo
  obtain ⟨p, hp⟩ : ∃ p, p = f % 2002 := ⟨_, rfl⟩
  obtain ⟨q, hq⟩ : ∃ q, q = s % 2002 := ⟨_, rfl⟩
  have hp1 : (f : Int) % 2002 = (p : Int) := by omega
  have hq1 : (s : Int) % 2002 = (q : Int) := by omega
  have hp2 : (f : Int).tmod 2002 = (p : Int) := by rw [Int.tmod_eq_emod_of_nonneg (by omega)]; exact hp1
  have hq2 : (s : Int).tmod 2002 = (q : Int) := by rw [Int.tmod_eq_emod_of_nonneg (by omega)]; exact hq1
  have hpl : p ≤ 2001 := by omega
  have hql : q ≤ 2001 := by omega
  have hpw : (IntKind.i64.wrap (f : Int)).tmod 2002 = (p : Int) := by rw [show IntKind.i64.wrap (f : Int) = (f : Int) from by rw [IntKind.wrap_i64]; omega]; exact hp2
  have hqw : (IntKind.i64.wrap (s : Int)).tmod 2002 = (q : Int) := by rw [show IntKind.i64.wrap (s : Int) = (s : Int) from by rw [IntKind.wrap_i64]; omega]; exact hq2
  have hf0 : (0 : Int) ≤ (f : Int) := by omega
  have hs0 : (0 : Int) ≤ (s : Int) := by omega
  clear hp hq
  go_enter Tryd.func5, Tryd.ntmps5
  go_wp2_with fail
  have hS0 := keep_alloc (B := w.heap.size + 2) (W := (w.alloc (.cells #[.int .i64 x0, .int .i64 x1] 36)).alloc (.cells #[.int .i64 y0, .int .i64 y1] 36)) (p := w.heap.size) (q := w.heap.size + 1) (a := .int .i64 x0) (b := .int .i64 x1) (c := .int .i64 y0) (d := .int .i64 y1)
  have hC : ((w.alloc (.cells #[.int .i64 x0, .int .i64 x1] 36)).alloc (.cells #[.int .i64 y0, .int .i64 y1] 36)).cell? ⟨w.heap.size, 0, none⟩ = some (.int .i64 x0) ∧ ((w.alloc (.cells #[.int .i64 x0, .int .i64 x1] 36)).alloc (.cells #[.int .i64 y0, .int .i64 y1] 36)).cell? ⟨w.heap.size, 1, none⟩ = some (.int .i64 x1) ∧
      ((w.alloc (.cells #[.int .i64 x0, .int .i64 x1] 36)).alloc (.cells #[.int .i64 y0, .int .i64 y1] 36)).cell? ⟨w.heap.size + 1, 0, none⟩ = some (.int .i64 y0) ∧ ((w.alloc (.cells #[.int .i64 x0, .int .i64 x1] 36)).alloc (.cells #[.int .i64 y0, .int .i64 y1] 36)).cell? ⟨w.heap.size + 1, 1, none⟩ = some (.int .i64 y1) := by
    have e : (w.alloc (.cells #[.int .i64 x0, .int .i64 x1] 36)).heap.size = w.heap.size + 1 := by simp
    refine ⟨(World.cell?_alloc_lt _ _ _ (by simp)).trans (cells_new w _ _ 0), (World.cell?_alloc_lt _ _ _ (by simp)).trans (cells_new w _ _ 1), ?_, ?_⟩
    · rw [← e]; exact cells_new _ _ _ 0
    · rw [← e]; exact cells_new _ _ _ 1
  have hB0 : Below w.heap.size w ((w.alloc (.cells #[.int .i64 x0, .int .i64 x1] 36)).alloc (.cells #[.int .i64 y0, .int .i64 y1] 36)) := (below_alloc _ _).trans (below_alloc2 (by simp) _)
  have hZ : ((w.alloc (.cells #[.int .i64 x0, .int .i64 x1] 36)).alloc (.cells #[.int .i64 y0, .int .i64 y1] 36)).heap.size = w.heap.size + 2 := by simp
  generalize World.alloc (World.alloc w _) _ = W0 at hC hB0 hZ ⊢
  have hS : (W0.cell? ⟨w.heap.size, 0, none⟩ = some (.int .i64 x0) ∧ W0.cell? ⟨w.heap.size, 1, none⟩ = some (.int .i64 x1) ∧ W0.cell? ⟨w.heap.size + 1, 0, none⟩ = some (.int .i64 y0) ∧ W0.cell? ⟨w.heap.size + 1, 1, none⟩ = some (.int .i64 y1)) ∧ (w.heap.size < W0.heap.size ∧ w.heap.size + 1 < W0.heap.size ∧ w.heap.size ≤ W0.heap.size) := ⟨hC, by omega, by omega, by omega⟩
  clear hS0 hC
  go_region_held3 (fun w' => (w'.cell? ⟨w.heap.size, 0, none⟩ = some (.int .i64 x0) ∧ w'.cell? ⟨w.heap.size, 1, none⟩ = some (.int .i64 x1) ∧ w'.cell? ⟨w.heap.size + 1, 0, none⟩ = some (.int .i64 y0) ∧ w'.cell? ⟨w.heap.size + 1, 1, none⟩ = some (.int .i64 y1)) ∧ (w.heap.size < w'.heap.size ∧ w.heap.size + 1 < w'.heap.size ∧ w.heap.size ≤ w'.heap.size))
    (first | exact hS | exact keep_alloc (by assumption) _ | exact keep_below (by assumption) hb5 | exact keep_below (by assumption) hb6 | exact keep_belowB (by assumption) hb7 (by omega) (by omega))
    (first
      | (go_at_call 18; (with_reducible refine (rep_any _ 1 (x0, x1) p hpl _ ?_).mono ?_); (first | exact lit_d _ _ _ _ (by simp [hZ]) | exact lit_d2 _ _ _ _ _ (by simp [hZ])); intro e w5 h5; obtain ⟨g5, he5, hown5, hb5⟩ := h5; subst he5;
          have hZ5 : w.heap.size + 2 ≤ w5.heap.size := (by have := hb5.size; simp [hZ] at this; omega);
          have hB5 : Below (w.heap.size + 2) W0 w5 := (by first | exact Below.trans ((below_alloc2 (by omega) _).drew) (hb5.mono (by simp [hZ])) | exact Below.trans (((below_alloc2 (by omega) _).trans (below_alloc2 (by simp [hZ]) _)).drew) (hb5.mono (by first | (simp [hZ]; done) | (simp [hZ]; omega))));
          have hO5 := own_base (base' := w.heap.size + 2) hown5 (by first | (simp [hZ]; done) | (simp [hZ]; omega)))
      | (go_at_call 18; (with_reducible refine (rep_any _ 1 (y0, y1) q hql _ ?_).mono ?_); (first | exact lit_chs _ _ _ | exact Rd.more (Rd.below (lit_d _ _ _ _ (by simp [hZ])) hb5) hb5.size | exact Rd.more (Rd.below (lit_d2 _ _ _ _ _ (by simp [hZ])) hb5) hb5.size); intro e w6 h6; obtain ⟨g6, he6, hown6, hb6⟩ := h6; subst he6;
          have hO6 : w6.ownsRow (w.heap.size + 2) 36 2 (.slice (some ⟨g5, 0, none⟩) p p) p (chCells (List.replicate p (x0, x1))) := (by first | exact ownsRow_below hO5 hb6 | exact ownsRow_below (World.ownsRow.alloc hO5 _) hb6);
          have hB6 : Below (w.heap.size + 2) W0 w6 := (by first | exact hB5.trans (hb6.mono hZ5) | exact (hB5.trans (below_alloc2 hZ5 _)).trans (hb6.mono (by first | (simp; done) | (simp; omega))));
          have hZ6 : w.heap.size + 2 ≤ w6.heap.size := (by have := hB6.size; omega))
      | (refine step_append_rd (by rfl) _ _ _ (by rfl) (w.heap.size + 2) 36 i0 _ 2 16 Tryd.underlying22 hi hz0 hz1 hz2 rfl (by omega) _ p (chCells (List.replicate p (x0, x1))) (by rfl) hO6 w6.heap.size _ q _ (chCells (List.replicate q (y0, y1))) (by rfl) (Rd.of_own hown6) (chCells_one _) (by unfold maxLen; omega) (by omega) hZ6 ?_; intro A' c' w7 hown7 hg7;
          have hb7 : Below (w.heap.size + 2) w6 w7 := (Below.refl _ _).grown hg7 hZ6 (fun k e => (World.ownsRow.lt hO6 k e).1))
      | fail)
  all_goals
    obtain ⟨l, hl⟩ : ∃ l : List Ch, l = List.replicate p (x0, x1) ++ List.replicate q (y0, y1) := ⟨_, rfl⟩
    have hlen : p + q = l.length := by rw [hl]; simp
    have hO7 : w7.ownsRow (w.heap.size + 2) 36 2 (.slice A' l.length c') l.length (chCells l) := by rw [← hlen, hl, chCells_append]; exact hown7
    have hc0 : Chs w7 w7.heap.size A' l := Rd.of_own hO7
    have hcap := own_cap hO7
    have hm : l.length ≤ maxLen := by rw [← hlen]; unfold maxLen; omega
    have hB0' : Below w.heap.size w w7 := hB0.trans ((hB6.trans hb7).mono (by omega))
    obtain ⟨L, E, hTE, hLl⟩ := encSRes_form2 l
    obtain ⟨T, hT⟩ : ∃ T : ByteArray, T = ⟨L.toArray⟩ := ⟨_, rfl⟩
    have henc := schEncode_any A' c' l hcap w7 hc0 hm
    have henc2 := fun w1 hc => refEncode_any A' c' l w1 hc hm
    have hdec := fun w => dec_any L hLl w
    have hdec2 := fun w => refDec_any L hLl w
    rw [decRS_eq] at hdec2
    have hml := decS_len L
    rw [hTE, ← hT] at henc henc2
    rw [← hT] at hdec hdec2
    obtain ⟨⟨m, e0⟩, hr⟩ : ∃ r, decS L = r := ⟨_, rfl⟩
    rw [hr] at hdec hdec2 hml
    have H1 := Lib.hid henc
    have H2 := Lib.hid henc2
    have H3 := Lib.hid hdec
    have H4 := Lib.hid hdec2
    rw [hlen]
    clear henc henc2 hdec hdec2 hTE hr hT hlen hl hown7 hO7 hO6 hO5 hS hg7 hb7 hB6 hB5 hb6 hb5 hown5 hown6 hp1 hp2 hq1 hq2 hpw hqw hB0
    go_wp2_with fail
    refine H1.out.mono ?_
    rintro e w1 ⟨rfl, hb1⟩
    have hB1 : Below w.heap.size w w1 := hB0'.trans (hb1.mono hB0'.size)
    have hc1 := Rd.more (Rd.below hc0 hb1) hb1.size
    go_wp2_with fail
    refine (H2.out _ hc1).mono ?_
    rintro e w2 ⟨rfl, hb2⟩
    have hB2 : Below w.heap.size w w2 := hB1.trans (hb2.mono hB1.size)
    have hc2 := Rd.more (Rd.below hc1 hb2) hb2.size
    go_wp2_with fail
    refine (H3.out _).mono ?_
    rintro e w3 ⟨M, cM, rfl, hd3, hcap3, hb3⟩
    dsimp only at hd3 hcap3 hml ⊢
    have hB3 : Below w.heap.size w w3 := hB2.trans (hb3.mono hB2.size)
    have hc3 := Rd.more (Rd.below hc2 hb3) hb3.size
    go_wp2_with fail
    refine (H4.out _).mono ?_
    rintro e w4 ⟨N, cN, rfl, hd4, hcap4, hb4⟩
    dsimp only at hd4 hcap4 ⊢
    have hB4 : Below w.heap.size w w4 := hB3.trans (hb4.mono hB3.size)
    have hc4 := Rd.more (Rd.below hc3 hb4) hb4.size
    have hd3' := Rd.more (Rd.below hd3 hb4) hb4.size
    go_wp2_with fail
    refine (check_any A' c' l _ hc4 hm).mono ?_
    rintro e w5' ⟨rfl, hb5'⟩
    have hB5' : Below w.heap.size w w5' := hB4.trans (hb5'.mono hB4.size)
    have hc5 := Rd.more (Rd.below hc4 hb5') hb5'.size
    have hd35 := Rd.more (Rd.below hd3' hb5') hb5'.size
    have hd45 := Rd.more (Rd.below hd4 hb5') hb5'.size
    go_wp2_with fail
    refine (refCheck_any A' c' l _ hc5 hm).mono ?_
    rintro e w6' ⟨rfl, hb6'⟩
    have hB6' : Below w.heap.size w w6' := hB5'.trans (hb6'.mono hB5'.size)
    have hd36 := Rd.more (Rd.below hd35 hb6') hb6'.size
    have hd46 := Rd.more (Rd.below hd45 hb6') hb6'.size
    go_wp2_with fail
    refine (same_any M N cM cN m m _ hd36 hd46 hml hml).mono ?_
    rw [show decide (m = m) = true from by simp]
    rintro e w7' ⟨rfl, hb7'⟩
    have hB7' : Below w.heap.size w w7' := hB6'.trans (hb7'.mono hB6'.size)
    go_wp2_with fail
    refine (awake_any _ (ht.below hB7')).mono ?_
    rintro e w8 ⟨rfl, hb8⟩
    go_wp2_with fail
    go_ret
    exact ⟨rfl, hB7'.trans (hb8.mono hB7'.size)⟩
end Go.Proofs.YtaficbkaofhjeaaDoor
