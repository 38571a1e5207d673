/- digraph's distances, walked: where there is a way the number is not negative. Conditions: the graph lies in memory. -/
import Derived.Test.YtkpjdanfpolimaaGreatLsDg3
import Derived.Test.YtkpjdanfpolimaaGreatLsSusM
import Derived.Lib.QuietBelow
set_option linter.unusedSimpArgs false
set_option maxRecDepth 100000
set_option maxHeartbeats 6400000
namespace Go.Proofs.YtkpjdanfpolimaaGreat
open Go.RowKit Go.Shelf Go.Sort
attribute [local go_sem] Oper.semAt_some
theorem Rws.turn {W W' : World} {B N n : Nat} {r : Nat → List Nat} {v : Nat → Value} {row : Option Nat} (h : Rws W B N n r v) (hg : W.grownBy W' row) (hr : ∀ k, row = some k → ∃ o : Obj, W.heap[k]? = some o ∧ o.isCells = false) : Rws W' B N n r v := by
 refine ⟨h.lt, h.row.of_block (hg.block _ h.row.lt (fun e => ?_)), fun u hu => (h.own u hu).kept hg ?_, h.far⟩
 ·obtain ⟨o, ho, hc⟩ := hr N e.symm
  obtain ⟨c, hb, -⟩ := h.row
  rw [hb] at ho; injection ho with ho; subst ho; cases hc
 ·by_cases e : (v u).ownBlock = row
  ·left
   cases hq : (v u).ownBlock with
   | none => rfl
   | some g =>
    exfalso
    rw [hq] at e
    obtain ⟨o, ho, hc⟩ := hr g e.symm
    rcases (h.own u hu).2 with ⟨h1, -⟩ | ⟨g', cap, cur, h1, -, h2, -⟩
    ·rw [h1] at hq; cases hq
    ·rw [h1] at hq; injection hq with hq; subst hq
     rw [h2] at ho; injection ho with ho; subst ho; cases hc
  ·exact .inr e
/-- What lies in memory while distances turns the edges. -/
structure Bk (M n N : Nat) (l : List (Nat × Nat)) (w : World) (E : List (Nat × Nat)) (v : Nat → Value) (W : World) : Prop where
 net : Net W M N n l
 gb : Bx W M [.int .i64 n, .slice (some ⟨N, 0, none⟩) n n]
 rows : Rws W (M + 3) (M + 1) n (succs E) v
 ob : Bx W (M + 2) [.slice (some ⟨M + 1, 0, none⟩) n n]
 below : Below w.heap.size w W
 lo : w.heap.size ≤ M
 size : M + 3 ≤ W.heap.size
theorem Bk.next {M n N : Nat} {l E : List (Nat × Nat)} {w W W' : World} {v : Nat → Value} (h : Bk M n N l w E v W) (hb : Below W.heap.size W W') : Bk M n N l w E v W' :=
 have hz := h.size
 have hlo := h.lo
 ⟨h.net.below' hb (by omega), h.gb.below hb (by omega), h.rows.below hb, h.ob.below hb (by omega), h.below.trans (hb.mono (by omega)), h.lo, Nat.le_trans h.size hb.size⟩
theorem Bk.turn {M n N : Nat} {l E : List (Nat × Nat)} {w W W' : World} {v : Nat → Value} {row : Option Nat} (h : Bk M n N l w E v W) (hg : W.grownBy W' row) (hr : ∀ k, row = some k → M + 3 ≤ k ∧ ∃ o : Obj, W.heap[k]? = some o ∧ o.isCells = false) : Bk M n N l w E v W' :=
 have hz := h.size
 have hlo := h.lo
 have hb : Below (M + 3) W W' := ⟨hg.os, hg.tape, hg.output, hg.size, fun k hk => hg.block k (by omega) (fun e => by have := (hr k e.symm).1; omega)⟩
 ⟨h.net.below' hb (by omega), h.gb.below hb (by omega), h.rows.turn hg fun k e => (hr k e).2, h.ob.below hb (by omega), h.below.trans (hb.mono (by omega)), h.lo, Nat.le_trans h.size hg.size⟩
theorem bk_new {n : Nat} {l : List (Nat × Nat)} {w : World} (N : Nat) (hN : Net w w.heap.size N n l) :
  Bk w.heap.size n N l w [] (fun _ => .slice none 0 0) (((w.alloc (.cells #[.int .i64 n, .slice (some ⟨N, 0, none⟩) n n] 98)).alloc (.cells (madeCells #[.slice none 0 0] n) 27)).alloc (.cells #[.slice (some ⟨w.heap.size + 1, 0, none⟩) n n] 35)) := by
 have hba := below_alloc w (.cells #[.int .i64 n, .slice (some ⟨N, 0, none⟩) n n] 98)
 have hga := bx_new w #[.int .i64 n, .slice (some ⟨N, 0, none⟩) n n] 98
 have hza : (w.alloc (.cells #[.int .i64 n, .slice (some ⟨N, 0, none⟩) n n] 98)).heap.size = w.heap.size + 1 := by simp
 have hrb := World.rowIs_made (w.alloc (.cells #[.int .i64 n, .slice (some ⟨N, 0, none⟩) n n] 98)) (.slice none 0 0) n 27
 have hbb := below_alloc (w.alloc (.cells #[.int .i64 n, .slice (some ⟨N, 0, none⟩) n n] 98)) (.cells (madeCells #[.slice none 0 0] n) 27)
 have hzb : ((w.alloc (.cells #[.int .i64 n, .slice (some ⟨N, 0, none⟩) n n] 98)).alloc (.cells (madeCells #[.slice none 0 0] n) 27)).heap.size = w.heap.size + 2 := by simp
 rw [hza] at hrb
 generalize w.alloc _ = wa at *
 generalize wa.alloc _ = wb at *
 have hbc := below_alloc wb (.cells #[.slice (some ⟨w.heap.size + 1, 0, none⟩) n n] 35)
 have hgc := bx_new wb #[.slice (some ⟨w.heap.size + 1, 0, none⟩) n n] 35
 rw [hzb] at hgc
 have hbx := (hba.trans (hbb.mono (by omega))).trans (hbc.mono (by omega))
 exact ⟨hN.below' hbx (Nat.le_refl _), (hga.below hbb (by omega)).below hbc (by omega), ⟨by omega, hrb.alloc _, fun u hu => World.ownsRow_nil _ _ _ _, fun u u' _ _ _ => .inl rfl⟩, hgc, hbx, Nat.le_refl _, by simp; omega⟩
theorem succs_push (E : List (Nat × Nat)) (x i j : Nat) : (if j = x then succs E x ++ [i] else succs E j) = succs (E ++ [(x, i)]) j := by
 rw [succs_append, succs_one]
 by_cases e : j = x
 ·subst e; simp
 ·rw [if_neg e, if_neg (fun z => e z.symm)]; simp
theorem Bk.push {M n N x i : Nat} {l E : List (Nat × Nat)} {w W1 Wb : World} {v : Nat → Value} (h : Bk M n N l w E v W1) (hx : x < n) {v' : Value}
  (ho : Wb.ownsRow (M + 3) 3 1 v' ((succs E x).length + 1) (natC (succs E x) ++ [.int .i64 i])) (hg : W1.grownBy Wb (v x).ownBlock) (hv : v'.ownBlock = (v x).ownBlock ∨ v'.ownBlock = some W1.heap.size) :
  Bk M n N l w (E ++ [(x, i)]) (fun j => if j = x then v' else v j) (Wb.setCell ⟨M + 1, x, none⟩ v') ∧ Below M W1 (Wb.setCell ⟨M + 1, x, none⟩ v') ∧ ∀ B, KeepsFrom B W1 (Wb.setCell ⟨M + 1, x, none⟩ v') := by
 have hz := h.size
 have hlo := h.lo
 have hvB : ∀ g, (v x).ownBlock = some g → M + 3 ≤ g := fun g e => ((h.rows.own x hx).lt _ e).1
 have hbM : Below (M + 1) W1 (Wb.setCell ⟨M + 1, x, none⟩ v') := ((Below.refl (M + 1) W1).grown hg (by omega) (fun k e => by have := hvB k e; omega)).setCell (p := ⟨M + 1, x, none⟩) (Nat.le_refl _) _
 have hR := h.rows.push hx ho hg hv
 refine ⟨⟨h.net.below' hbM (by omega), h.gb.below hbM (by omega), ⟨hR.lt, hR.row, fun u hu => by rw [← succs_push]; exact hR.own u hu, hR.far⟩, fun j u hu => ?_, h.below.trans (hbM.mono (by omega)), h.lo, Nat.le_trans h.size hbM.size⟩, hbM.mono (by omega), fun B => ⟨hbM.size, fun k o hk hko hc => ?_⟩⟩
 ·exact (World.cell?_setCell_far _ _ _ _ (by show M + 1 ≠ M + 2; omega)).trans (hg.cell (h.ob j u hu) (fun e => by have := hvB _ e.symm; simp at this))
 ·have hne : (⟨M + 1, x, none⟩ : Addr).block ≠ k := fun e => by
   have e : M + 1 = k := e
   subst e
   have h2 := (hg.block (M + 1) (by omega) (fun e => by have := hvB _ e.symm; omega)).symm
   obtain ⟨c, hb, -⟩ := h.rows.row
   rw [hb] at hko; injection hko with hko; subst hko; cases hc
  rw [heap_setCell_other _ _ _ _ (fun e => hne e.symm)]
  refine (hg.block k (Array.getElem?_eq_some_iff.1 hko).1 (fun e => ?_)).trans hko
  rcases (h.rows.own x hx).2 with ⟨h1, -⟩ | ⟨g', cap, cur, h1, -, h2, -⟩
  ·rw [h1] at e; cases e
  ·rw [h1] at e; injection e with e; subst e
   rw [h2] at hko; injection hko with hko; subst hko; cases hc
theorem dist_any (n N tg : Nat) (l : List (Nat × Nat)) (hn : n ≤ 200) (hl : l.length ≤ 2000) (hr : EdR n l) (hto : tg < n) (w : World) (hN : Net w w.heap.size N n l) :
  Calls Tryz.prog 76 #[netV n N, .int .i64 tg] w fun e W => ∃ (R : Nat) (d : Nat → Int), e = .returned (.slice (some ⟨R, 0, none⟩) n n) ∧ w.heap.size ≤ R ∧ W.rowIs R 3 n (fun v => .int .i64 (d v)) ∧ (∀ v, v < n → -1 ≤ d v ∧ d v < n ∧ (Way l v tg → 0 ≤ d v)) ∧ Below w.heap.size w W := by
 obtain ⟨i0, hi, hz⟩ := Option.map_eq_some_iff.1 intInfo
 have hz0 : i0.zero = some (.int .i64 0) := congrArg (fun t => t.1) hz
 have hz1 : i0.size = 1 := congrArg (fun t => t.2.1) hz
 have hz2 : i0.bytes = 8 := congrArg (fun t => t.2.2) hz
 clear hz
 have hmk := fun W => run_make_row' (P := Tryz.prog) 35 27 (.slice none 0 0) 24 Tryz.underlying35 (by kernel_rfl) rfl .i64 .i64 n (by omega) (by omega) W
 unfold netV
 refine (callsIn_wide (n := 4)).1 (callsIn_of_wp_marks Tryz.func76 rfl trivial ?_ rfl)
 simp only [Tryz.ntmps76, List.size_toArray, List.length_cons, List.length_nil, Nat.reduceAdd, Nat.reduceSub, Array.replicate_succ, Array.replicate_zero, List.push_toArray, List.append_toArray, List.nil_append, List.cons_append]
 gi_upto_region 2 with fail
 have hO := bk_new N hN
 have hM0 := Marks.nil (w.heap.size + 3) (((w.alloc (.cells #[.int .i64 n, .slice (some ⟨N, 0, none⟩) n n] 98)).alloc (.cells (madeCells #[.slice none 0 0] n) 27)).alloc (.cells #[.slice (some ⟨w.heap.size + 1, 0, none⟩) n n] 35))
 clear hN hmk
 generalize World.alloc _ _ = wa at hO hM0 ⊢
 generalize hMw : w.heap.size = M at hO hM0 ⊢
 rw [show M + 1 + 1 = M + 2 from rfl]
 have g0 := hO.gb 0 _ rfl
 gi_upto_region 3 with fail
 clear g0
 refine wpIn_loop (fun a W => ∃ (i : Nat) (v : Nat → Value) (Ds : List Nat) (u6 u18 u19 u20 u21 u22 u34 : Value), a = ⟨((.agg #[.int .i64 n, .slice (some ⟨N, 0, none⟩) n n] : Value) :: .int .i64 tg :: .pointer (some ⟨M, 0, none⟩) :: undef :: .slice none 0 0 :: .pointer (some ⟨M + 2, 0, none⟩) :: u6 :: undef :: undef :: undef :: undef :: undef :: .pointer (some ⟨M, 0, none⟩) :: .int .i64 n :: .slice (some ⟨M + 1, 0, none⟩) n n :: .pointer (some ⟨M, 0, none⟩) :: .int .i64 n :: .int .i64 (i : Nat) :: u18 :: u19 :: u20 :: u21 :: u22 :: undef :: undef :: undef :: undef :: undef :: undef :: undef :: undef :: undef :: undef :: undef :: u34 :: undef :: undef :: undef :: undef :: undef :: undef :: undef :: undef :: undef :: undef :: undef :: undef :: undef :: undef :: undef :: undef :: undef :: undef :: undef :: undef :: undef :: undef :: undef :: undef :: undef :: undef :: undef :: undef :: undef :: undef :: undef :: undef :: undef :: undef :: undef :: undef :: undef :: undef :: undef :: undef :: undef :: undef :: undef :: undef :: undef :: undef :: []).toArray, Ds.map markD⟩ ∧ i ≤ n ∧ Bk M n N l w (flipTo l i) v W ∧ Marks (M + 3) Ds W) (fun a _ => n - (intOf (a.tmps.getD 17 undef)).toNat) ?start ?round
 case start => exact ⟨0, _, [], _, _, _, _, _, _, _, rfl, by omega, hO, hM0⟩
 case round =>
  clear hO hM0
  rintro _ W ⟨i, v, Ds, u6, u18, u19, u20, u21, u22, u34, rfl, hin, hO, hM⟩
  have hi0 : (0 : Int) ≤ (i : Int) := by omega
  have hwr : IntKind.i64.wrap ((i : Int) + 1) = (i : Int) + 1 := by rw [IntKind.wrap_i64]; omega
  by_cases hlt : i < n
  ·have hd1 : decide ((i : Int) < (n : Int)) = true := decide_eq_true (by omega)
   have hd2 : decide (i < n) = true := decide_eq_true hlt
   have hjl : (i : Int) < (n : Int) := by omega
   gi_upto_region 5 with fail
   have hba := below_alloc W (.cells #[.int .i64 i] 3)
   have hU := bx_new W #[.int .i64 i] 3
   have hzU := hO.size
   have hO1 := hO.next hba
   have hM1 := hM.below hba
   have hvU : ∀ u, u < n → (v u).ownBlock ≠ some W.heap.size := fun u hu e => by have := ((hO.rows.own u hu).lt _ e).2; omega
   have hz1 : (W.alloc (.cells #[.int .i64 i] 3)).heap.size = W.heap.size + 1 := by simp
   clear hO hM hba
   generalize W.alloc _ = W2 at hU hO1 hM1 hz1 ⊢
   generalize W.heap.size = U at hU hzU hz1 hvU ⊢
   have g0 := hO1.gb 0 _ rfl
   have g1 := hO1.gb 1 _ rfl
   have e0 := hU 0 _ rfl
   gi_wp2
   refine ⟨trivial, (callsIn_wide.2 (succ_any n N i W2)).mono ?_⟩
   rintro e W3 ⟨rfl, rfl⟩
   have hbS := succObjs_below n N i W2
   have hzS := succObjs_size n N i W2
   have hmS := succObjs_mem M n N i l W2 (hO1.net) (by omega)
   have hO3 := hO1.next hbS
   have hM3 := hM1.below hbS
   have hU3 := hU.below hbS (by omega)
   have hDs : ∀ D, D ∈ Ds → D < W2.heap.size := fun D hD => (Array.getElem?_eq_some_iff.1 (hM1.at_ D hD).2).1
   clear hO1 hM1 hU g0 g1 e0 hbS
   generalize succObjs n N i W2 = W3 at hzS hmS hO3 hM3 hU3 ⊢
   have hUb : U + 1 ≤ W2.heap.size := Nat.le_of_eq hz1.symm
   generalize W2.heap.size = b0 at hzS hmS hDs hUb hz1 ⊢
   clear hz1
   unfold succVal
   gi_wp2
   refine wpIn_rangeFunc_ac rfl (by omega) (gf := 75) (lb := #[.pointer (some ⟨b0, 0, none⟩), .pointer (some ⟨b0 + 1, 0, none⟩)]) rfl trivial (enters_of Tryz.func75 (by kernel_rfl) rfl)
    (succ_low 3 (by omega) M n N l b0 i (by omega) hlt hl W3 hmS (by omega))
    (fun h k => h.trans k) (fun W l o o' _ hl hc _ => LowKept.putObj o' hl hc) (Below.refl _ _) (fun _ => rfl)
    (fun A' B' k o hab _ ho hc => hab ▸ ho)
    (fun pre W => (∃ v, Bk M n N l w (flipTo l i ++ pre.map (fun x => (x, i))) v W ∧ ∀ u, u < n → (v u).ownBlock ≠ some U) ∧ Bx W U [.int .i64 i] ∧ Marks (M + 3) Ds W ∧ b0 + 2 ≤ W.heap.size) (fun _ _ _ => False)
    (fun pre W W' row hs hg hr => by
     obtain ⟨⟨v, h1, h2⟩, h3, h4, h5⟩ := hs
     have hbw := below_grownFrom (B := b0 + 2) hg (fun r e => by have := (hr r e).1; omega) h5
     exact ⟨⟨v, h1.turn hg (fun r e => ⟨by have := (hr r e).1; omega, (hr r e).2⟩), h2⟩, h3.below hbw (by omega), ⟨h4.nodup, fun D hD => ⟨(h4.at_ D hD).1, (hbw.block D (by have := hDs D hD; omega)).trans (h4.at_ D hD).2⟩⟩, Nat.le_trans h5 hg.size⟩)
    (fun _ => fun _ _ _ _ h _ _ => h)
    (fun pre A' B' hs hab => hab ▸ hs)
    ⟨⟨v, by simpa using hO3, hvU⟩, hU3, hM3, by omega⟩
    (fun x a' _ => a' = ⟨((.agg #[.int .i64 n, .slice (some ⟨N, 0, none⟩) n n] : Value) :: .int .i64 tg :: .pointer (some ⟨M, 0, none⟩) :: undef :: .slice none 0 0 :: .pointer (some ⟨M + 2, 0, none⟩) :: .pointer (some ⟨U, 0, none⟩) :: .int .i64 (x : Nat) :: undef :: undef :: undef :: undef :: .pointer (some ⟨M, 0, none⟩) :: .int .i64 n :: .slice (some ⟨M + 1, 0, none⟩) n n :: .pointer (some ⟨M, 0, none⟩) :: .int .i64 n :: .int .i64 (i : Nat) :: .bool true :: .int .i64 (i : Nat) :: .agg #[.int .i64 n, .slice (some ⟨N, 0, none⟩) n n] :: .int .i64 (i : Nat) :: .func (.func 75) #[] #[.pointer (some ⟨b0, 0, none⟩), .pointer (some ⟨b0 + 1, 0, none⟩)] :: .int .i64 (x : Nat) :: undef :: undef :: undef :: undef :: undef :: undef :: undef :: undef :: undef :: undef :: u34 :: undef :: undef :: undef :: undef :: undef :: undef :: undef :: undef :: undef :: undef :: undef :: undef :: undef :: undef :: undef :: undef :: undef :: undef :: undef :: undef :: undef :: undef :: undef :: undef :: undef :: undef :: undef :: undef :: undef :: undef :: undef :: undef :: undef :: undef :: undef :: undef :: undef :: undef :: undef :: undef :: undef :: undef :: undef :: undef :: undef :: undef :: []).toArray, []⟩) (fun _ _ _ _ _ hs _ _ => hs) ?assign ?body ?done ?stop
   case assign =>
    rintro lp pre x W K hJ hK'
    gi_wp2
    exact hK' _ _ (KeepsFrom.refl _ _) (LowKept.refl _ _) hJ rfl
   case stop => rintro D c' pre W hD _ hno hK'; exact hno.elim
   case body =>
    rintro lp pre x a' W ⟨⟨v2, h1, h2⟩, h3, h4, h5⟩ rfl hpre
    have hxe : (i, x) ∈ l := mem_succs.1 (hpre.subset (by simp))
    have hxn : x < n := (hr _ hxe).2
    have hpl : pre.length + 1 ≤ (succs l i).length := by have := hpre.length_le; rwa [List.length_append, List.length_singleton] at this
    have hsl : (succs (flipTo l i ++ pre.map (fun x => (x, i))) x).length ≤ 402000 := by
     refine Nat.le_trans (succs_len _ _) ?_
     rw [List.length_append, List.length_map]
     have q1 := flipTo_len l i
     have q2 := succs_len l i
     have q3 := Nat.mul_le_mul (show i ≤ 200 by omega) hl
     omega
    have HPM := Lib.hid (show flipTo l i ++ (pre ++ [x]).map (fun x => (x, i)) = flipTo l i ++ pre.map (fun x => (x, i)) ++ [(x, i)] by rw [List.map_append, List.append_assoc]; rfl)
    generalize flipTo l i ++ pre.map (fun x => (x, i)) = E at h1 hsl HPM
    have hx0 : (0 : Int) ≤ (x : Int) := by omega
    have hx1 : (x : Int) < (n : Int) := by omega
    have o0 := h1.ob 0 _ rfl
    have e0 := h3 0 _ rfl
    gi_upto_region 7 with fail
    refine wp_region_round (S := fun w' => w'.cell? ⟨M + 2, 0, none⟩ = some (.slice (some ⟨M + 1, 0, none⟩) n n) ∧ w'.cell? ⟨U, 0, none⟩ = some (.int .i64 i)) (by kernel_rfl) (by kernel_rfl) (fun h => by obtain ⟨_, _, h⟩ := h; exact h) ⟨o0, e0⟩ (fun hHeld => ?_)
    have h1d := h1.next (below_drews W.heap.size W 1)
    change Bk M n N l w E v2 W.drew at h1d
    have h3d : Bx W.drew U [.int .i64 i] := h3
    have h4d := h4.below (below_drews W.heap.size W 1)
    change Marks _ _ W.drew at h4d
    have h5d : b0 + 2 ≤ W.drew.heap.size := h5
    have hkf : KeepsFrom W3.heap.size W W.drew := ⟨Nat.le_refl _, fun _ _ _ h _ => h⟩
    have hkc : LowKept M W W.drew := ⟨Nat.le_refl _, fun _ _ _ _ _ h => h⟩
    have hSd : W.drew.cell? ⟨M + 2, 0, none⟩ = some (.slice (some ⟨M + 1, 0, none⟩) n n) ∧ W.drew.cell? ⟨U, 0, none⟩ = some (.int .i64 i) := ⟨o0, e0⟩
    clear h1 h3 h4 h5 o0 e0
    generalize W.drew = Wd at h1d h3d h4d h5d hkf hkc hSd hHeld ⊢
    have HK : Hid (∀ (W : World) (q : Obj), (W.cell? ⟨M + 2, 0, none⟩ = some (.slice (some ⟨M + 1, 0, none⟩) n n) ∧ W.cell? ⟨U, 0, none⟩ = some (.int .i64 i)) → ((W.alloc q).cell? ⟨M + 2, 0, none⟩ = some (.slice (some ⟨M + 1, 0, none⟩) n n) ∧ (W.alloc q).cell? ⟨U, 0, none⟩ = some (.int .i64 i))) :=
     Lib.hid (fun W q h => ⟨((below_alloc W q).cell (block_lt_of_cell h.1)).trans h.1, ((below_alloc W q).cell (block_lt_of_cell h.2)).trans h.2⟩)
    have c0 := h1d.rows.row.cell hxn
    have hbA := below_alloc Wd (.cells #[.int .i64 i] 3)
    have c1 := (hbA.cell (block_lt_of_cell c0)).trans c0
    have h1a := h1d.next hbA
    obtain ⟨v', Wb, hrun, hown3, hgr3, hnil3, hob3⟩ := run_append_own_at (P := Tryz.prog) (w := Wd.alloc (.cells #[.int .i64 i] 3)) (M + 3) 27 27 3 i0 (.int .i64 0) 1 8 Tryz.underlying27 hi hz0 hz1 hz2 rfl (by omega) (v2 x) _ _ ((h1d.rows.own x hxn).alloc _) ⟨Wd.heap.size, 0, none⟩ 1 1 [.int .i64 i] rfl (fun q u hq => by
     match q, hq with
     | 0, hq => simp only [List.getElem?_cons_zero] at hq; injection hq with hq; subst hq; simp [Addr.add]) (fun u hu => by simp only [List.mem_singleton] at hu; subst hu; rfl) (by unfold maxLen; omega) (by omega) (by have := h1d.size; simp; omega)
    obtain ⟨ga, ca, rfl⟩ := own_form hown3
    obtain ⟨v', hv'⟩ : ∃ v', v' = Value.slice ga ((succs E x).length + 1) ca := ⟨_, rfl⟩
    rw [← hv'] at hown3 hob3
    obtain ⟨hB4, hb4, hk4⟩ := h1a.push hxn hown3 hgr3 hob3
    have hvM : (v2 x).ownBlock ≠ some (M + 2) := fun e => by have := ((h1d.rows.own x hxn).lt _ e).1; omega
    have hvN : (v2 x).ownBlock ≠ some (M + 1) := fun e => by have := ((h1d.rows.own x hxn).lt _ e).1; omega
    have hvx := h2 x hxn
    have hUl : U < Wd.heap.size := block_lt_of_cell hSd.2
    have hMl := h1d.size
    have hSA := HK.out Wd (.cells #[.int .i64 i] 3) hSd
    have hS3 : Wb.cell? ⟨M + 2, 0, none⟩ = some (.slice (some ⟨M + 1, 0, none⟩) n n) ∧ Wb.cell? ⟨U, 0, none⟩ = some (.int .i64 i) := ⟨hgr3.cell hSA.1 (fun e => hvM e.symm), hgr3.cell hSA.2 (fun e => hvx e.symm)⟩
    have c3 := hgr3.cell c1 (fun e => hvN e.symm)
    have f3 : Wb.frozen? ⟨M + 1, x, none⟩ = false := (World.frozen?_of_block (hgr3.block (M + 1) (by simp; omega) (fun e => hvN e.symm))).trans (h1a.rows.row.frozen x)
    have hS4 : (Wb.setCell ⟨M + 1, x, none⟩ v').cell? ⟨M + 2, 0, none⟩ = some (.slice (some ⟨M + 1, 0, none⟩) n n) ∧ (Wb.setCell ⟨M + 1, x, none⟩ v').cell? ⟨U, 0, none⟩ = some (.int .i64 i) :=
     ⟨(World.cell?_setCell_far _ _ _ _ (by show M + 1 ≠ M + 2; omega)).trans hS3.1, (World.cell?_setCell_far _ _ _ _ (by show M + 1 ≠ U; omega)).trans hS3.2⟩
    have hzA : (Wd.alloc (.cells #[.int .i64 i] 3)).heap.size = Wd.heap.size + 1 := by simp
    have hb5 : b0 + 2 ≤ (Wb.setCell ⟨M + 1, x, none⟩ v').heap.size := Nat.le_trans (by omega) hb4.size
    have hmk : Marks (M + 3) Ds (Wb.setCell ⟨M + 1, x, none⟩ v') := h4d.keep fun k o ho hc => (hk4 0).same k o (Nat.zero_le _) ((hbA.block k (Array.getElem?_eq_some_iff.1 ho).1).trans ho) hc
    have hown4 : ∀ u, u < n → ((fun j => if j = x then v' else v2 j) u).ownBlock ≠ some U := fun u hu => by
     by_cases e : u = x
     ·simp only [e, if_true]
      rcases hob3 with q | q
      ·rw [q]; exact hvx
      ·rw [q]; intro z; injection z with z; omega
     ·simp only [e, if_false]; exact h2 u hu
    have HFIN := Lib.hid (show KeepsFrom W3.heap.size W (Wb.setCell ⟨M + 1, x, none⟩ v') ∧ LowKept M W (Wb.setCell ⟨M + 1, x, none⟩ v') ∧
      (∃ v, Bk M n N l w (flipTo l i ++ (pre ++ [x]).map (fun x => (x, i))) v (Wb.setCell ⟨M + 1, x, none⟩ v') ∧ ∀ u, u < n → (v u).ownBlock ≠ some U) ∧ Bx (Wb.setCell ⟨M + 1, x, none⟩ v') U [.int .i64 i] ∧ Marks (M + 3) Ds (Wb.setCell ⟨M + 1, x, none⟩ v') ∧ b0 + 2 ≤ (Wb.setCell ⟨M + 1, x, none⟩ v').heap.size from
     ⟨hkf.trans ((show KeepsFrom W3.heap.size Wd (Wd.alloc (.cells #[.int .i64 i] 3)) from ⟨by simp, fun k o _ ho _ => (hbA.block k (Array.getElem?_eq_some_iff.1 ho).1).trans ho⟩).trans (hk4 _)), hkc.trans ((LowKept.of_below (hbA.mono (by omega))).trans (LowKept.of_below hb4)),
      ⟨_, by rw [HPM.out]; exact hB4, hown4⟩, fun j u9 hu9 => (by
       cases j with
       | zero => injection hu9 with hu9; subst hu9; exact hS4.2
       | succ j => cases hu9), hmk, hb5⟩)
    rw [hv'] at hS4 HFIN
    clear h1d h1a h3d h4d h5d hkf hkc hSd hSA hB4 hb4 hk4 hmk hown4 hown3 hob3 hnil3 hgr3 hbA hb5 h2
    refine tkH (i := 0) rfl (fun _ _ _ h => h) ?_
    try simp only [frS, Act.put]
    refine tkH (i := 1) rfl (fun _ _ _ h => h) ?_
    try simp only [frS, Act.put]
    refine tkH (i := 2) rfl (fun _ _ _ h => h) ?_
    try simp only [frS, Act.put]
    refine tkH (i := 3) rfl (fun _ _ _ h => h) ?_
    try simp only [frS, Act.put]
    refine tkH (i := 4) rfl (fun _ _ _ h => h) ?_
    try simp only [frS, Act.put]
    refine tkH (i := 6) rfl (fun _ _ _ h => h) ?_
    try simp only [frS, Act.put]
    refine wpAnyH_ready (rs := [5, 7]) (by kernel_rfl) (by simp) ?_
    refine (AllReadyH.cons rfl (fun K hK => ?_) (AllReadyH.cons rfl (fun K hK => ?_) AllReadyH.nil))
    ·go_simp
     refine hK.out _ _ ?_ (fun hHeld => ?_)
     ·exact hHeld
     clear hK K
     try simp only [frS, Act.put]
     refine rdH (i := 7) rfl fun K hK => ?_
     go_simp
     refine hK.out _ _ ?_ (fun hHeld => ?_)
     ·exact HK.out _ _ hHeld
     clear hK K
     try simp only [frS, Act.put]
     refine rdH (i := 8) rfl fun K hK => ?_
     refine step_app rfl (.tmp 29) (.tmp 31) _ rfl rfl rfl hrun ?_
     refine hK.out _ _ ?_ (fun hHeld => ?_)
     ·exact hS3
     clear hK K
     try simp only [frS, Act.put]
     refine tkH (i := 9) rfl (fun _ _ _ h => h) ?_
     try simp only [frS, Act.put]
     refine rdH (i := 10) rfl fun K hK => ?_
     go_simp
     refine hK.out _ _ ?_ (fun hHeld => ?_)
     ·exact hS4
     clear hK K
     try simp only [frS, Act.put]
     refine wpAnyH_done (by kernel_rfl) ?_ _
     exact HFIN.out
    ·go_simp
     refine hK.out _ _ ?_ (fun hHeld => ?_)
     ·exact HK.out _ _ hHeld
     clear hK K
     try simp only [frS, Act.put]
     refine rdH (i := 5) rfl fun K hK => ?_
     go_simp
     refine hK.out _ _ ?_ (fun hHeld => ?_)
     ·exact hHeld
     clear hK K
     try simp only [frS, Act.put]
     refine rdH (i := 8) rfl fun K hK => ?_
     refine step_app rfl (.tmp 29) (.tmp 31) _ rfl rfl rfl hrun ?_
     refine hK.out _ _ ?_ (fun hHeld => ?_)
     ·exact hS3
     clear hK K
     try simp only [frS, Act.put]
     refine tkH (i := 9) rfl (fun _ _ _ h => h) ?_
     try simp only [frS, Act.put]
     refine rdH (i := 10) rfl fun K hK => ?_
     go_simp
     refine hK.out _ _ ?_ (fun hHeld => ?_)
     ·exact hS4
     clear hK K
     try simp only [frS, Act.put]
     refine wpAnyH_done (by kernel_rfl) ?_ _
     exact HFIN.out
   case done =>
    rintro D ys W hD rfl ⟨⟨v2, h1, h2⟩, h3, h4, h5⟩ hKD
    have hM5 := h4.push (D := D) (by omega) (fun hm => by have := hDs D hm; omega) hKD
    rw [← flipTo_succ] at h1
    clear h2 h3 h4 hKD hvU
    gi_wp2
    exact ⟨⟨i + 1, v2, D :: Ds, _, _, _, _, _, _, _, rfl, by omega, h1, hM5⟩, by simp [intOf]; omega⟩
  ·have hd1 : decide ((i : Int) < (n : Int)) = false := decide_eq_false (by omega)
   have hd2 : decide (i < n) = false := decide_eq_false hlt
   have hin2 : i = n := by omega
   have hO : Bk M n N l w (flipTo l n) v W := hin2 ▸ hO
   have HE := Lib.hid (fun (u v : Nat) => (mem_flipTo (l := l) (i := n) (u := u) (v := v)).trans ⟨fun h => h.2, fun h => ⟨(hr _ h).1, h⟩⟩)
   have g0 := hO.gb 0 _ rfl
   have hlen := flipTo_len l n
   have hlen : (flipTo l n).length ≤ 400000 := by have := Nat.mul_le_mul hn hl; omega
   generalize flipTo l n = E at hO HE hlen
   have hNet := hO.rows.net
   have hob := hO.ob
   have hbw := hO.below
   have hMz := hO.size
   have hlo := hO.lo
   clear hO hin hi0 hwr hin2 hi hz0 hz1 hz2
   have HRP := Lib.hid (rep_any n (by omega) hn W.heap.size 1 (W.alloc (.cells #[.int .i64 (-1)] 3)) (by simp) (by simp))
   have hba := below_alloc W (.cells #[.int .i64 (-1)] 3)
   have g0a := (hba.cell (block_lt_of_cell g0)).trans g0
   have hza : (W.alloc (.cells #[.int .i64 (-1)] 3)).heap.size = W.heap.size + 1 := by simp
   clear g0
   gi_wp2
   refine ⟨trivial, (callsIn_wide.2 HRP.out).mono ?_⟩
   rintro e W5 ⟨rfl, hrow, hb5⟩
   have hbW5 := hba.trans (hb5.mono (by omega))
   have hz5 := hb5.size
   clear HRP hba hb5 g0a
   obtain ⟨R, hRe⟩ : ∃ R, R = W.heap.size + 1 := ⟨_, rfl⟩
   rw [hza] at hrow hz5
   rw [hza]
   rw [← hRe] at hrow hz5 ⊢
   have hR1 : W.heap.size + 1 ≤ R := Nat.le_of_eq hRe.symm
   clear hRe hza
   have c0 := hrow.cell hto
   have f0 := hrow.frozen tg
   have hrl := hrow.lt
   gi_upto_region 12 with fail
   have hq0 := bx_new (W5.setCell ⟨R, tg, none⟩ (.int .i64 0)) #[.int .i64 tg] 3
   have hQ0 : Qs (R + 1) ((W5.setCell ⟨R, tg, none⟩ (.int .i64 0)).alloc (.cells #[.int .i64 tg] 3)) (.slice (some ⟨W5.heap.size, 0, none⟩) 1 1) [tg] :=
    ⟨W5.heap.size, 0, 1, #[.int .i64 tg], rfl, by omega, by have := heap_alloc_new (W5.setCell ⟨R, tg, none⟩ (.int .i64 0)) (.cells #[.int .i64 tg] 3); rwa [World.size_setCell] at this, by simp, by unfold maxLen; omega, by simp, fun j x hj => by
     cases j with
     | zero => injection hj with hj; subst hj; rfl
     | succ j => cases hj⟩
   have hrow0 : ((W5.setCell ⟨R, tg, none⟩ (.int .i64 0)).alloc (.cells #[.int .i64 tg] 3)).rowIs R 3 n (fun v => .int .i64 (if v = tg then 0 else -1)) :=
    ((hrow.set tg (.int .i64 0)).alloc _).congr (fun v _ => by by_cases e : v = tg <;> simp [e])
   have hbQ : Below W.heap.size W ((W5.setCell ⟨R, tg, none⟩ (.int .i64 0)).alloc (.cells #[.int .i64 tg] 3)) := (hbW5.setCell (p := ⟨R, tg, none⟩) (by show W.heap.size ≤ R; omega) _).trans ((below_alloc _ _).mono (by simp; omega))
   have HB0 := Lib.hid (Bfs.start l hto)
   clear hq0 hrow hbW5 c0 f0 hrl hz5
   generalize World.alloc _ _ = W6 at hQ0 hrow0 hbQ ⊢
   gi_loopg [9] (n + 1) (fun k s9 wr => ∃ (q : List Nat) (i : Nat) (d : Nat → Int), k + i = n + 1 ∧ Hid (Bfs n l tg q i d) ∧ Qs (R + 1) wr s9 (q.drop i) ∧ wr.rowIs R 3 n (fun v => .int .i64 (d v)) ∧ Below W.heap.size W wr)
   case atStart => exact ⟨[tg], 0, _, rfl, HB0, hQ0, hrow0, hbQ⟩
   case round =>
    clear HB0 hQ0 hrow0 hbQ
    obtain ⟨q, j, d, hk, HB, hQ, hrow, hb⟩ := hrel
    by_cases hj : j < q.length
    ·have hqd : q.drop j = q[j] :: q.drop (j + 1) := List.drop_eq_getElem_cons hj
     have hqx : q[j]? = some q[j] := List.getElem?_eq_getElem hj
     have hxn := HB.out.lt _ (List.getElem_mem hj)
     rw [hqd] at hQ
     have HQD := Lib.hid hqd
     have HQX := Lib.hid hqx
     clear hqd hqx
     generalize q[j] = x at hQ HQD HQX hxn
     have hQL : (q.drop (j + 1)).length ≤ 200 := by have := HB.out.len; rw [List.length_drop]; omega
     obtain ⟨g, o, cap, rfl, hgB, hgl, hx, -⟩ := id hQ.head
     have hx0 : (0 : Int) ≤ (x : Int) := by omega
     have hx1 : (x : Int) < (n : Int) := by omega
     have o0 := hob.below hb (by omega) 0 _ rfl
     obtain ⟨-, rA, rC, hrw⟩ := hNet.below' hb (Nat.le_refl _)
     obtain ⟨c0, hn0⟩ := hrw x hxn
     have hll := succs_len E x
     have hmem : ∀ y, y ∈ succs E x → (y, x) ∈ l := fun y hy => (HE.out y x).1 (mem_succs.1 hy)
     have hall : ∀ y, (y, x) ∈ l → y ∈ succs E x := fun y hy => mem_succs.2 ((HE.out y x).2 hy)
     have HMEM := Lib.hid hmem
     have HALL := Lib.hid hall
     clear hmem hall hrw
     generalize succs E x = ls at c0 hn0 hll HMEM HALL
     generalize rA x = A at c0 hn0
     generalize rC x = C at c0
     have hg1 : decide ((0 : Int) < (((q.drop (j + 1)).length + 1 : Nat) : Int)) = true := decide_eq_true (by omega)
     have hg2 : (0 : Int) < (((q.drop (j + 1)).length + 1 : Nat) : Int) := by omega
     generalize hql : (q.drop (j + 1)).length = m at hQ hg1 hg2 hQL ⊢
     have HQM := Lib.hid hql
     clear hql
     gi_upto_region 14 with fail
     gi_big_quiet_th (fail)
     have hQ1 : Qs (R + 1) (wr.drewN nq) (.slice (some ⟨g, o, none⟩) (m + 1) (cap + 1)) (q.drop j) := by rw [HQD.out]; exact hQ.kept (fun _ _ => rfl)
     have hrow1 : (wr.drewN nq).rowIs R 3 n (fun v => .int .i64 (d v)) := hrow
     have hb1 : Below W.heap.size W (wr.drewN nq) := hb.trans (below_drews _ _ _)
     have hn1 : Nts (wr.drewN nq) W.heap.size A ls := hn0
     clear hQ hrow hb hn0 hx o0 c0 hgB hgl hg1 hg2
     generalize wr.drewN nq = w1 at hQ1 hrow1 hb1 hn1 ⊢
     gi_upto_region 15 with fail
     gi_loopw [9, 56] (fun s9 s56 wr => ∃ (k : Nat) (q : List Nat) (d : Nat → Int), s56 = .int .i64 (k : Nat) ∧ k ≤ ls.length ∧ Hid (Bfs n l tg q j d) ∧ Hid (q[j]? = some x) ∧ Hid (∀ u ∈ ls.take k, u ∈ q) ∧ Qs (R + 1) wr s9 (q.drop j) ∧ wr.rowIs R 3 n (fun v => .int .i64 (d v)) ∧ Below W.heap.size W wr ∧ Nts wr W.heap.size A ls) (fun _ s56 _ => ls.length - (intOf s56).toNat)
     case atStart => exact ⟨0, q, d, rfl, by omega, HB, HQX, Lib.hid (fun u hu => by simp at hu), hQ1, hrow1, hb1, hn1⟩
     case round =>
      clear hQ1 hrow1 hb1 hn1 HB HQX HQD HQM hQL
      obtain ⟨k, q, d, rfl, hkl, HB, HQX, HPR, hQ, hrow, hb, hn1⟩ := hrel
      have hk0 : (0 : Int) ≤ (k : Int) := by omega
      have hwr : IntKind.i64.wrap ((k : Int) + 1) = (k : Int) + 1 := by rw [IntKind.wrap_i64]; omega
      have hjq : j < q.length := (List.getElem?_eq_some_iff.1 HQX.out).1
      have hqn := HB.out.len
      obtain ⟨qt, hqd, HQT, hqtl⟩ : ∃ qt, q.drop j = x :: qt ∧ Hid (qt = q.drop (j + 1)) ∧ qt.length ≤ 200 := by
       obtain ⟨h1, h2⟩ := List.getElem?_eq_some_iff.1 HQX.out
       exact ⟨q.drop (j + 1), by rw [List.drop_eq_getElem_cons h1, h2], rfl, by rw [List.length_drop]; omega⟩
      by_cases hlt2 : k < ls.length
      ·have hd1 : decide ((k : Int) < (ls.length : Int)) = true := decide_eq_true (by omega)
       have hd2 : decide (k < ls.length) = true := decide_eq_true hlt2
       have hjl : (k : Int) < (ls.length : Int) := by omega
       obtain ⟨b, off, hA, hbl, hc⟩ := hn1.at_ hlt2
       have hyl := HMEM.out _ (List.getElem_mem hlt2)
       have HTK := Lib.hid (show ls.take (k + 1) = ls.take k ++ [ls[k]] by rw [List.take_add_one, List.getElem?_eq_getElem hlt2]; rfl)
       generalize ls[k] = y at hc hyl HTK
       have hyn := (hr _ hyl).1
       have HN := Lib.hid hn1
       clear hn1
       subst hA
       have hy0 : (0 : Int) ≤ (y : Int) := by omega
       have hy1 : (y : Int) < (n : Int) := by omega
       have cy := hrow.cell hyn
       by_cases hdy : d y < 0
       ·have e1 : decide (d y < 0) = true := decide_eq_true hdy
        have HBP := HB.out.push HQX.out hyn hdy
        have hdx0 := HBP.2.1
        have hdx1 := HBP.2.2
        have HBN := Lib.hid HBP.1
        clear HBP
        have hwd : IntKind.i64.wrap (d x + 1) = d x + 1 := by rw [IntKind.wrap_i64]; omega
        have cx := hrow.cell hxn
        have fy := hrow.frozen y
        rw [hqd] at hQ
        obtain ⟨g, o, cap, rfl, hgB, hgl, hx, -⟩ := id hQ.head
        have hgR : (Value.slice (some ⟨g, o, none⟩) (qt.length + 1) (cap + 1)).ownBlock = some g := rfl
        have hrl := hrow.lt
        have hrow2 := (hrow.set y (.int .i64 (d x + 1))).congr (g := fun v => .int .i64 (if v = y then d x + 1 else d v)) (fun v _ => by by_cases e : v = y <;> simp [e])
        have hQ2 := hQ.kept (W' := wr.setCell ⟨R, y, none⟩ (.int .i64 (d x + 1))) (fun g9 e9 => heap_setCell_other _ _ _ _ (by have e9 := hgR.symm.trans e9; injection e9 with e9; show g9 ≠ R; omega))
        have hb2 := hb.setCell (p := ⟨R, y, none⟩) (by show W.heap.size ≤ R; omega) (.int .i64 (d x + 1))
        have hn2 : Nts (wr.setCell ⟨R, y, none⟩ (.int .i64 (d x + 1))) W.heap.size (some ⟨b, off, none⟩) ls := Rd.setCell HN.out (by show W.heap.size ≤ R; omega) _
        have hz2 : wr.heap.size ≤ (wr.setCell ⟨R, y, none⟩ (.int .i64 (d x + 1))).heap.size := by simp
        clear HN hQ hb hrow
        gi_upto_region 19 with fail
        clear cx cy fy hx hc
        generalize wr.setCell _ _ = w2 at hrow2 hQ2 hb2 hn2 hz2 ⊢
        have hba := below_alloc w2 (.cells #[.int .i64 y] 3)
        have hza : w2.heap.size + 1 ≤ (w2.alloc (.cells #[.int .i64 y] 3)).heap.size := by simp
        have hwW := hb2.size
        have hQ3 := hQ2.below hba
        have hrow3 := hrow2.alloc (.cells #[.int .i64 y] 3)
        obtain ⟨v', w5, hrun, hQ5, hg5, hv5⟩ := hQ3.push (by omega) y w2.heap.size 1 (bx_new w2 #[.int .i64 y] 3 0 _ rfl) (by rw [List.length_cons]; omega) 27
        rw [hgR] at hg5
        have hb3 := (hb2.trans (hba.mono hwW)).grown hg5 (by omega) (fun g9 e9 => by injection e9 with e9; omega)
        have hn3 : Nts w5 W.heap.size (some ⟨b, off, none⟩) ls := (Rd.below' hn2 hba hwW).grown hg5 (by omega) (fun g9 e9 => by injection e9 with e9; omega)
        have hrow5 := hrow3.of_block (hg5.block R (by omega) (fun e9 => by injection e9 with e9; omega))
        have hqd2 : x :: qt ++ [y] = (q ++ [y]).drop j := by rw [← hqd, List.drop_append_of_le_length (by omega)]
        rw [hqd2] at hQ5
        have HQX2 : Hid ((q ++ [y])[j]? = some x) := Lib.hid (by rw [List.getElem?_append_left hjq]; exact HQX.out)
        have HPR2 : Hid (∀ u ∈ ls.take (k + 1), u ∈ q ++ [y]) := Lib.hid (fun u hu => by
         rw [HTK.out] at hu
         rcases List.mem_append.1 hu with z | z
         ·exact List.mem_append_left _ (HPR.out u z)
         ·exact List.mem_append_right _ z)
        clear hqd hqd2 hQ2 hQ3 hg5 hv5 hrow2 hrow3 hb2 hn2 hba HTK HPR HQX HB
        have HRUN := Lib.hid hrun
        clear hrun
        gi_upto_region 20 with (gi_at_builtin; refine wpListIn_app rfl (.tmp 75) (.tmp 77) _ rfl rfl rfl HRUN.out ?_)
        clear HRUN
        gi_wp2
        exact ⟨⟨k + 1, q ++ [y], _, rfl, by omega, HBN, HQX2, HPR2, hQ5, hrow5, hb3, hn3⟩, by simp [intOf]; omega⟩
       ·have e1 : decide (d y < 0) = false := decide_eq_false hdy
        have HPR2 : Hid (∀ u ∈ ls.take (k + 1), u ∈ q) := Lib.hid (fun u hu => by
         rw [HTK.out] at hu
         rcases List.mem_append.1 hu with z | z
         ·exact HPR.out u z
         ·have : u = y := by simpa using z
          subst this
          exact (HB.out.on u hyn).1 (by omega))
        clear HTK HPR hdy
        gi_wp2
        exact ⟨⟨k + 1, q, d, rfl, by omega, HB, HQX, HPR2, hQ, hrow, hb, HN.out⟩, by simp [intOf]; omega⟩
      ·have hd1 : decide ((k : Int) < (ls.length : Int)) = false := decide_eq_false (by omega)
       have hd2 : decide (k < ls.length) = false := decide_eq_false hlt2
       have HBN : Hid (Bfs n l tg q (j + 1) d) := Lib.hid (HB.out.pop HQX.out (fun u hu => HPR.out u (by rw [List.take_of_length_le (by omega)]; exact HALL.out u hu)))
       rw [hqd] at hQ
       obtain ⟨g, o, cap, rfl, hgB, hgl, hx, cu, hsl, hQt⟩ := hQ.head
       clear hQ hx hqd
       gi_wp2
       gi_roundg (n - j)
       case measure => omega
       case rel => exact ⟨q, j + 1, d, by omega, HBN, by rw [← HQT.out]; exact hQt, hrow, hb⟩
    ·have hdn := HB.out.cut (by omega)
     have hqd : q.drop j = [] := List.drop_eq_nil_iff.2 (by omega)
     rw [hqd] at hQ
     obtain ⟨g, o, cap, cur, rfl, -⟩ := hQ
     have HFA := Lib.hid (show ∀ v, v < n → -1 ≤ d v ∧ d v < n ∧ (Way l v tg → 0 ≤ d v) from fun v hv => ⟨HB.out.lo v hv, by have := HB.out.hi v hv; have := HB.out.len; omega, fun hw => hdn.done hw⟩)
     have hMr := hM.below hb
     clear hdn hqd
     gi_wp2
     exact leaves_marks Ds wr hMr (fun W' hT => ⟨_, results_tmp rfl _ _ _, R, d, rfl, by omega, hrow.of_block (hT.block R (fun hm => by have := (Array.getElem?_eq_some_iff.1 (hM.at_ R hm).2).1; omega)), HFA.out, (hbw.trans (hb.mono hbw.size)).trans ((hT.below hMr).mono (by omega))⟩)
end Go.Proofs.YtkpjdanfpolimaaGreat
