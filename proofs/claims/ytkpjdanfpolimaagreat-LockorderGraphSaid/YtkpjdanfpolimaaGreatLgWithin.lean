/- lockorder's within, walked. Conditions: the analysis lies in memory, the program is well-f · The laws of Round and Rnd, in the wide fence outside of a round. Conditions: no operation  -/
import Derived.Test.YtkpjdanfpolimaaGreatLgSeqLaw2
import Derived.Laws.EntriesVeiled
import Derived.Test.YtkpjdanfpolimaaGreatLgIns
set_option maxRecDepth 100000
set_option maxHeartbeats 6400000
namespace Go.Proofs.YtkpjdanfpolimaaGreat
section
open Go.RowKit Go.Shelf
def S.visitStep (p : Prg) (s : S) (n f : Nat) (a : List Nat × BS) (k : Nat) : List Nat × BS :=
 if (s.get (.at_ f k)).1 then (if (p.ins f k).op = 15 then S.visit p s n (a.1, a.2 ||| (s.get (.at_ f k)).2) (p.ins f k).b.toNat else (a.1, a.2 ||| (s.get (.at_ f k)).2)) else a
theorem S.visit_succ (p : Prg) (s : S) (n : Nat) (a : List Nat × BS) (f : Nat) : s.visit p (n + 1) a f = if f ∈ a.1 then a else (List.range (p.len f)).foldl (s.visitStep p n f) (f :: a.1, a.2) := by rw [S.visit]; rfl
def S.visitTo (p : Prg) (s : S) (n f : Nat) (a : List Nat × BS) (j : Nat) : List Nat × BS := (List.range j).foldl (s.visitStep p n f) a
theorem S.visitTo_succ (p : Prg) (s : S) (n f : Nat) (a : List Nat × BS) (j : Nat) : s.visitTo p n f a (j + 1) = s.visitStep p n f (s.visitTo p n f a j) j := by
 unfold S.visitTo; rw [List.range_succ, List.foldl_append]; rfl
theorem unseen_mono (n : Nat) {a b : List Nat} (h : ∀ x ∈ a, x ∈ b) : unseen n b ≤ unseen n a := by
 unfold unseen
 induction List.range n with
 | nil => exact Nat.le_refl _
 | cons y r ih =>
  rw [List.filter_cons, List.filter_cons];by_cases hb : y ∈ b
  ·have e1 : decide (y ∉ b) = false := by simpa using hb
   rw [e1];simp only [Bool.false_eq_true, if_false];split
   ·rw [List.length_cons]; omega
   ·exact ih
  ·have ha : y ∉ a := fun e => hb (h y e)
   have e1 : decide (y ∉ b) = true := by simpa using hb
   have e2 : decide (y ∉ a) = true := by simpa using ha
   rw [e1, e2];simp only [if_true, List.length_cons]; omega
theorem S.foldl_sub {step : List Nat × BS → Nat → List Nat × BS} (h : ∀ a k x, x ∈ a.1 → x ∈ (step a k).1) : ∀ (l : List Nat) (a : List Nat × BS) (x : Nat), x ∈ a.1 → x ∈ (l.foldl step a).1
 | [], _, _, hx => hx
 | k :: r, a, x, hx => S.foldl_sub h r (step a k) x (h a k x hx)
theorem S.visit_sub (p : Prg) (s : S) : ∀ (n : Nat) (a : List Nat × BS) (f x : Nat), x ∈ a.1 → x ∈ (s.visit p n a f).1
 | 0, _, _, _, h => h
 | n + 1, a, f, x, h => by
  rw [S.visit_succ];split
  ·exact h
  ·refine S.foldl_sub (fun a k x hx => ?_) _ _ x (by simp [h])
   unfold S.visitStep;split
   ·split
    ·exact S.visit_sub p s n _ _ x hx
    ·exact hx
   ·exact hx
theorem S.visitTo_sub (p : Prg) (s : S) (n f : Nat) (a : List Nat × BS) (j : Nat) (x : Nat) (h : x ∈ a.1) : x ∈ (s.visitTo p n f a j).1 := by
 refine S.foldl_sub (fun a k x hx => ?_) _ _ x h;unfold S.visitStep;split
 ·split
  ·exact S.visit_sub p s n _ _ x hx
  ·exact hx
 ·exact hx
def visitVal (c : Nat) : Value := .func (.func 129) #[] #[.pointer (some ⟨c + 2, 0, none⟩), .pointer (some ⟨c, 0, none⟩), .pointer (some ⟨c + 3, 0, none⟩), .pointer (some ⟨c + 4, 0, none⟩)]
structure WiI (p : Prg) (L : Lay) (s : S) (c : Nat) (a : List Nat × BS) (W : World) : Prop where
 mem : Mem p L W s
 pb : Bx W c [.pointer (some ⟨L.A, 0, none⟩)]
 row : W.rowIs (c + 1) 4 p.funs.length (seenF a.1)
 sb : Bx W (c + 2) [.slice (some ⟨c + 1, 0, none⟩) p.funs.length p.funs.length]
 ob : Boxed W (c + 3) 84 (sv a.2)
 vb : Boxed W (c + 4) 114 (visitVal c)
 hc : L.hi ≤ c
 size : c + 5 ≤ W.heap.size
theorem WiI.below {p : Prg} {L : Lay} {s : S} {c : Nat} {a : List Nat × BS} {W W' : World} (h : WiI p L s c a W) (hb : Below W.heap.size W W') : WiI p L s c a W' := by
 have := h.size;have := hb.size;exact ⟨h.mem.below hb, h.pb.below hb (by omega), h.row.of_block (hb.block _ (by omega)), h.sb.below hb (by omega), (hb.block _ (by omega)).trans h.ob, (hb.block _ (by omega)).trans h.vb, h.hc, by omega⟩
theorem WiI.mark {p : Prg} {L : Lay} {s : S} {c : Nat} {a : List Nat × BS} {W : World} (h : WiI p L s c a W) (f : Nat) : WiI p L s c (f :: a.1, a.2) (W.setCell ⟨c + 1, f, none⟩ (.bool true)) := by
 have hc := h.hc;have hh := h.mem.hi;have hk : ∀ (g : Nat) (cs : List Value), g ≠ c + 1 → Bx W g cs → Bx (W.setCell ⟨c + 1, f, none⟩ (.bool true)) g cs := fun g cs hg hb j v hv => (World.cell?_setCell_far _ _ _ _ (by show c + 1 ≠ g; omega)).trans (hb j v hv)
 refine ⟨?_, hk _ _ (by omega) h.pb, (h.row.set f (.bool true)).congr (fun i _ => ?_), hk _ _ (by omega) h.sb, (heap_setCell_other _ _ _ _ (by show c + 3 ≠ c + 1; omega)).trans h.ob, (heap_setCell_other _ _ _ _ (by show c + 4 ≠ c + 1; omega)).trans h.vb, hc, by simpa using h.size⟩
 ·exact (h.mem.below' ((Below.refl L.hi W).setCell (p := ⟨c + 1, f, none⟩) (by show L.hi ≤ c + 1; omega) _))
 ·by_cases e : i = f
  ·subst e; simp [seenF]
  ·simp [seenF, e]
theorem WiI.setOut {p : Prg} {L : Lay} {s : S} {c : Nat} {a : List Nat × BS} {W : World} (h : WiI p L s c a W) (o : BS) : WiI p L s c (a.1, o) (W.setCell ⟨c + 3, 0, none⟩ (sv o)) := by
 have hc := h.hc;have hk : ∀ (g : Nat) (cs : List Value), g ≠ c + 3 → Bx W g cs → Bx (W.setCell ⟨c + 3, 0, none⟩ (sv o)) g cs := fun g cs hg hb j v hv => (World.cell?_setCell_far _ _ _ _ (by show c + 3 ≠ g; omega)).trans (hb j v hv)
 exact ⟨h.mem.below' ((Below.refl L.hi W).setCell (p := ⟨c + 3, 0, none⟩) (by show L.hi ≤ c + 3; omega) _), hk _ _ (by omega) h.pb, h.row.setOther (by show c + 1 ≠ c + 3; omega) _, hk _ _ (by omega) h.sb, Boxed.set _ h.ob, (heap_setCell_other _ _ _ _ (by show c + 4 ≠ c + 3; omega)).trans h.vb, hc, by simpa using h.size⟩
theorem visit_any (p : Prg) (hWf : Wf p) (L : Lay) (s : S) (c : Nat) : ∀ (n : Nat) (a : List Nat × BS) (f : Nat) (W : World), f < p.funs.length → unseen p.funs.length a.1 < n → WiI p L s c a W →
  Calls Tryz.prog 129 #[.int .i64 f, .pointer (some ⟨c + 2, 0, none⟩), .pointer (some ⟨c, 0, none⟩), .pointer (some ⟨c + 3, 0, none⟩), .pointer (some ⟨c + 4, 0, none⟩)] W fun e W' => e = .returned (.tuple #[]) ∧ WiI p L s c (s.visit p n a f) W' ∧ Turn c (c + 5) W W' := by
 intro n
 induction n with
 | zero => intro a f W hf hu; omega
 | succ n ih =>
  intro a f W hf hu h;have HIH := hid ih;clear ih;have f0 := zi f;have f1 : (f : Int) < (p.funs.length : Int) := by omega
  have s0 := h.sb 0 _ rfl;have r0 := h.row.cell hf;have r1 := h.row.frozen f;by_cases hs : f ∈ a.1
  ·have HV := hid (show s.visit p (n + 1) a f = a from by rw [S.visit_succ, if_pos hs])
   have hsf : seenF a.1 f = .bool true := by simp [seenF, hs]
   rw [hsf] at r0;clear hs hsf;go_enter Tryz.func129, Tryz.ntmps129;go_wp2_with fail;refine bodyPost_ret (results_none rfl _ _ _) rfl ?_;exact ⟨rfl, by rw [HV.out]; exact h, Turn.refl _ _ _⟩
  ·have hsf : seenF a.1 f = .bool false := by simp [seenF, hs]
   rw [hsf] at r0;have HUN := hid (show unseen p.funs.length (f :: a.1) < n from by have := unseen_lt hf hs; omega);have HV := hid (show s.visit p (n + 1) a f = s.visitTo p n f (f :: a.1, a.2) (p.len f) from by rw [S.visit_succ, if_neg hs]; rfl);clear hs hsf hu;have HMK := hid (h.mark f);have HT1 := hid ((Turn.refl c (c + 5) W).setCell (a := ⟨c + 1, f, none⟩) ⟨by show c ≤ c + 1; omega, by show c + 1 < c + 5; omega⟩ (.bool true));go_enter Tryz.func129, Tryz.ntmps129;go_upto_region 2 with fail;have h1 := HMK.out;have t1 := HT1.out;clear HMK HT1 h s0 r0 r1;generalize W.setCell ⟨c + 1, f, none⟩ (.bool true) = W1 at h1 t1 ⊢;have p0 := h1.pb 0 _ rfl;have c0 := h1.mem.c0;have hhc := h1.hc;have hhi := h1.mem.hi;have hM := hWf.len f hf;by_cases hM0 : p.len f = 0
   ·obtain ⟨b, off, hA, hb, -, d5⟩ := h1.mem.prog.codeAt hf
    rw [hM0] at d5;rw [hA] at c0;rw [hM0] at HV;clear hA hM hM0;go_wp2_with fail;go_loopw [25] (fun i wr => i = .int .i64 0 ∧ WiI p L s c (s.visitTo p n f (f :: a.1, a.2) 0) wr ∧ Turn c (c + 5) W wr) (fun i _ => 0)
    case atStart => exact ⟨rfl, h1, t1⟩
    case round =>
     obtain ⟨rfl, hm, ht⟩ := hrel;go_wp2_with fail;go_end0;exact ⟨rfl, by rw [HV.out]; exact hm, ht⟩
   ·obtain ⟨b, off, b2, off2, hA, hb, hb2, -, d5, -⟩ := h1.mem.prog.at_ hf (show 0 < p.len f by omega)
    have HAT := hid (fun (W' : World) (hm : Turn c (c + 5) W1 W') (k : Nat) (hk : k < p.len f) => code_at (lo := c) (hi := c + 5) (h1.mem.prog.more (by omega)) ⟨by omega, h1.size⟩ hA (by omega) d5 hf hk hm);rw [hA] at c0;clear hM0 hA;go_wp2_with fail;go_loopw [25] (fun i wr => ∃ j : Nat, i = .int .i64 j ∧ j ≤ p.len f ∧ WiI p L s c (s.visitTo p n f (f :: a.1, a.2) j) wr ∧ Turn c (c + 5) W1 wr) (fun i _ => p.len f - (intOf i).toNat)
    case atStart => exact ⟨0, rfl, by omega, h1, Turn.refl _ _ _⟩
    case round =>
     obtain ⟨j, rfl, hj, hm, ht⟩ := hrel;clear c0 d5 p0 h1;have hj0 := zi j;have hwr1 := Wi j (by omega);by_cases hlt : j < p.len f
     ·have hd1 := Dt (show (j : Int) < p.len f by omega)
      have hd2 := Dt hlt;have hjl : (j : Int) < (p.len f : Int) := by omega
      obtain ⟨q0, q1, q2, q3, q4⟩ := HAT.out wr ht j hlt;have hIb := (hWf.ins f j hf hlt).call;have HSU := hid (S.visitTo_succ p s n f (f :: a.1, a.2) j);have HUN2 := hid (show unseen p.funs.length (s.visitTo p n f (f :: a.1, a.2) j).1 < n from Nat.lt_of_le_of_lt (unseen_mono _ (fun x hx => S.visitTo_sub p s n f _ j x hx)) HUN.out);generalize s.visitTo p n f (f :: a.1, a.2) j = aj at hm HSU HUN2;go_upto_region 5 with fail;have hb5 := below_alloc wr (.cells #[.int .i64 (p.ins f j).op, .int .i64 (p.ins f j).a, .int .i64 (p.ins f j).b, .int .i64 (p.ins f j).c, .slice (p.ins f j).argA (p.ins f j).args.length (p.ins f j).argC] 63);have hx := bx_new wr #[.int .i64 (p.ins f j).op, .int .i64 (p.ins f j).a, .int .i64 (p.ins f j).b, .int .i64 (p.ins f j).c, .slice (p.ins f j).argA (p.ins f j).args.length (p.ins f j).argC] 63
      have hzz : wr.heap.size < (World.alloc wr (.cells #[.int .i64 (p.ins f j).op, .int .i64 (p.ins f j).a, .int .i64 (p.ins f j).b, .int .i64 (p.ins f j).c, .slice (p.ins f j).argA (p.ins f j).args.length (p.ins f j).argC] 63)).heap.size := by simp
      have hgg : c + 5 ≤ wr.heap.size := hm.size;have hm5 := hm.below hb5;have ht5 := ht.trans (Turn.of_below hb5);clear hm ht hb5 q0 q1 q2 q3 q4;generalize World.alloc wr _ = W5 at hx hm5 ht5 hzz ⊢;generalize wr.heap.size = G at hx hzz hgg ⊢;obtain ⟨z0, -, z2, -, -⟩ := bx5 hx;have p0 := hm5.pb 0 _ rfl;have c9 := hm5.mem.c9;have cR := hm5.mem.outR f hf;have ck := (hm5.mem.slot (.at_ f j) ⟨hf, hlt⟩).1.1;have c10 := hm5.mem.c10;have cB := hm5.mem.outB f hf;have cs := (hm5.mem.slot (.at_ f j) ⟨hf, hlt⟩).2.1;have o0 := hm5.ob.cell;have o1 := hm5.ob.frozen;unfold Lay.kA at ck;unfold Lay.tA sv at cs;unfold sv at o0;dsimp only at ck cs
      cases hre : (s.get (.at_ f j)).1 with
      | false =>
       have HSV := hid (show s.visitTo p n f (f :: a.1, a.2) (j + 1) = aj from by rw [HSU.out]; unfold S.visitStep; rw [hre]; rfl);rw [hre] at ck;clear hre;go_wp2_with fail;exact ⟨⟨j + 1, by go_num, by omega, by rw [HSV.out]; exact hm5, ht5⟩, by simp [intOf]; omega⟩
      | true =>
       rw [hre] at ck;have HST := hid (show s.visitTo p n f (f :: a.1, a.2) (j + 1) = if (p.ins f j).op = 15 then S.visit p s n (aj.1, aj.2 ||| (s.get (.at_ f j)).2) (p.ins f j).b.toNat else (aj.1, aj.2 ||| (s.get (.at_ f j)).2) from by rw [HSU.out]; unfold S.visitStep; rw [hre]; rfl);have HOR := hid (or_sv aj.2 (s.get (.at_ f j)).2);generalize (s.get (.at_ f j)).2 = t at cs HST HOR;clear hre HSU;go_upto_region 6 with fail;go_still_tail 12, (by kernel_rfl)
       change wpList _ _ _ _ _ W5.drew;go_upto_region 7 with fail;simp only [HOR.out];have hm6 := (hm5.setOut (aj.2 ||| t)).below (below_drews _ _ 1);have ht6 := (ht5.setCell (a := ⟨c + 3, 0, none⟩) ⟨by show c ≤ c + 3; omega, by show c + 3 < c + 5; omega⟩ (sv (aj.2 ||| t))).drewN 1;have hx6 : Bx ((W5.setCell ⟨c + 3, 0, none⟩ (sv (aj.2 ||| t))).drewN 1) G [.int .i64 (p.ins f j).op, .int .i64 (p.ins f j).a, .int .i64 (p.ins f j).b, .int .i64 (p.ins f j).c, .slice (p.ins f j).argA (p.ins f j).args.length (p.ins f j).argC] := fun q v hv => (World.cell?_setCell_far _ _ _ _ (by show c + 3 ≠ G; omega)).trans (hx q v hv)
       have hz6 : G < ((W5.setCell ⟨c + 3, 0, none⟩ (sv (aj.2 ||| t))).drewN 1).heap.size := by simpa using hzz
       change WiI p L s c _ (W5.setCell ⟨c + 3, 0, none⟩ (.int .u32 ((aj.2 ||| t).toNat : Int))).drew at hm6;change Turn _ _ _ (W5.setCell ⟨c + 3, 0, none⟩ (.int .u32 ((aj.2 ||| t).toNat : Int))).drew at ht6;change Bx (W5.setCell ⟨c + 3, 0, none⟩ (.int .u32 ((aj.2 ||| t).toNat : Int))).drew _ _ at hx6;change G < (W5.setCell ⟨c + 3, 0, none⟩ (.int .u32 ((aj.2 ||| t).toNat : Int))).drew.heap.size at hz6;clear hm5 ht5 hx hzz z0 z2 p0 c9 cR ck c10 cB cs o0 o1 HOR;generalize (W5.setCell ⟨c + 3, 0, none⟩ (.int .u32 ((aj.2 ||| t).toNat : Int))).drew = W6 at hm6 ht6 hx6 hz6 ⊢;obtain ⟨z0, -, z2, -, -⟩ := bx5 hx6;by_cases h15 : (p.ins f j).op = 15
       ·have HSV := hid (show s.visitTo p n f (f :: a.1, a.2) (j + 1) = S.visit p s n (aj.1, aj.2 ||| t) (p.ins f j).b.toNat from by rw [HST.out, if_pos h15])
        obtain ⟨hb0, hb1⟩ := hIb (.inl h15);obtain ⟨b9, hb9⟩ : ∃ b9 : Nat, (p.ins f j).b = b9 := ⟨(p.ins f j).b.toNat, by omega⟩
        rw [hb9, Int.toNat_natCast] at HSV;have hcall := HIH.out (aj.1, aj.2 ||| t) b9 W6 (by omega) HUN2.out hm6;rw [hb9] at z2;rw [h15] at z0;have v0 := hm6.vb.cell;unfold visitVal at v0;have HCALL := hid hcall;clear hcall h15 hb0 hb1 hb9 hIb;go_wp2_with fail;refine (HCALL.out).mono ?_;rintro e W8 ⟨rfl, hm8, ht8⟩;have ht9 := ht6.trans ht8;clear z0 z2 v0 hm6 hx6 hz6 ht6 ht8;go_wp2_with fail;exact ⟨⟨j + 1, by go_num, by omega, by rw [HSV.out]; exact hm8, ht9⟩, by simp [intOf]; omega⟩
       ·have HSV := hid (show s.visitTo p n f (f :: a.1, a.2) (j + 1) = (aj.1, aj.2 ||| t) from by rw [HST.out, if_neg h15])
        have e15 : ((p.ins f j).op == 15) = false := by simpa using h15
        clear h15;go_wp2_with fail;exact ⟨⟨j + 1, by go_num, by omega, by rw [HSV.out]; exact hm6, ht6⟩, by simp [intOf]; omega⟩
     ·have hd1 := Df (show ¬ (j : Int) < p.len f by omega)
      have hd2 := Df hlt;obtain rfl : j = p.len f := by omega
      clear hlt hj;go_wp2_with fail;go_end0;exact ⟨rfl, by rw [HV.out]; exact hm, t1.trans ht⟩
def wiWorld (p : Prg) (c : Nat) (w1 : World) : World :=
 (((w1.alloc (.cells (madeCells #[Value.bool false] p.funs.length) 4)).alloc (.cells #[.slice (some ⟨c + 1, 0, none⟩) p.funs.length p.funs.length] 82)).alloc (.cells #[.int .u32 0] 84)).alloc (.cells #[visitVal c] 114)
theorem wi_new {p : Prg} {L : Lay} {s : S} {c : Nat} {w1 : World} (h : Mem p L w1 s) (hp : Bx w1 c [.pointer (some ⟨L.A, 0, none⟩)]) (hz : w1.heap.size = c + 1) (hc : L.hi ≤ c) : WiI p L s c ([], 0) (wiWorld p c w1) ∧ Below w1.heap.size w1 (wiWorld p c w1) := by
 have e1 := World.rowIs_made w1 (.bool false) p.funs.length 4;have b1 := below_alloc w1 (.cells (madeCells #[Value.bool false] p.funs.length) 4);have z1 : (w1.alloc (.cells (madeCells #[Value.bool false] p.funs.length) 4)).heap.size = c + 2 := by simp [hz]
 rw [hz] at e1;unfold wiWorld;generalize w1.alloc _ = w2 at e1 b1 z1 ⊢;have e2 := bx_new w2 #[.slice (some ⟨c + 1, 0, none⟩) p.funs.length p.funs.length] 82;have b2 := below_alloc w2 (.cells #[.slice (some ⟨c + 1, 0, none⟩) p.funs.length p.funs.length] 82);have z2 : (w2.alloc (.cells #[.slice (some ⟨c + 1, 0, none⟩) p.funs.length p.funs.length] 82)).heap.size = c + 3 := by simp [z1]
 rw [z1] at e2;generalize w2.alloc _ = w3 at e2 b2 z2 ⊢;have e3 := Boxed.new w3 84 (.int .u32 0);have b3 := below_alloc w3 (.cells #[.int .u32 0] 84);have z3 : (w3.alloc (.cells #[.int .u32 0] 84)).heap.size = c + 4 := by simp [z2]
 rw [z2] at e3;generalize w3.alloc _ = w4 at e3 b3 z3 ⊢;have e4 := Boxed.new w4 114 (visitVal c);have b4 := below_alloc w4 (.cells #[visitVal c] 114);have z4 : (w4.alloc (.cells #[visitVal c] 114)).heap.size = c + 5 := by simp [z3]
 rw [z3] at e4;generalize w4.alloc _ = w5 at e4 b4 z4 ⊢;have B := ((b1.trans (b2.mono b1.size)).trans (b3.mono (by omega))).trans (b4.mono (by omega));have B2 : Below (c + 2) w2 w5 := ((b2.mono (by omega)).trans (b3.mono (by omega))).trans (b4.mono (by omega));have B3 : Below (c + 3) w3 w5 := (b3.mono (by omega)).trans (b4.mono (by omega));refine ⟨⟨h.below B, hp.below B (by omega), (e1.of_block (B2.block _ (by omega))).congr (fun i _ => rfl), e2.below B3 (by omega), ?_, e4, hc, by omega⟩, B⟩;exact (b4.block _ (by omega)).trans e3
theorem withinL_any (p : Prg) (hWf : Wf p) (L : Lay) (s : S) (f : Nat) (hf : f < p.funs.length) (w : World) (h : Mem p L w s) :
  Calls Tryz.prog 112 #[.pointer (some ⟨L.A, 0, none⟩), .int .i64 f] w (Ret (sv (s.within p f)) w) := by
 have HV := hid (fun (a : List Nat × BS) (W : World) (hu : unseen p.funs.length a.1 < p.funs.length + 1) => visit_any p hWf L s w.heap.size (p.funs.length + 1) a f W hf hu);have hmk := fun W => run_make_row' (P := Tryz.prog) 82 4 (.bool false) 1 Tryz.underlying82 (by kernel_rfl) rfl .i64 .i64 p.funs.length (by have := hWf.funs; omega) (by have := hWf.funs; omega) W
 have hT := one_new w #[.pointer (some ⟨L.A, 0, none⟩)] 76;have HM := hid h;have hAz : L.A < w.heap.size := Nat.lt_of_lt_of_le (h.ok.rng L.A (by simp)).2 h.hi.2;have c0 := h.c0;clear h;unfold S.within;go_enter Tryz.func112, Tryz.ntmps112;go_upto_region 1 with fail;have hm1 := HM.out.below (below_alloc w (.cells #[.pointer (some ⟨L.A, 0, none⟩)] 76));have hz1 : (w.alloc (.cells #[.pointer (some ⟨L.A, 0, none⟩)] 76)).heap.size = w.heap.size + 1 := by simp
 generalize w.alloc _ = w1 at hT hm1 hz1 ⊢;clear c0;have c0 := hm1.c0;have p0 := hT.fst 0 _ rfl;have HN := hid (wi_new hm1 hT.fst hz1 HM.out.hi.2);have HBW := hid hT.below;clear hT;go_upto_region 5 with fail;simp only [Nat.add_assoc, Nat.reduceAdd];change Code.wp _ _ _ _ (wiWorld p w.heap.size w1);obtain ⟨hi, hb⟩ := HN.out;generalize wiWorld p w.heap.size w1 = w5 at hi hb ⊢;clear c0 p0 hmk hm1;have v0 := hi.vb.cell;unfold visitVal at v0;go_wp2_with fail;refine (HV.out ([], 0) w5 (by have := unseen_le p.funs.length []; show unseen p.funs.length [] < _; omega) hi).mono ?_;rintro e w6 ⟨rfl, hi6, ht6⟩;clear v0 hi;have o0 := hi6.ob.cell;unfold sv at o0;go_wp2_with fail;go_ret;refine ⟨rfl, ?_⟩;exact HBW.out.trans ((hb.mono (by have := HBW.out.size; omega)).trans (ht6.below (by have := hb.size; omega)))
end
section
open Go.RowKit
theorem rows_wide {P : Program} {n : Nat} {row : String} {args : Array Value} {w : World} {R : Value → World → Prop} (h : Rows P row args w R) : RowsIn Fence.wide n P row args w R := fun c cs _ =>
 let ⟨v, w', r, s⟩ := h c cs; ⟨v, w', r, stepsIn_wide.2 s⟩
theorem upon_wide {P : Program} {n : Nat} {o : Oper} {a : Act} {next : Act → World → Prop} {Q : Exit → Act → World → Prop} : ∀ {r : Result Next}, o.upon P a next Q r → o.uponIn Fence.wide n P a next Q r
 | .ok (.value _) _, h => h
 | .ok .skip _, h => h
 | .ok (.defer _) _, h => h
 | .ok (.enter _ _) _, h => ⟨fun e => by simp [Fence.wide] at e, callsIn_wide.2 (Calls.mono h (fun e w => by cases e <;> exact id))⟩
 | .ok (.row _ _) _, h => ⟨fun e => by simp [Fence.wide] at e, rows_wide h⟩
 | .ok (.round ..) _, h => h.elim
 | .halt (.panic _) _, h => h
 | .halt .goexit _, h => h.elim
 | .halt .blocked _, h => h.elim
 | .halt .waiting _, h => h.elim
 | .halt (.stuck _) _, h => h.elim
 | .halt (.unsupported _) _, h => h.elim
theorem wpOp_wide {P : Program} {ops : Array Oper} {n i : Nat} {Q : Exit → Act → World → Prop} {K K' : Act → World → Prop} {a : Act} {w : World} (hnd : ∀ (j : Nat) (o : Oper), ops[j]? = some o → ∀ c, o.op ≠ .defer c) (hQ : ¬ LetsOut Q)
  (hK : ∀ a w, K a w → K' a w) (h : wpOp P ops Q i K a w) : wpOpIn Fence.wide n P ops Q i K' a w := by
 unfold wpOp at h;unfold wpOpIn
 cases ho : ops[i]? with
 | none => rw [ho] at h; exact hK _ _ h
 | some o =>
  rw [ho] at h;simp only at h ⊢;by_cases hw : Region.wanted o (yielded ops a.tmps) = true
  ·rw [if_pos hw] at h ⊢
   refine ⟨fun _ _ => trivial, ?_⟩;rw [Oper.semAt_eq _ _ _ (hnd i o ho)];rcases h with h | ⟨_, h⟩
   ·exact upon_wide (Oper.wp_mono hK h)
   ·exact absurd h hQ
  ·rw [if_neg hw] at h ⊢
   exact ⟨fun _ _ => trivial, hK _ _ h⟩
theorem wpAny_wide {P : Program} {ops : Array Oper} {n : Nat} {md : Region.Mode} {Q : Exit → Act → World → Prop} (hnd : ∀ (j : Nat) (o : Oper), ops[j]? = some o → ∀ c, o.op ≠ .defer c) (hQ : ¬ LetsOut Q) :
  ∀ (fuel : Nat) (listed : Array Bool) (a : Act) (w : World), wpAny P md ops Q fuel listed a w → wpAnyIn Fence.wide n P md ops Q fuel listed a w
 | 0, _, _, _, h => h
 | fuel + 1, _, _, _, h => ⟨h.1, fun i hi => wpOp_wide hnd hQ (fun a w => wpAny_wide hnd hQ fuel _ a w) (h.2 i hi)⟩
theorem wp_region_wide {P : Program} {id n : Nat} {ops : List Oper} {Q : Exit → Act → World → Prop} {S : World → Prop} {a : Act} {w : World} (hm : P.follows .mixedOrders = true) (hnd : noDefer ops = true) (hQ : ¬ LetsOut Q) (hS : S w.drew)
  (h : S w.drew → wpAnyH P .any ops.toArray Q S ops.toArray.size (Array.replicate ops.toArray.size false) a w.drew) : (Code.region id ops.toArray true).wpIn Fence.wide n P Q a w :=
 wpIn_region_draw (F := Fence.wide) fun t => by
  simp only [Region.schedule, hm, Bool.true_or, if_true];exact wpAnyIn_sound _ t _ a _ (wpAny_wide (noDefer_spec hnd) hQ _ _ _ _ (wpAny_of_held _ _ _ _ (h hS)))

theorem wp_wide_any {P : Program} {id n : Nat} {ops : List Oper} {Q : Exit → Act → World → Prop} {a : Act} {w : World} (hm : P.follows .mixedOrders = true) (hnd : noDefer ops = true) (hQ : ¬ LetsOut Q)
  (h : wpAny P .any ops.toArray Q ops.toArray.size (Array.replicate ops.toArray.size false) a w.drew) : (Code.region id ops.toArray true).wpIn Fence.wide n P Q a w :=
 wpIn_region_draw (F := Fence.wide) fun t => by
  simp only [Region.schedule, hm, Bool.true_or, if_true];exact wpAnyIn_sound _ t _ a _ (wpAny_wide (noDefer_spec hnd) hQ _ _ _ _ h)
theorem wp_wide_tail {P : Program} {id m : Nat} {Q : Exit → Act → World → Prop} {a : Act} {w : World} {l : List Oper} (n : Nat) (hm : P.follows .mixedOrders = true) (hnd : noDefer l = true) (hQ : ¬ LetsOut Q) (hB : Region.lexTailB .any l.toArray n = true)
  (h : wpStill P l.toArray w.drew (fun a' => wpList P l.toArray Q (l.drop n) a' w.drew) (l.take n) a) : (Code.region id l.toArray true).wpIn Fence.wide m P Q a w := by
 simp only [Region.lexTailB, Bool.and_eq_true, decide_eq_true_eq] at hB;obtain ⟨⟨⟨⟨hsel, hn⟩, hs⟩, hc⟩, hlex⟩ := hB;have hn' : n < l.length := by simpa using hn
 have htl : (l.take n).length = n := by simp; omega
 have hdl : (l.drop n).length = l.toArray.size - n := by simp
 have inv0 : HeadInv .any l.toArray n (Array.replicate l.toArray.size false) :=
  ⟨by simp, fun j oj _ hl => (by rw [getD_replicate_false] at hl; cases hl), fun t _ ht => getD_in (by simpa using ht) (getD_replicate_false _ _)⟩
 have H := wpAnyL_lex (md := .any) (g := l.toArray.size - n) hsel hs hc hn (l.take n) 0 _ a (fun j hj => by
  have hj' : j < n := by rw [htl] at hj; exact hj
  simp [hj']) (by simpa using htl) inv0 (by rw [htl]; exact hlex) h
 refine wp_wide_any hm hnd hQ ?_
 have := wpAny_of_head (Q' := Q) (g := l.toArray.size - n) (fun listed a' hL => by
  have := wpAny_of_seq (md := .any) (Q' := Q) (l.drop n) n listed a' w.drew (fun j => by simp [List.getElem?_drop]) (by rw [hdl]; exact hL.1) hL.2
  rwa [hdl] at this) _ _ _ H
 rw [htl, show n + (l.toArray.size - n) = l.toArray.size by omega] at this;exact this
end
end Go.Proofs.YtkpjdanfpolimaaGreat
