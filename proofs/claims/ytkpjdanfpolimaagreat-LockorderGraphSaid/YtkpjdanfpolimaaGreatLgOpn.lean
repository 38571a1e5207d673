/- What every law's row asks, once a walk has shown that the law returns true and that nothing older than the call has changed. Conditions: every parameter's type is a readable one. -/
import Derived.Test.YtkpjdanfpolimaaGreatLgCfn
import Derived.Carry
import Derived.OpenShut
import Derived.WalkKit
import Derived.Deep.DeepHandedRow
import Derived.ProofKit
import Derived.Deep.SlicePairs
import Derived.Lib.LaidTab
import Derived.Lib.SmallJoins
set_option maxRecDepth 100000
namespace Go.Proofs.YtkpjdanfpolimaaGreat
open Go.ChangeShapes Go.WideShapes Go.ChangeAt Go.RowKit Go.Deep

section
variable {H : Type} {enc : TypeId × Value → H} {P : Program}

theorem trodAll_stays (hl : laidOutB P = true) {W W' : World} {sp : Nat → Bool} (hb : Below W.heap.size W W') :
  ∀ {ts : List TypeId} {vs : List Value} {ds : List (DataW H)} {p : List MemPlace}, (∀ t ∈ ts, P.readableRec t = true ∧ t < P.types.size) →
   DataW.TrodAll enc P W 0 (fun _ => true) true ts vs ds p → (∀ x ∈ p, x.block < W.heap.size) → (∀ x ∈ p, sp x.block = true) → DataW.TrodAll enc P W' 0 sp true ts vs ds p
 | [], _, _, _, _, h, _, _ => by
  obtain ⟨rfl, rfl, rfl⟩ := trodAll_nil h;exact trodAll_mk0
 | t :: ts, _, _, _, hr, h, hlt, hs => by
  obtain ⟨v, vs1, d, ds1, a, b, rfl, rfl, rfl, h1, h2⟩ := trodAll_cons h;have ht := hr t (by simp);refine ⟨a, b, Go.WideElems.Trod_stays hl ht.1 ht.2 h1 (fun x hx => hb.same (hlt x (by simp [hx]))) (fun x hx => hs x (by simp [hx])), trodAll_stays hl hb (fun t h => hr t (by simp [h])) h2 (fun x hx => hlt x (by simp [hx])) (fun x hx => hs x (by simp [hx])), rfl⟩

theorem post_law {f : Func} {s : ChangeSpec} {apart fresh handsOn again : Bool} {W W' : World} {args : Array Value} {ds gs : List (DataW H)} {before : List MemPlace} {tb : TypeId}
  (hl : laidOutB P = true) (hr : ∀ t ∈ f.params.toList, P.readableRec t = true ∧ t < P.types.size) (hv : s.vars = [])
  (hrt : f.resultTypes = #[tb]) (htb : P.underlying tb = some .bool)
  (hW : DataW.Whole enc P f.params.toList s.vars apart W args.toList ds gs before)
  (hres : (s.fn H (ds ++ gs)).results = [.lit (.bool true)]) (hargs : (s.fn H (ds ++ gs)).args = ds) (hvars : (s.fn H (ds ++ gs)).vars = [])
  (hb : Below W.heap.size W W') : s.post enc P f apart fresh handsOn again W args (.bool true) W' := by
 have hlt := hW.lt;have hW0 := hW;obtain ⟨p, q, hA, hV, rfl, hz, hn⟩ := hW;rw [hv] at hV;obtain ⟨rfl, rfl⟩ := trodVars_none hV;rw [List.append_nil] at hlt hz hn
 have hR : ∀ (b : Nat) (sp : Nat → Bool) (hd : Bool), DataW.TrodAll enc P W' b sp hd f.resultTypes.toList ((Value.bool true).resultList f.resultTypes.size) (s.fn H (ds ++ [])).results [] := by
  intro b sp hd;rw [hres, hrt];exact trodAll_cons_mk (shut_bool htb _) trodAll_mk0
 have hA' : ∀ sp : Nat → Bool, (∀ x ∈ p, sp x.block = true) → DataW.TrodAll enc P W' 0 sp true f.params.toList args.toList (s.fn H (ds ++ [])).args p := by
  intro sp hs;rw [hargs];exact trodAll_stays hl hb hr hA hlt hs
 have hV' : ∀ sp, DataW.TrodVars enc P W' sp s.vars (s.fn H (ds ++ [])).vars [] := by
  intro sp;rw [hvars, hv];rfl
 refine ⟨ds, [], p ++ [], [], p, [], hW0, hR _ _ _, hA' _ (fun x hx => by simpa using hlt x hx), hV' _, hb.frame _, fun _ => ⟨?_, _, _, [] ++ p, ⟨[] ++ p, [], trodAll_append (hA' _ (fun _ _ => rfl)) (hR _ _ _), hV' _, by simp, ?_, ?_⟩, ?_⟩⟩
 ·exact ok_one hrt rfl (okWide_bool_mk htb _)
 ·intro b off hp
  have hp' : MemPlace.cell b off ∈ p := by simpa using hp
  rw [hb.frozen (hlt _ hp')];exact hz b off hp'
 ·intro ha
  simpa using hn ha
 ·intro x hx _
  simpa using hx


theorem open_rows {α : Type} [Inhabited α] {W : World} {t e : TypeId} {s : Nat} {cells : α → List Value} {Q : α → Prop} (ht : P.underlying t = some (.slice e)) (hs : P.cellsOf e = s) (hc : ∀ x, (cells x).length = s) (hpos : 0 < s)
  (each : ∀ (fuel : Nat) (cs : List Value) (x : DataW H × List MemPlace), cs.length = s → DataW.trod enc P W 0 (fun _ => true) true fuel e cs = some x → ∃ y, cs = cells y ∧ Q y)
  {fuel : Nat} {cs : List Value} {x : DataW H × List MemPlace} (h : DataW.trod enc P W 0 (fun _ => true) true fuel t cs = some x) :
  ∃ (A : Option Addr) (c : Nat) (l : List α), cs = [.slice A l.length c] ∧ Rd W W.heap.size s A l.length (l.flatMap cells) ∧ l.length ≤ c ∧ l.length ≤ maxLen ∧ ∀ y ∈ l, Q y := by
 rcases open_slice ht h with ⟨rfl, -⟩ | ⟨a, len, cap, m, n, D, Pl, rfl, -, hl, hm, hmm, -, hx⟩
 ·exact ⟨none, 0, [], rfl, Rd.nil_, Nat.le_refl _, by simp, by simp⟩
 ·have hall : ∀ i, i < len → ∃ y : α, (∀ j, j < s → W.cell? (a.add (i * s + j)) = (cells y)[j]?) ∧ Q y := by
   intro i hi;obtain ⟨cs', h1, h2⟩ := hx i (by rw [if_pos rfl] at hmm; omega);rw [hs] at h1;obtain ⟨-, hlen, hcell⟩ := World.cells?_some h1;obtain ⟨y, rfl, hy⟩ := each _ _ _ hlen h2;exact ⟨y, fun j hj => by have := hcell j hj; rwa [add_add] at this, hy⟩
  obtain ⟨F, hF⟩ := choose_lt hall;have hlen : ((List.range len).map F).length = len := by simp
  refine ⟨some a, cap, (List.range len).map F, by rw [hlen], ?_, by rw [hlen]; exact hl, by rw [hlen]; exact Nat.le_trans hl hm, ?_⟩
  ·refine ⟨flat_len hc _, ?_⟩
   by_cases h0 : len = 0
   ·left; rw [hlen]; exact h0
   ·right
    have hf0 : ∃ u, W.cell? a = some u := by
     have := (hF 0 (by omega)).1 0 hpos;rw [List.getElem?_eq_getElem (by rw [hc]; exact hpos)] at this;exact ⟨_, by simpa [Addr.add] using this⟩
    obtain ⟨u0, hc0⟩ := hf0;obtain ⟨b, off, spot⟩ := a
    have hsp : spot = none := by
     simp only [World.cell?] at hc0;split at hc0
     ·split at hc0
      ·cases hc0
      ·rename_i hs; simpa using hs
     ·cases hc0
    subst hsp;refine ⟨b, off, rfl, block_lt_of_cell hc0, fun j u hu => ?_⟩
    have hj : j < len * s := by
     rcases Nat.lt_or_ge j (len * s) with h9 | h9
     ·exact h9
     ·rw [List.getElem?_eq_none (by rw [flat_len hc, hlen]; omega)] at hu; cases hu
    have hjs : j % s < s := Nat.mod_lt _ hpos;have hjd : j / s < len := Nat.div_lt_of_lt_mul (by rw [Nat.mul_comm]; exact hj);have hi := (hF (j / s) hjd).1 (j % s) hjs;have e1 : j / s * s + j % s = j := by rw [Nat.mul_comm]; exact Nat.div_add_mod j s
    have hfa := flat_at hc ((List.range len).map F) (j / s) (by rw [hlen]; exact hjd) (j % s) hjs;rw [e1] at hi hfa;rw [hfa] at hu;rw [add_plain] at hi;rw [hi, ← hu];simp
  ·intro y hy
   obtain ⟨i, hi, rfl⟩ := List.mem_map.1 hy;exact (hF i (List.mem_range.1 hi)).2
end

section
variable {H : Type} {enc : TypeId × Value → H} {W : World}
instance opnIns : Inhabited Ins := ⟨⟨0, 0, 0, 0, [], none, 0⟩⟩
instance opnFn : Inhabited Fn := ⟨⟨ByteArray.empty, 0, 0, 0, false, [], none, 0⟩⟩
instance opnOb : Inhabited Ob := ⟨⟨ByteArray.empty, 0, 0, 0⟩⟩
instance opnVr : Inhabited Vr := ⟨⟨ByteArray.empty, 0, false⟩⟩

def InsQ (W : World) (i : Ins) : Prop := (I64 i.a ∧ I64 i.b ∧ I64 i.c ∧ ∀ x ∈ i.args, I64 x) ∧ Rd W W.heap.size 1 i.argA i.args.length (i64s i.args) ∧ i.args.length ≤ maxLen ∧ i.args.length ≤ i.argC
def FnQ (W : World) (f : Fn) : Prop := RdL W W.heap.size 5 Ins.cells f.codeA f.code ∧ (f.code.length ≤ maxLen ∧ f.name.size ≤ maxLen ∧ f.code.length ≤ f.codeC) ∧ ∀ i ∈ f.code, InsQ W i
def ObQ (o : Ob) : Prop := o.name.size ≤ maxLen
def VrQ (v : Vr) : Prop := v.name.size ≤ maxLen

theorem flat_ints : ∀ l : List Int, l.flatMap (fun z : Int => [Value.int .i64 z]) = i64s l
 | [] => rfl
 | z :: r => by rw [List.flatMap_cons, flat_ints r]; rfl

theorem open_ints {fuel : Nat} {cs : List Value} {x : DataW H × List MemPlace} (h : DataW.trod enc Tryz.prog W 0 (fun _ => true) true fuel 27 cs = some x) :
  ∃ (A : Option Addr) (c : Nat) (l : List Int), cs = [.slice A l.length c] ∧ Rd W W.heap.size 1 A l.length (i64s l) ∧ l.length ≤ c ∧ l.length ≤ maxLen ∧ ∀ y ∈ l, I64 y := by
 obtain ⟨A, c, l, h1, h2, h3⟩ := open_rows (s := 1) (cells := fun z : Int => [.int .i64 z]) (Q := I64) Tryz.underlying27 (by kernel_rfl) (fun _ => rfl) (by omega) (fun fuel cs x _ h => by
  obtain ⟨z, rfl, -, hz⟩ := DataW.trod_int Tryz.underlying3 h;exact ⟨z, rfl, bounds_i64 hz⟩) h
 refine ⟨A, c, l, h1, ?_, h3⟩;have e := flat_ints l
 rwa [e] at h2

theorem open_instr {fuel : Nat} {cs : List Value} {x : DataW H × List MemPlace} (hl : cs.length = 5) (h : DataW.trod enc Tryz.prog W 0 (fun _ => true) true fuel 63 cs = some x) : ∃ y, cs = Ins.cells y ∧ InsQ W y := by
 obtain ⟨xs, k, -, -, -, hxl, hf⟩ := DataW.trod_struct Tryz.underlying63 h
 match xs, hxl, cs, hl with
 | [y0, y1, y2, y3, y4], _, [v0, v1, v2, v3, v4], _ =>
  have g0 := hf 0 _ rfl;have g1 := hf 1 _ rfl;have g2 := hf 2 _ rfl;have g3 := hf 3 _ rfl;have g4 := hf 4 _ rfl;obtain ⟨n0, e0, -, b0⟩ := DataW.trod_int Tryz.underlying3 (show DataW.trod enc Tryz.prog W 0 (fun _ => true) true k 3 [v0] = some y0 from g0);obtain ⟨n1, e1, -, b1⟩ := DataW.trod_int Tryz.underlying3 (show DataW.trod enc Tryz.prog W 0 (fun _ => true) true k 3 [v1] = some y1 from g1);obtain ⟨n2, e2, -, b2⟩ := DataW.trod_int Tryz.underlying3 (show DataW.trod enc Tryz.prog W 0 (fun _ => true) true k 3 [v2] = some y2 from g2);obtain ⟨n3, e3, -, b3⟩ := DataW.trod_int Tryz.underlying3 (show DataW.trod enc Tryz.prog W 0 (fun _ => true) true k 3 [v3] = some y3 from g3);obtain ⟨A, c, l, e4, hr, hlc, hlm, hq⟩ := open_ints (show DataW.trod enc Tryz.prog W 0 (fun _ => true) true k 27 [v4] = some y4 from g4);simp only [List.cons.injEq, and_true] at e0 e1 e2 e3 e4
  subst e0 e1 e2 e3 e4;exact ⟨⟨n0, n1, n2, n3, l, A, c⟩, rfl, ⟨bounds_i64 b1, bounds_i64 b2, bounds_i64 b3, hq⟩, hr, hlm, hlc⟩
theorem open_fn {fuel : Nat} {cs : List Value} {x : DataW H × List MemPlace} (hl : cs.length = 6) (h : DataW.trod enc Tryz.prog W 0 (fun _ => true) true fuel 60 cs = some x) : ∃ y, cs = Fn.cells y ∧ FnQ W y := by
 obtain ⟨xs, k, -, -, -, hxl, hf⟩ := DataW.trod_struct Tryz.underlying60 h
 match xs, hxl, cs, hl with
 | [y0, y1, y2, y3, y4, y5], _, [v0, v1, v2, v3, v4, v5], _ =>
  have g0 := hf 0 _ rfl;obtain ⟨n0, e0, -, b0⟩ := DataW.trod_string Tryz.underlying9 (show DataW.trod enc Tryz.prog W 0 (fun _ => true) true k 9 [v0] = some y0 from g0);have g1 := hf 1 _ rfl;obtain ⟨n1, e1, -, b1⟩ := DataW.trod_int Tryz.underlying3 (show DataW.trod enc Tryz.prog W 0 (fun _ => true) true k 3 [v1] = some y1 from g1);have g2 := hf 2 _ rfl;obtain ⟨n2, e2, -, b2⟩ := DataW.trod_int Tryz.underlying3 (show DataW.trod enc Tryz.prog W 0 (fun _ => true) true k 3 [v2] = some y2 from g2);have g3 := hf 3 _ rfl;obtain ⟨n3, e3, -, b3⟩ := DataW.trod_int Tryz.underlying3 (show DataW.trod enc Tryz.prog W 0 (fun _ => true) true k 3 [v3] = some y3 from g3);have g4 := hf 4 _ rfl;obtain ⟨n4, e4, -⟩ := DataW.trod_bool Tryz.underlying4 (show DataW.trod enc Tryz.prog W 0 (fun _ => true) true k 4 [v4] = some y4 from g4);have g5 := hf 5 _ rfl
  obtain ⟨A5, c5, l5, e5, hr5, hc5, hm5, hq5⟩ := open_rows (s := 5) (cells := Ins.cells) (Q := InsQ W) Tryz.underlying58 (by kernel_rfl) (fun _ => rfl) (by omega) (fun _ _ _ => open_instr) (show DataW.trod enc Tryz.prog W 0 (fun _ => true) true k 58 [v5] = some y5 from g5);simp only [List.cons.injEq, and_true] at e0 e1 e2 e3 e4 e5;subst e0 e1 e2 e3 e4 e5;exact ⟨⟨n0, n1, n2, n3, n4, l5, A5, c5⟩, rfl, hr5, ⟨hm5, b0, hc5⟩, hq5⟩

theorem open_ob {fuel : Nat} {cs : List Value} {x : DataW H × List MemPlace} (hl : cs.length = 4) (h : DataW.trod enc Tryz.prog W 0 (fun _ => true) true fuel 65 cs = some x) : ∃ y, cs = Ob.cells y ∧ ObQ y := by
 obtain ⟨xs, k, -, -, -, hxl, hf⟩ := DataW.trod_struct Tryz.underlying65 h
 match xs, hxl, cs, hl with
 | [y0, y1, y2, y3], _, [v0, v1, v2, v3], _ =>
  have g0 := hf 0 _ rfl;obtain ⟨n0, e0, -, b0⟩ := DataW.trod_string Tryz.underlying9 (show DataW.trod enc Tryz.prog W 0 (fun _ => true) true k 9 [v0] = some y0 from g0);have g1 := hf 1 _ rfl;obtain ⟨n1, e1, -, b1⟩ := DataW.trod_int Tryz.underlying3 (show DataW.trod enc Tryz.prog W 0 (fun _ => true) true k 3 [v1] = some y1 from g1);have g2 := hf 2 _ rfl;obtain ⟨n2, e2, -, b2⟩ := DataW.trod_int Tryz.underlying3 (show DataW.trod enc Tryz.prog W 0 (fun _ => true) true k 3 [v2] = some y2 from g2);have g3 := hf 3 _ rfl;obtain ⟨n3, e3, -, b3⟩ := DataW.trod_int Tryz.underlying3 (show DataW.trod enc Tryz.prog W 0 (fun _ => true) true k 3 [v3] = some y3 from g3);simp only [List.cons.injEq, and_true] at e0 e1 e2 e3;subst e0 e1 e2 e3;exact ⟨⟨n0, n1, n2, n3⟩, rfl, b0⟩

theorem open_vr {fuel : Nat} {cs : List Value} {x : DataW H × List MemPlace} (hl : cs.length = 3) (h : DataW.trod enc Tryz.prog W 0 (fun _ => true) true fuel 67 cs = some x) : ∃ y, cs = Vr.cells y ∧ VrQ y := by
 obtain ⟨xs, k, -, -, -, hxl, hf⟩ := DataW.trod_struct Tryz.underlying67 h
 match xs, hxl, cs, hl with
 | [y0, y1, y2], _, [v0, v1, v2], _ =>
  have g0 := hf 0 _ rfl;obtain ⟨n0, e0, -, b0⟩ := DataW.trod_string Tryz.underlying9 (show DataW.trod enc Tryz.prog W 0 (fun _ => true) true k 9 [v0] = some y0 from g0);have g1 := hf 1 _ rfl;obtain ⟨n1, e1, -, b1⟩ := DataW.trod_int Tryz.underlying3 (show DataW.trod enc Tryz.prog W 0 (fun _ => true) true k 3 [v1] = some y1 from g1);have g2 := hf 2 _ rfl;obtain ⟨n2, e2, -⟩ := DataW.trod_bool Tryz.underlying4 (show DataW.trod enc Tryz.prog W 0 (fun _ => true) true k 4 [v2] = some y2 from g2);simp only [List.cons.injEq, and_true] at e0 e1 e2;subst e0 e1 e2;exact ⟨⟨n0, n1, n2⟩, rfl, b0⟩

theorem open_prg {v : Value} {d : DataW H} {ps : List MemPlace} {b0 : Nat} (hval : Value.okWide Tryz.prog W .any b0 26 v) (h : DataW.Trod enc Tryz.prog W 0 (fun _ => true) true 26 v d ps) :
  ∃ p : Prg, v = p.val ∧ Lies W W.heap.size p ∧ Fits p := by
 obtain ⟨v0, v1, v2, y0, y1, y2, k, rfl, -, -, g0, g1, g2⟩ := Go.Joins.open_agg3 Tryz.underlying26 (by kernel_rfl) (by kernel_rfl) hval h;obtain ⟨A0, c0, l0, e0, hr0, hc0, hm0, hq0⟩ := open_rows (s := 6) (cells := Fn.cells) (Q := FnQ W) Tryz.underlying22 (by kernel_rfl) (fun _ => rfl) (by omega) (fun _ _ _ => open_fn) g0;obtain ⟨A1, c1, l1, e1, hr1, hc1, hm1, hq1⟩ := open_rows (s := 4) (cells := Ob.cells) (Q := ObQ) Tryz.underlying23 (by kernel_rfl) (fun _ => rfl) (by omega) (fun _ _ _ => open_ob) g1;obtain ⟨A2, c2, l2, e2, hr2, hc2, hm2, hq2⟩ := open_rows (s := 3) (cells := Vr.cells) (Q := VrQ) Tryz.underlying24 (by kernel_rfl) (fun _ => rfl) (by omega) (fun _ _ _ => open_vr) g2;simp only [List.cons.injEq, and_true] at e0 e1 e2;subst e0 e1 e2
 exact ⟨⟨l0, A0, c0, l1, A1, c1, l2, A2, c2⟩, rfl,
  ⟨hr0, hr1, hr2, fun f hf => (hq0 f hf).1, fun f hf i hi => ((hq0 f hf).2.2 i hi).2.1, hm0, hm1, hm2, fun f hf => (hq0 f hf).2.1, ⟨hc0, hc1, hc2⟩, fun f hf i hi => ((hq0 f hf).2.2 i hi).2.2, hq1, hq2⟩,
  fun f hf i hi => ((hq0 f hf).2.2 i hi).1⟩
end
end Go.Proofs.YtkpjdanfpolimaaGreat
