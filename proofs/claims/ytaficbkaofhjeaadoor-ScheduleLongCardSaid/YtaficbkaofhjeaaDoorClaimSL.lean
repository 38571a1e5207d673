/- ScheduleLong: the card's statement. The law returns true for every input; the row lists three tables, which the walk finds as they were laid. -/
import Derived.Test.YtaficbkaofhjeaaDoorLaid
import Derived.Test.YtaficbkaofhjeaaDoorLongW
import Derived.Test.YtaficbkaofhjeaaDoorCards
import Derived.Test.YtaficbkaofhjeaaDoorTie
namespace Go.Proofs.YtaficbkaofhjeaaDoor.ClaimSL
open Go.ChangeShapes Go.WideShapes Go.ChangeAt Go.RowKit

set_option maxRecDepth 100000 in
theorem contract (H : Type) (enc : TypeId × Value → H) (W : World) (base : Nat) (args : Array Value) (ds gs : List (DataW H)) (before : List MemPlace)
    (hval : ∀ (j : Nat) t v, Tryd.f5.params[j]? = some t → args[j]? = some v → Value.okWide Tryd.prog W .any base t v)
    (hW : DataW.Whole enc Tryd.prog Tryd.f5.params.toList Rows.scheduleLongSpec.vars false W args.toList ds gs before) (hL : laidMetH Tryd.prog Rows.scheduleLongRow.laid W) :
    Calls Tryd.prog 5 args W fun e W' => ∃ v, e = .returned v ∧ Rows.scheduleLongSpec.post enc Tryd.prog Tryd.f5 false true false false W args v W' := by
  have hW0 := hW
  obtain ⟨p, q, hA, hV, rfl, hfz, hnd⟩ := hW
  obtain ⟨rfl, rfl⟩ := trodVars_none hV
  rw [Tryd.params5] at hA hval
  obtain ⟨v0, vs0, d0, ds0, p0, q0, hargs, rfl, rfl, h0, r0⟩ := trodAll_cons hA
  obtain ⟨v1, vs1, d1, ds1, p1, q1, rfl, rfl, rfl, h1, r1⟩ := trodAll_cons r0
  obtain ⟨v2, vs2, d2, ds2, p2, q2, rfl, rfl, rfl, h2, r2⟩ := trodAll_cons r1
  obtain ⟨v3, vs3, d3, ds3, p3, q3, rfl, rfl, rfl, h3, r3⟩ := trodAll_cons r2
  obtain ⟨rfl, rfl, rfl⟩ := trodAll_nil r3
  obtain rfl : args = #[v0, v1, v2, v3] := by cases args; simp_all
  obtain ⟨n0, rfl, rfl, rfl, w0⟩ := open_int Tryd.underlying34 (hval 0 34 v0 rfl rfl) h0
  have b0 := bounds_u16 w0
  obtain ⟨f, rfl⟩ : ∃ k : Nat, n0 = (k : Int) := ⟨n0.toNat, by omega⟩
  obtain ⟨n1, rfl, rfl, rfl, w1⟩ := open_int Tryd.underlying34 (hval 1 34 v1 rfl rfl) h1
  have b1 := bounds_u16 w1
  obtain ⟨s, rfl⟩ : ∃ k : Nat, n1 = (k : Int) := ⟨n1.toNat, by omega⟩
  obtain ⟨c0, c1, y0, y1, n, rfl, rfl, rfl, g0, g1⟩ := Go.Joins.open_agg2 Tryd.underlying36 (by kernel_rfl) (by kernel_rfl) (hval 2 36 v2 rfl rfl) h2
  obtain ⟨x0, e0, _, _⟩ := DataW.trod_int Tryd.underlying3 g0
  obtain ⟨x1, e1, _, _⟩ := DataW.trod_int Tryd.underlying3 g1
  simp only [List.cons.injEq, and_true] at e0 e1
  subst e0; subst e1
  obtain ⟨c0, c1, y0, y1, n, rfl, rfl, rfl, g0, g1⟩ := Go.Joins.open_agg2 Tryd.underlying36 (by kernel_rfl) (by kernel_rfl) (hval 3 36 v3 rfl rfl) h3
  obtain ⟨z0, e0, _, _⟩ := DataW.trod_int Tryd.underlying3 g0
  obtain ⟨z1, e1, _, _⟩ := DataW.trod_int Tryd.underlying3 g1
  simp only [List.cons.injEq, and_true] at e0 e1
  subst e0; subst e1
  refine (long_any f s x0 x1 z0 z1 (by omega) (by omega) W (powTab hL)).mono fun e W' ⟨he, hb⟩ => ?_
  subst he
  exact ⟨_, rfl, post_law (tb := 4) (by kernel_rfl) (by rw [Tryd.params5]; decide +kernel) rfl rfl Tryd.underlying4 hW0 rfl rfl rfl hb⟩

theorem laid_met (os : Os) : laidMet Tryd.prog Rows.scheduleLongRow.laid ((laidWorld os).forCall (fun _ _ => 0) ⟨#[], #[.int .u16 0, .int .u16 0, .agg #[.int .i64 0, .int .i64 0], .agg #[.int .i64 0, .int .i64 0]], []⟩).memory :=
  laidMet_of_run' 8 (by kernel_rfl) (by kernel_rfl)
theorem reads (os : Os) {H : Type} (enc : TypeId × Value → H) : ∃ places, DataW.whole enc Tryd.prog ((laidWorld os).forCall (fun _ _ => 0) ⟨#[], #[.int .u16 0, .int .u16 0, .agg #[.int .i64 0, .int .i64 0], .agg #[.int .i64 0, .int .i64 0]], []⟩).memory Tryd.f5.params.toList Rows.scheduleLongSpec.vars false (#[.int .u16 0, .int .u16 0, .agg #[.int .i64 0, .int .i64 0], .agg #[.int .i64 0, .int .i64 0]] : Array Value).toList 8 = some ([.lit (.int .u16 0), .lit (.int .u16 0), .agg [.lit (.int .i64 0), .lit (.int .i64 0)], .agg [.lit (.int .i64 0), .lit (.int .i64 0)]], [], places) :=
  ⟨[], by kernel_rfl⟩

set_option maxRecDepth 100000 in
theorem lifted (os : Os) (started : os.Started) (H : Type) (enc : TypeId × Value → H) (F : Stop.Interp) :
    ReturnsInHanded {} Tryd.checked os 5 .any ((OpenSpec.ofChange Rows.scheduleLongSpec).preRow enc Tryd.prog Tryd.f5 Rows.scheduleLongRow.domain false Rows.scheduleLongRow.laid) (((OpenSpec.ofChange Rows.scheduleLongSpec).at F).post enc Tryd.prog Tryd.f5 false true false false) := by
  obtain ⟨places, hx⟩ := reads os enc
  refine returnsInHanded_of_row (C := Tryd.checked) (s := OpenSpec.ofChange Rows.scheduleLongSpec) own0 started (by kernel_rfl) Tryd.func5
    (witness_row_at (enc := enc) (C := Tryd.checked) false (laidWorld os) #[.int .u16 0, .int .u16 0, .agg #[.int .i64 0, .int .i64 0], .agg #[.int .i64 0, .int .i64 0]] rfl (by kernel_rfl) (by kernel_rfl) (by kernel_rfl)
      (OpenSpec.preRow_of_cond 8 hx (by kernel_rfl) (fun k hk => by cases hk) (by kernel_rfl) (laid_met os))) ?_
  intro W base args ds gs before hval hW _ _ _ hL _ _
  exact contract H enc W base args ds gs before hval hW hL

theorem said : Rows.ScheduleLongSaid :=
  OpenClaim.holds_of_cond 5 Tryd.f5 rfl rfl rfl rfl rfl rfl rfl ⟨rfl, rfl, rfl, rfl, rfl⟩ rfl rfl rfl rfl rfl (by kernel_rfl) Tryd.func5 (by kernel_rfl)
    (of_decide_eq_true (by kernel_rfl)) (by unfold Func.isWrapper; first | (rw [if_pos (by decide +kernel)]; kernel_rfl) | (rw [if_neg (by decide +kernel)]; exact ⟨rfl, rfl⟩))
    (fun os started H enc _ F => by rw [OpenClaim.pre_eq_preRow]; exact lifted os started H enc F)

theorem plain (f : FuncId) (fn : Func) (hf : Tryd.pinned.checked.prog.funcNamed "nursery/nurserylaw32.ScheduleLong" = some f) (hfn : Tryd.pinned.checked.prog.funcs[f]? = some fn) :
    false = Tryd.pinned.checked.prog.looks [] ∧ ∀ (j : Nat) t, fn.params[j]? = some t → Tryd.pinned.checked.prog.wantsStandIn t = false := by
  obtain rfl : f = 5 := Option.some.inj ((show Tryd.prog.funcNamed "nursery/nurserylaw32.ScheduleLong" = some 5 by kernel_rfl).symm.trans hf) |>.symm
  obtain rfl : fn = Tryd.f5 := (Option.some.inj (Tryd.func5.symm.trans hfn)).symm
  refine ⟨by kernel_rfl, fun j t ht => ?_⟩
  rw [Tryd.params5] at ht
  have hm : t ∈ [34, 36] := by simpa using Array.mem_of_getElem? ht
  have hall : ∀ x ∈ [34, 36], Tryd.prog.wantsStandIn x = false := by decide +kernel
  exact hall t hm

/-- THE CARD. -/
theorem scheduleLong_card : Rows.ScheduleLongCardSaid :=
  Claim7.holds_tied_plain_at .later [] _ _ _ _ said (fun _ h => by cases h) (by kernel_rfl) (fun _ h => by cases h) scheduleLong_row_tie rfl ⟨rfl, rfl⟩ (by kernel_rfl) rfl plain (by kernel_rfl)
end Go.Proofs.YtaficbkaofhjeaaDoor.ClaimSL
