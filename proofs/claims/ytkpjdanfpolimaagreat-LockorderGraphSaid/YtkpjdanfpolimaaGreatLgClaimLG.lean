/- LockorderGraph: the statement. The law returns true for every input. -/
import Derived.Test.YtkpjdanfpolimaaGreatLgOpn
import Derived.Test.YtkpjdanfpolimaaGreatLgGl
import Derived.Test.YtkpjdanfpolimaaGreatRows
set_option maxRecDepth 100000
namespace Go.Proofs.YtkpjdanfpolimaaGreat.ClaimLG
open Go.ChangeShapes Go.WideShapes Go.ChangeAt Go.RowKit

theorem own0 : ownKnob Tryz.prog.godebug = none := by kernel_rfl

theorem contract (H : Type) (enc : TypeId × Value → H) (W : World) (base : Nat) (args : Array Value) (ds gs : List (DataW H)) (before : List MemPlace)
  (hval : ∀ (j : Nat) t v, Tryz.f5.params[j]? = some t → args[j]? = some v → Value.okWide Tryz.prog W .any base t v)
  (hW : DataW.Whole enc Tryz.prog Tryz.f5.params.toList Rows.lockorderGraphSpec.vars false W args.toList ds gs before) :
  Calls Tryz.prog 5 args W fun e W' => ∃ v, e = .returned v ∧ Rows.lockorderGraphSpec.post enc Tryz.prog Tryz.f5 false true false false W args v W' := by
 have hW0 := hW;obtain ⟨p, q, hA, hV, rfl, hfz, hnd⟩ := hW;obtain ⟨rfl, rfl⟩ := trodVars_none hV;rw [Tryz.params5] at hA hval;obtain ⟨v0, vs0, d0, ds0, p0, q0, hargs, rfl, rfl, h0, r0⟩ := trodAll_cons hA;obtain ⟨v1, vs1, d1, ds1, p1, q1, rfl, rfl, rfl, h1, r1⟩ := trodAll_cons r0;obtain ⟨rfl, rfl, rfl⟩ := trodAll_nil r1;obtain rfl : args = #[v0, v1] := by cases args; simp_all
 obtain ⟨p, rfl, hlies, hfit⟩ := open_prg (hval 0 26 v0 rfl rfl) h0;obtain ⟨m, rfl, rfl, rfl, wm⟩ := open_int Tryz.underlying3 (hval 1 3 v1 rfl rfl) h1;refine (graphLaw_any p hfit m W hlies).mono fun e W' ⟨he, hb⟩ => ?_
 subst he;exact ⟨_, rfl, post_law (tb := 4) (by kernel_rfl) (by rw [Tryz.params5]; decide +kernel) rfl rfl Tryz.underlying4 hW0 rfl rfl rfl hb⟩

theorem lifted (os : Os) (started : os.Started) (H : Type) (enc : TypeId × Value → H) :
  ReturnsInHanded {} Tryz.checked os 5 .any (Rows.lockorderGraphSpec.pre6 enc Tryz.prog Tryz.f5 Rows.lockorderGraphRow.domain false) (Rows.lockorderGraphSpec.post enc Tryz.prog Tryz.f5 false true false false) := by
 refine returnsInHanded_of_change (C := Tryz.checked) own0 started (by kernel_rfl) Tryz.func5
  (ChangeSpec.witness6 (enc := enc) (C := Tryz.checked) false ⟨#[], #[.agg #[.slice none 0 0, .slice none 0 0, .slice none 0 0], .int .i64 0], []⟩ 8 (by kernel_rfl) (by kernel_rfl) (by kernel_rfl) (by kernel_rfl)) ?_
 intro W base args ds gs before hval hW _ _;exact contract H enc W base args ds gs before hval hW

theorem lockorderGraph_said : Rows.LockorderGraphSaid :=
 OpenClaim.holds_of_wide 5 Tryz.f5 rfl rfl rfl rfl rfl rfl rfl ⟨rfl, rfl, rfl, rfl, rfl⟩ rfl rfl rfl rfl rfl (by kernel_rfl) Tryz.func5 (by kernel_rfl)
  (of_decide_eq_true (by kernel_rfl)) (by unfold Func.isWrapper; first | (rw [if_pos (by decide +kernel)]; kernel_rfl) | (rw [if_neg (by decide +kernel)]; exact ⟨rfl, rfl⟩))
  (fun os started H enc _ => lifted os started H enc)
end Go.Proofs.YtkpjdanfpolimaaGreat.ClaimLG
