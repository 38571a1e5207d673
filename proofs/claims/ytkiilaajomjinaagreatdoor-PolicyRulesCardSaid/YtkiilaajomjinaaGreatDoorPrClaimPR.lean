/- PolicyRules: the card's statement. The law returns true for every input; the row lists three tables, which the walk finds as they were laid. -/
import Derived.Test.YtkiilaajomjinaaGreatDoorPrLw5
import Derived.Test.YtkiilaajomjinaaGreatDoorPrJcR
import Derived.Test.YtkiilaajomjinaaGreatDoorPrGr2
import Derived.Test.YtkiilaajomjinaaGreatDoorPrRcb
import Derived.Test.YtkiilaajomjinaaGreatDoorCards
import Derived.Test.YtkiilaajomjinaaGreatDoorTie
namespace Go.Proofs.YtkiilaajomjinaaGreatDoor.ClaimPR
open Go.ChangeShapes Go.WideShapes Go.ChangeAt Go.RowKit

set_option maxRecDepth 100000 in
theorem open_ruleA {H : Type} {enc : TypeId × Value → H} {W : World} {v : Value} {d : DataW H} {ps : List MemPlace} {b0 : Nat} (hval : Value.okWide Tryz.prog W .any b0 53 v) (h : DataW.Trod enc Tryz.prog W 0 (fun _ => true) true 53 v d ps) :
    ∃ (cs : List Value) (r : Rl), v = .agg cs.toArray ∧ RuleB W.heap.size W cs r := by
  obtain ⟨cs, rfl, hsz⟩ := okWide_struct Tryz.underlying53 hval
  have hsz1 : cs.size = 10 := hsz.trans (by kernel_rfl)
  obtain ⟨fuel, hf⟩ := h
  have hcs : (Value.agg cs).cells.toList = cs.toList := rfl
  obtain ⟨r, k, o, n, v, A1, m1, c1, k2, o2, n2, v2, A2, m2, c2, e, h1, h2⟩ := open_rule (cs := cs.toList) (by simpa using hsz1) (show DataW.trod enc Tryz.prog W 0 (fun _ => true) true fuel 53 cs.toList = _ from hf)
  exact ⟨cs.toList, r, by simp, k, o, n, v, A1, m1, c1, k2, o2, n2, v2, A2, m2, c2, e, h1, h2⟩
set_option maxRecDepth 100000 in
theorem open_u8 {H : Type} {enc : TypeId × Value → H} {W : World} {v : Value} {d : DataW H} {ps : List MemPlace} {b0 : Nat} (hval : Value.okWide Tryz.prog W .any b0 5 v) (h : DataW.Trod enc Tryz.prog W 0 (fun _ => true) true 5 v d ps) : ∃ n : Nat, v = .int .u8 (n : Nat) ∧ n < 256 := by
  obtain ⟨n, rfl, -, -, hw⟩ := open_int Tryz.underlying5 hval h
  have hw2 : 0 ≤ n ∧ n < 256 := by
    simp [Lit.wf, IntKind.min, IntKind.max, IntKind.signed, IntKind.bits] at hw
    omega
  exact ⟨n.toNat, by rw [Int.toNat_of_nonneg hw2.1], by omega⟩
set_option maxRecDepth 100000 in
theorem contract (H : Type) (enc : TypeId × Value → H) (W : World) (base : Nat) (args : Array Value) (ds gs : List (DataW H)) (before : List MemPlace)
    (hval : ∀ (j : Nat) t v, Tryz.f5.params[j]? = some t → args[j]? = some v → Value.okWide Tryz.prog W .any base t v)
    (hW : DataW.Whole enc Tryz.prog Tryz.f5.params.toList Rows.policyRulesSpec.vars false W args.toList ds gs before) (hL : laidMetH Tryz.prog Rows.policyRulesRow.laid W) (hsh : W.ShapedOpen Tryz.prog) :
    Calls Tryz.prog 5 args W fun e W' => ∃ v, e = .returned v ∧ Rows.policyRulesSpec.post enc Tryz.prog Tryz.f5 false true false false W args v W' := by
  have hen : Env W.heap.size W := env_of hL hsh
  have hW0 := hW
  obtain ⟨p, q, hA, hV, rfl, hfz, hnd⟩ := hW
  obtain ⟨rfl, rfl⟩ := trodVars_none hV
  rw [Tryz.params5] at hA hval
  obtain ⟨v0, vs0, d0, ds0, p0, q0, hargs, rfl, rfl, h0, r0⟩ := trodAll_cons hA
  obtain ⟨v1, vs1, d1, ds1, p1, q1, rfl, rfl, rfl, h1, r1⟩ := trodAll_cons r0
  obtain ⟨v2, vs2, d2, ds2, p2, q2, rfl, rfl, rfl, h2, r2⟩ := trodAll_cons r1
  obtain ⟨v3, vs3, d3, ds3, p3, q3, rfl, rfl, rfl, h3, r3⟩ := trodAll_cons r2
  obtain ⟨rfl, rfl, rfl⟩ := trodAll_nil r3
  obtain rfl : args = #[v0, v1, v2, v3] := by cases args; simp_all
  obtain ⟨A, c, rs, rfl, hP⟩ := open_pol (hval 0 24 v0 rfl rfl) h0
  obtain ⟨cs, r, rfl, hR⟩ := open_ruleA (hval 1 53 v1 rfl rfl) h1
  obtain ⟨Al, cl, ls, rfl, hLs⟩ := open_atts (hval 2 35 v2 rfl rfl) h2
  obtain ⟨at_, rfl, hat⟩ := open_u8 (hval 3 5 v3 rfl rfl) h3
  refine (rules_any A c W.heap.size rs cs r Al cl ls at_ W hP (Nat.le_refl _) hR hLs (fun W' hW' => awake_any W' ((hen.next hW').more hW'.size)) hat).mono fun e W' ⟨he, hb⟩ => ?_
  subst he
  exact ⟨_, rfl, post_law (tb := 4) (by kernel_rfl) (by rw [Tryz.params5]; decide +kernel) rfl rfl Tryz.underlying4 hW0 rfl rfl rfl hb⟩

theorem laid_met (os : Os) : laidMet Tryz.prog Rows.policyRulesRow.laid ((laidWorld os).forCall (fun _ _ => 0) ⟨#[], #[.agg #[.slice none 0 0], .agg #[.int .i64 0, .int .i64 0, .string ⟨#[]⟩, .int .i64 0, .slice none 0 0, .int .i64 0, .int .i64 0, .string ⟨#[]⟩, .int .i64 0, .slice none 0 0], .slice none 0 0, .int .u8 0], []⟩).memory :=
  laidMet_of_run' 8 (by kernel_rfl) (by kernel_rfl)
theorem reads (os : Os) {H : Type} (enc : TypeId × Value → H) : ∃ places, DataW.whole enc Tryz.prog ((laidWorld os).forCall (fun _ _ => 0) ⟨#[], #[.agg #[.slice none 0 0], .agg #[.int .i64 0, .int .i64 0, .string ⟨#[]⟩, .int .i64 0, .slice none 0 0, .int .i64 0, .int .i64 0, .string ⟨#[]⟩, .int .i64 0, .slice none 0 0], .slice none 0 0, .int .u8 0], []⟩).memory Tryz.f5.params.toList Rows.policyRulesSpec.vars false (#[.agg #[.slice none 0 0], .agg #[.int .i64 0, .int .i64 0, .string ⟨#[]⟩, .int .i64 0, .slice none 0 0, .int .i64 0, .int .i64 0, .string ⟨#[]⟩, .int .i64 0, .slice none 0 0], .slice none 0 0, .int .u8 0] : Array Value).toList 8 = some ([.agg [.nil], .agg [DataW.agg [.lit (.int .i64 0), .lit (.int .i64 0), .lit (.string []), .lit (.int .i64 0), .nil], DataW.agg [.lit (.int .i64 0), .lit (.int .i64 0), .lit (.string []), .lit (.int .i64 0), .nil]], .nil, .lit (.int .u8 0)], [], places) :=
  ⟨[], by kernel_rfl⟩

set_option maxRecDepth 100000 in
theorem lifted (os : Os) (started : os.Started) (H : Type) (enc : TypeId × Value → H) (F : Stop.Interp) :
    ReturnsInHanded {} Tryz.checked os 5 .any ((OpenSpec.ofChange Rows.policyRulesSpec).preRow enc Tryz.prog Tryz.f5 Rows.policyRulesRow.domain false Rows.policyRulesRow.laid) (((OpenSpec.ofChange Rows.policyRulesSpec).at F).post enc Tryz.prog Tryz.f5 false true false false) := by
  obtain ⟨places, hx⟩ := reads os enc
  refine returnsInHanded_of_row (C := Tryz.checked) (s := OpenSpec.ofChange Rows.policyRulesSpec) own0 started (by kernel_rfl) Tryz.func5
    (witness_row_at (enc := enc) (C := Tryz.checked) false (laidWorld os) #[.agg #[.slice none 0 0], .agg #[.int .i64 0, .int .i64 0, .string ⟨#[]⟩, .int .i64 0, .slice none 0 0, .int .i64 0, .int .i64 0, .string ⟨#[]⟩, .int .i64 0, .slice none 0 0], .slice none 0 0, .int .u8 0] rfl (by kernel_rfl) (by kernel_rfl) (by kernel_rfl)
      (OpenSpec.preRow_of_cond 8 hx (by kernel_rfl) (fun k hk => by cases hk) (by kernel_rfl) (laid_met os))) ?_
  intro W base args ds gs before hval hW _ _ _ hL hsh _
  exact contract H enc W base args ds gs before hval hW hL hsh

theorem said : Rows.PolicyRulesSaid :=
  OpenClaim.holds_of_cond 5 Tryz.f5 rfl rfl rfl rfl rfl rfl rfl ⟨rfl, rfl, rfl, rfl, rfl⟩ rfl rfl rfl rfl rfl (by kernel_rfl) Tryz.func5 closed
    (of_decide_eq_true (by kernel_rfl)) (by unfold Func.isWrapper; first | (rw [if_pos (by decide +kernel)]; kernel_rfl) | (rw [if_neg (by decide +kernel)]; exact ⟨rfl, rfl⟩))
    (fun os started H enc _ F => by rw [OpenClaim.pre_eq_preRow]; exact lifted os started H enc F)

theorem plain (f : FuncId) (fn : Func) (hf : Tryz.pinned.checked.prog.funcNamed "nursery/nurserylaw55.PolicyRules" = some f) (hfn : Tryz.pinned.checked.prog.funcs[f]? = some fn) :
    true = Tryz.pinned.checked.prog.looks [] ∧ ∀ (j : Nat) t, fn.params[j]? = some t → Tryz.pinned.checked.prog.wantsStandIn t = false := by
  obtain rfl : f = 5 := Option.some.inj ((show Tryz.prog.funcNamed "nursery/nurserylaw55.PolicyRules" = some 5 by kernel_rfl).symm.trans hf) |>.symm
  obtain rfl : fn = Tryz.f5 := (Option.some.inj (Tryz.func5.symm.trans hfn)).symm
  refine ⟨looks_all.symm, fun j t ht => ?_⟩
  rw [Tryz.params5] at ht
  have hm : t ∈ [24, 53, 35, 5] := by simpa using Array.mem_of_getElem? ht
  have hall : ∀ x ∈ [24, 53, 35, 5], Tryz.prog.wantsStandIn x = false := by decide +kernel
  exact hall t hm

/-- THE CARD. -/
theorem policyRules_card : Rows.PolicyRulesCardSaid :=
  Claim7.holds_tied_plain_at .later [] _ _ _ _ said (fun _ h => by cases h) (by kernel_rfl) (fun _ h => by cases h) policyRules_row_tie rfl ⟨rfl, rfl⟩ (by kernel_rfl) rfl plain (goesBy_none rfl)
end Go.Proofs.YtkiilaajomjinaaGreatDoor.ClaimPR
