/- PolicyTexts: the card's statement. The law returns true for every input; the row lists three tables, which the walk finds as they were laid. -/
import Derived.Test.YtmbffkemfepekaaGreatDoorPtLw5
import Derived.Test.YtmbffkemfepekaaGreatDoorPtJfT
import Derived.Test.YtmbffkemfepekaaGreatDoorPtAwk
import Derived.Test.YtmbffkemfepekaaGreatDoorPtBk4
import Derived.Test.YtmbffkemfepekaaGreatDoorCards
import Derived.Test.YtmbffkemfepekaaGreatDoorTie
import Derived.ChangeMaps5
namespace Go.Proofs.YtmbffkemfepekaaGreatDoor.ClaimPT
open Go.ChangeShapes Go.WideShapes Go.ChangeAt Go.RowKit

set_option maxRecDepth 100000 in
theorem contract (H:Type) (enc:TypeId × Value→H) (W:World) (base:Nat) (args:Array Value) (ds gs:List (DataW H)) (before:List MemPlace)
  (hval:∀ (j:Nat) t v,Tryz.f3.params[j]? = some t→args[j]? = some v→Value.okWide Tryz.prog W .any base t v)
  (hW:DataW.Whole enc Tryz.prog Tryz.f3.params.toList Rows.policyTextsSpec.vars false W args.toList ds gs before) (hL:laidMetH Tryz.prog Rows.policyTextsRow.laid W) (hsh:W.ShapedOpen Tryz.prog) :
  Calls Tryz.prog 3 args W fun e W'=>∃ v,e=.returned v∧Rows.policyTextsSpec.post enc Tryz.prog Tryz.f3 false true false false W args v W':=by
 have hen:Env W.heap.size W:=env_of hL hsh
 have hW0:=hW
 obtain ⟨p,q,hA,hV,rfl,hfz,hnd⟩:=hW
 obtain ⟨rfl,rfl⟩:=trodVars_none hV
 rw [Tryz.params3] at hA hval
 obtain ⟨v0,vs0,d0,ds0,p0,q0,hargs,rfl,rfl,h0,r0⟩:=trodAll_cons hA
 obtain ⟨v1,vs1,d1,ds1,p1,q1,rfl,rfl,rfl,h1,r1⟩:=trodAll_cons r0
 obtain ⟨rfl,rfl,rfl⟩:=trodAll_nil r1
 obtain rfl:args=#[v0,v1]:=by cases args; simp_all
 obtain ⟨A,c,rs,rfl,hP⟩:=open_pol (hval 0 24 v0 rfl rfl) h0
 obtain ⟨s,rfl,rfl,rfl,ws⟩:=Go.ChangeMaps.open_string Tryz.underlying9 (hval 1 9 v1 rfl rfl) h1
 refine (ptexts_any A c W.heap.size rs s W hP (Nat.le_refl _) hen).mono fun e W' ⟨he,hb⟩=>?_
 subst he
 exact ⟨_,rfl,post_law (tb:=4) (by kernel_rfl) (by rw [Tryz.params3]; decide +kernel) rfl rfl Tryz.underlying4 hW0 rfl rfl rfl hb⟩

theorem laid_met (os:Os):laidMet Tryz.prog Rows.policyTextsRow.laid ((laidWorld os).forCall (fun _ _=>0) ⟨#[],#[.agg #[.slice none 0 0],.string ⟨#[]⟩],[]⟩).memory:=
 laidMet_of_run' 8 (by kernel_rfl) (by kernel_rfl)
theorem reads (os:Os) {H:Type} (enc:TypeId × Value→H):∃ places,DataW.whole enc Tryz.prog ((laidWorld os).forCall (fun _ _=>0) ⟨#[],#[.agg #[.slice none 0 0],.string ⟨#[]⟩],[]⟩).memory Tryz.f3.params.toList Rows.policyTextsSpec.vars false (#[.agg #[.slice none 0 0],.string ⟨#[]⟩]:Array Value).toList 8=some ([.agg [.nil],.lit (.string [])],[],places):=
 ⟨[],by kernel_rfl⟩

set_option maxRecDepth 100000 in
theorem lifted (os:Os) (started:os.Started) (H:Type) (enc:TypeId × Value→H) (F:Stop.Interp) :
  ReturnsInHanded {} Tryz.checked os 3 .any ((OpenSpec.ofChange Rows.policyTextsSpec).preRow enc Tryz.prog Tryz.f3 Rows.policyTextsRow.domain false Rows.policyTextsRow.laid) (((OpenSpec.ofChange Rows.policyTextsSpec).at F).post enc Tryz.prog Tryz.f3 false true false false):=by
 obtain ⟨places,hx⟩:=reads os enc
 refine returnsInHanded_of_row (C:=Tryz.checked) (s:=OpenSpec.ofChange Rows.policyTextsSpec) own0 started (by kernel_rfl) Tryz.func3
  (witness_row_at (enc:=enc) (C:=Tryz.checked) false (laidWorld os) #[.agg #[.slice none 0 0],.string ⟨#[]⟩] rfl (by kernel_rfl) (by kernel_rfl) (by kernel_rfl)
   (OpenSpec.preRow_of_cond 8 hx (by kernel_rfl) (fun k hk=>by cases hk) (by kernel_rfl) (laid_met os))) ?_
 intro W base args ds gs before hval hW _ _ _ hL hsh _
 exact contract H enc W base args ds gs before hval hW hL hsh

theorem said:Rows.PolicyTextsSaid:=
 OpenClaim.holds_of_cond 3 Tryz.f3 rfl rfl rfl rfl rfl rfl rfl ⟨rfl,rfl,rfl,rfl,rfl⟩ rfl rfl rfl rfl rfl (by kernel_rfl) Tryz.func3 closed
  (of_decide_eq_true (by kernel_rfl)) (by unfold Func.isWrapper; first | (rw [if_pos (by decide +kernel)]; kernel_rfl) | (rw [if_neg (by decide +kernel)]; exact ⟨rfl,rfl⟩))
  (fun os started H enc _ F=>by rw [OpenClaim.pre_eq_preRow]; exact lifted os started H enc F)

theorem plain (f:FuncId) (fn:Func) (hf:Tryz.pinned.checked.prog.funcNamed "nursery/nurserylaw55.PolicyTexts" = some f) (hfn:Tryz.pinned.checked.prog.funcs[f]? = some fn) :
  true=Tryz.pinned.checked.prog.looks []∧∀ (j:Nat) t,fn.params[j]? = some t→Tryz.pinned.checked.prog.wantsStandIn t=false:=by
 obtain rfl:f=3:=Option.some.inj ((show Tryz.prog.funcNamed "nursery/nurserylaw55.PolicyTexts" = some 3 by kernel_rfl).symm.trans hf) |>.symm
 obtain rfl:fn=Tryz.f3:=(Option.some.inj (Tryz.func3.symm.trans hfn)).symm
 refine ⟨looks_all.symm,fun j t ht=>?_⟩
 rw [Tryz.params3] at ht
 have hm:t∈[24,9]:=by simpa using Array.mem_of_getElem? ht
 have hall:∀ x∈[24,9],Tryz.prog.wantsStandIn x=false:=by decide +kernel
 exact hall t hm

/-- THE CARD. -/
theorem policyTexts_card:Rows.PolicyTextsCardSaid:=
 Claim7.holds_tied_plain_at .later [] _ _ _ _ said (fun _ h=>by cases h) (by kernel_rfl) (fun _ h=>by cases h) policyTexts_row_tie rfl ⟨rfl,rfl⟩ (by kernel_rfl) rfl plain (goesBy_none rfl)
end Go.Proofs.YtmbffkemfepekaaGreatDoor.ClaimPT
