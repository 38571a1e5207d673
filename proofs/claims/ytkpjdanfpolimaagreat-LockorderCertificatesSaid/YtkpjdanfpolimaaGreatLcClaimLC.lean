/- LockorderCertificates: the statement. The law returns true for every input. -/
import Derived.Test.YtkpjdanfpolimaaGreatLcOpn
import Derived.Test.YtkpjdanfpolimaaGreatLcGl
import Derived.Test.YtkpjdanfpolimaaGreatRows
set_option maxRecDepth 100000
namespace Go.Proofs.YtkpjdanfpolimaaGreat.ClaimLC
open Go.ChangeShapes Go.WideShapes Go.ChangeAt Go.RowKit

theorem open_cert {H:Type} {enc:TypeId × Value→H} {W:World} {v:Value} {d:DataW H} {ps:List MemPlace} {b0:Nat} (hval:Value.okWide Tryz.prog W .any b0 29 v) (h:DataW.Trod enc Tryz.prog W 0 (fun _=>true) true 29 v d ps) :
  ∃ (k:Int) (A:Option Addr) (c:Nat) (cs:List Int),v=.agg #[.int .i64 k,.slice A cs.length c]∧Rd W W.heap.size 1 A cs.length (i64s cs):=by
 obtain ⟨v0,v1,y0,y1,k,rfl,-,-,g0,g1⟩:=Go.Joins.open_agg2 Tryz.underlying29 (by kernel_rfl) (by kernel_rfl) hval h;obtain ⟨n0,e0,-,-⟩:=DataW.trod_int Tryz.underlying3 g0;obtain ⟨A1,c1,l1,e1,hr1,-⟩:=open_ints g1;simp only [List.cons.injEq,and_true] at e0 e1;subst e0 e1;exact ⟨n0,A1,c1,l1,rfl,hr1⟩

theorem own0:ownKnob Tryz.prog.godebug=none:=by kernel_rfl

theorem contract (H:Type) (enc:TypeId × Value→H) (W:World) (base:Nat) (args:Array Value) (ds gs:List (DataW H)) (before:List MemPlace)
  (hval:∀ (j:Nat) t v,Tryz.f3.params[j]? = some t→args[j]? = some v→Value.okWide Tryz.prog W .any base t v)
  (hW:DataW.Whole enc Tryz.prog Tryz.f3.params.toList Rows.lockorderCertificatesSpec.vars false W args.toList ds gs before) :
  Calls Tryz.prog 3 args W fun e W'=>∃ v,e=.returned v∧Rows.lockorderCertificatesSpec.post enc Tryz.prog Tryz.f3 false true false false W args v W':=by
 have hW0:=hW;obtain ⟨p,q,hA,hV,rfl,hfz,hnd⟩:=hW;obtain ⟨rfl,rfl⟩:=trodVars_none hV;rw [Tryz.params3] at hA hval;obtain ⟨v0,vs0,d0,ds0,p0,q0,hargs,rfl,rfl,h0,r0⟩:=trodAll_cons hA;obtain ⟨v1,vs1,d1,ds1,p1,q1,rfl,rfl,rfl,h1,r1⟩:=trodAll_cons r0;obtain ⟨rfl,rfl,rfl⟩:=trodAll_nil r1;obtain rfl:args=#[v0,v1]:=by cases args; simp_all
 obtain ⟨p,rfl,hlies,hfit⟩:=open_prg (hval 0 26 v0 rfl rfl) h0;obtain ⟨k,A,c,cs,rfl,hcs⟩:=open_cert (hval 1 29 v1 rfl rfl) h1;refine (certLaw_any p hfit k A c cs W hlies hcs).mono fun e W' ⟨he,hb⟩=>?_
 subst he;exact ⟨_,rfl,post_law (tb:=4) (by kernel_rfl) (by rw [Tryz.params3]; decide +kernel) rfl rfl Tryz.underlying4 hW0 rfl rfl rfl hb⟩

theorem lifted (os:Os) (started:os.Started) (H:Type) (enc:TypeId × Value→H) :
  ReturnsInHanded {} Tryz.checked os 3 .any (Rows.lockorderCertificatesSpec.pre6 enc Tryz.prog Tryz.f3 Rows.lockorderCertificatesRow.domain false) (Rows.lockorderCertificatesSpec.post enc Tryz.prog Tryz.f3 false true false false):=by
 refine returnsInHanded_of_change (C:=Tryz.checked) own0 started (by kernel_rfl) Tryz.func3
  (ChangeSpec.witness6 (enc:=enc) (C:=Tryz.checked) false ⟨#[],#[.agg #[.slice none 0 0,.slice none 0 0,.slice none 0 0],.agg #[.int .i64 0,.slice none 0 0]],[]⟩ 8 (by kernel_rfl) (by kernel_rfl) (by kernel_rfl) (by kernel_rfl)) ?_
 intro W base args ds gs before hval hW _ _;exact contract H enc W base args ds gs before hval hW

theorem lockorderCertificates_said:Rows.LockorderCertificatesSaid:=
 OpenClaim.holds_of_wide 3 Tryz.f3 rfl rfl rfl rfl rfl rfl rfl ⟨rfl,rfl,rfl,rfl,rfl⟩ rfl rfl rfl rfl rfl (by kernel_rfl) Tryz.func3 (by kernel_rfl)
  (of_decide_eq_true (by kernel_rfl)) (by unfold Func.isWrapper; first | (rw [if_pos (by decide +kernel)]; kernel_rfl) | (rw [if_neg (by decide +kernel)]; exact ⟨rfl,rfl⟩))
  (fun os started H enc _=>lifted os started H enc)
end Go.Proofs.YtkpjdanfpolimaaGreat.ClaimLC
