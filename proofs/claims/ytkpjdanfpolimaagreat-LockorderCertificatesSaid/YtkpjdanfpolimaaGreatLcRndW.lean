/- The laws of Round and Rnd, in the wide fence outside of a round. Conditions: no operation defers. -/
import Derived.Test.YtkpjdanfpolimaaGreatLcIns
set_option maxRecDepth 100000
namespace Go.Proofs.YtkpjdanfpolimaaGreat
open Go.RowKit
theorem rows_wide {P:Program} {n:Nat} {row:String} {args:Array Value} {w:World} {R:Value→World→Prop} (h:Rows P row args w R):RowsIn Fence.wide n P row args w R:=fun c cs _=>
 let ⟨v,w',r,s⟩:=h c cs; ⟨v,w',r,stepsIn_wide.2 s⟩
theorem upon_wide {P:Program} {n:Nat} {o:Oper} {a:Act} {next:Act→World→Prop} {Q:Exit→Act→World→Prop}:∀ {r:Result Next},o.upon P a next Q r→o.uponIn Fence.wide n P a next Q r
 | .ok (.value _) _,h=>h
 | .ok .skip _,h=>h
 | .ok (.defer _) _,h=>h
 | .ok (.enter _ _) _,h=>⟨fun e=>by simp [Fence.wide] at e,callsIn_wide.2 (Calls.mono h (fun e w=>by cases e <;> exact id))⟩
 | .ok (.row _ _) _,h=>⟨fun e=>by simp [Fence.wide] at e,rows_wide h⟩
 | .ok (.round ..) _,h=>h.elim
 | .halt (.panic _) _,h=>h
 | .halt .goexit _,h=>h.elim
 | .halt .blocked _,h=>h.elim
 | .halt .waiting _,h=>h.elim
 | .halt (.stuck _) _,h=>h.elim
 | .halt (.unsupported _) _,h=>h.elim
theorem wpOp_wide {P:Program} {ops:Array Oper} {n i:Nat} {Q:Exit→Act→World→Prop} {K K':Act→World→Prop} {a:Act} {w:World} (hnd:∀ (j:Nat) (o:Oper),ops[j]? = some o→∀ c,o.op≠.defer c) (hQ:¬ LetsOut Q)
  (hK:∀ a w,K a w→K' a w) (h:wpOp P ops Q i K a w):wpOpIn Fence.wide n P ops Q i K' a w:=by
 unfold wpOp at h;unfold wpOpIn
 cases ho:ops[i]? with
 | none=>rw [ho] at h; exact hK _ _ h
 | some o=>
  rw [ho] at h;simp only at h ⊢;by_cases hw:Region.wanted o (yielded ops a.tmps)=true
  ·rw [if_pos hw] at h ⊢
   refine ⟨fun _ _=>trivial,?_⟩;rw [Oper.semAt_eq _ _ _ (hnd i o ho)];rcases h with h | ⟨_,h⟩
   ·exact upon_wide (Oper.wp_mono hK h)
   ·exact absurd h hQ
  ·rw [if_neg hw] at h ⊢
   exact ⟨fun _ _=>trivial,hK _ _ h⟩
theorem wpAny_wide {P:Program} {ops:Array Oper} {n:Nat} {md:Region.Mode} {Q:Exit→Act→World→Prop} (hnd:∀ (j:Nat) (o:Oper),ops[j]? = some o→∀ c,o.op≠.defer c) (hQ:¬ LetsOut Q) :
  ∀ (fuel:Nat) (listed:Array Bool) (a:Act) (w:World),wpAny P md ops Q fuel listed a w→wpAnyIn Fence.wide n P md ops Q fuel listed a w
 | 0,_,_,_,h=>h
 | fuel+1,_,_,_,h=>⟨h.1,fun i hi=>wpOp_wide hnd hQ (fun a w=>wpAny_wide hnd hQ fuel _ a w) (h.2 i hi)⟩
theorem wp_region_wide {P:Program} {id n:Nat} {ops:List Oper} {Q:Exit→Act→World→Prop} {S:World→Prop} {a:Act} {w:World} (hm:P.follows .mixedOrders=true) (hnd:noDefer ops=true) (hQ:¬ LetsOut Q) (hS:S w.drew)
  (h:S w.drew→wpAnyH P .any ops.toArray Q S ops.toArray.size (Array.replicate ops.toArray.size false) a w.drew):(Code.region id ops.toArray true).wpIn Fence.wide n P Q a w:=
 wpIn_region_draw (F:=Fence.wide) fun t=>by
  simp only [Region.schedule,hm,Bool.true_or,if_true];exact wpAnyIn_sound _ t _ a _ (wpAny_wide (noDefer_spec hnd) hQ _ _ _ _ (wpAny_of_held _ _ _ _ (h hS)))

theorem wp_wide_any {P:Program} {id n:Nat} {ops:List Oper} {Q:Exit→Act→World→Prop} {a:Act} {w:World} (hm:P.follows .mixedOrders=true) (hnd:noDefer ops=true) (hQ:¬ LetsOut Q)
  (h:wpAny P .any ops.toArray Q ops.toArray.size (Array.replicate ops.toArray.size false) a w.drew):(Code.region id ops.toArray true).wpIn Fence.wide n P Q a w:=
 wpIn_region_draw (F:=Fence.wide) fun t=>by
  simp only [Region.schedule,hm,Bool.true_or,if_true];exact wpAnyIn_sound _ t _ a _ (wpAny_wide (noDefer_spec hnd) hQ _ _ _ _ h)
theorem wp_wide_tail {P:Program} {id m:Nat} {Q:Exit→Act→World→Prop} {a:Act} {w:World} {l:List Oper} (n:Nat) (hm:P.follows .mixedOrders=true) (hnd:noDefer l=true) (hQ:¬ LetsOut Q) (hB:Region.lexTailB .any l.toArray n=true)
  (h:wpStill P l.toArray w.drew (fun a'=>wpList P l.toArray Q (l.drop n) a' w.drew) (l.take n) a):(Code.region id l.toArray true).wpIn Fence.wide m P Q a w:=by
 simp only [Region.lexTailB,Bool.and_eq_true,decide_eq_true_eq] at hB;obtain ⟨⟨⟨⟨hsel,hn⟩,hs⟩,hc⟩,hlex⟩:=hB;have hn':n<l.length:=by simpa using hn
 have htl:(l.take n).length=n:=by simp; omega
 have hdl:(l.drop n).length=l.toArray.size - n:=by simp
 have inv0:HeadInv .any l.toArray n (Array.replicate l.toArray.size false):=
  ⟨by simp,fun j oj _ hl=>(by rw [getD_replicate_false] at hl; cases hl),fun t _ ht=>getD_in (by simpa using ht) (getD_replicate_false _ _)⟩
 have H:=wpAnyL_lex (md:=.any) (g:=l.toArray.size - n) hsel hs hc hn (l.take n) 0 _ a (fun j hj=>by
  have hj':j<n:=by rw [htl] at hj; exact hj
  simp [hj']) (by simpa using htl) inv0 (by rw [htl]; exact hlex) h
 refine wp_wide_any hm hnd hQ ?_
 have:=wpAny_of_head (Q':=Q) (g:=l.toArray.size - n) (fun listed a' hL=>by
  have:=wpAny_of_seq (md:=.any) (Q':=Q) (l.drop n) n listed a' w.drew (fun j=>by simp [List.getElem?_drop]) (by rw [hdl]; exact hL.1) hL.2
  rwa [hdl] at this) _ _ _ H
 rw [htl,show n+(l.toArray.size - n)=l.toArray.size by omega] at this;exact this
end Go.Proofs.YtkpjdanfpolimaaGreat
