/- The plain maths of finite directed graphs: orders, ranks, what can be reached, classes. No conditions. -/
import Derived.Lib.Hide
set_option maxRecDepth 100000
namespace Go.Proofs.YtkpjdanfpolimaaGreat
def succs (l:List (Nat × Nat)) (u:Nat):List Nat:=(l.filter (fun e=>e.1 == u)).map (·.2)
theorem mem_succs {l:List (Nat × Nat)} {u v:Nat}:v∈succs l u↔(u,v)∈l:=by
 unfold succs;simp only [List.mem_map,List.mem_filter];constructor
 ·rintro ⟨⟨a,b⟩,⟨h1,h2⟩,h3⟩
  have:a=u:=by simpa using h2
  subst this; subst h3; exact h1
 ·intro h
  exact ⟨(u,v),⟨h,by simp⟩,rfl⟩
theorem succs_append (l r:List (Nat × Nat)) (u:Nat):succs (l++r) u=succs l u++succs r u:=by simp [succs]
theorem succs_one (a b u:Nat):succs [(a,b)] u=if a=u then [b] else []:=by
 unfold succs;by_cases h:a=u <;> simp [h]
theorem succs_len (l:List (Nat × Nat)) (u:Nat):(succs l u).length≤l.length:=by
 unfold succs; rw [List.length_map]; exact List.length_filter_le _ _
inductive Way (l:List (Nat × Nat)):Nat→Nat→Prop
 | refl (u:Nat):Way l u u
 | step {u v w:Nat}:Way l u v→(v,w)∈l→Way l u w
theorem Way.trans {l:List (Nat × Nat)} {u v w:Nat} (h:Way l u v) (k:Way l v w):Way l u w:=by
 induction k with
 | refl=>exact h
 | step _ e ih=>exact ih.step e
theorem Way.head {l:List (Nat × Nat)} {u v w:Nat} (e:(u,v)∈l) (k:Way l v w):Way l u w:=((Way.refl u).step e).trans k
def EdR (n:Nat) (l:List (Nat × Nat)):Prop:=∀ e∈l,e.1<n∧e.2<n
theorem Way.lt {n:Nat} {l:List (Nat × Nat)} (h:EdR n l) {u v:Nat} (hu:u<n) (k:Way l u v):v<n:=by
 cases k with
 | refl=>exact hu
 | step _ e=>exact (h _ e).2
structure Topo (n:Nat) (l:List (Nat × Nat)) (o:List Nat):Prop where
 len:o.length=n
 nodup:o.Nodup
 lt:∀ v∈o,v<n
 pred:∀ pre v suf,o=pre++v::suf→∀ u,(u,v)∈l→u∈pre
def Stuck (n:Nat) (l:List (Nat × Nat)):Prop:=∃ R:Nat→Prop,(∃ v,v<n∧R v)∧∀ v,v<n→R v→∃ u,u<n∧R u∧(u,v)∈l
theorem all_len:∀ (n:Nat) (o:List Nat),(∀ v,v<n→v∈o)→n≤o.length
 | 0,_,_=>Nat.zero_le _
 | n+1,o,h=>by
  have hm:=h n (by omega);have:=all_len n (o.erase n) (fun v hv=>(List.mem_erase_of_ne (by omega)).2 (h v (by omega)));rw [List.length_erase_of_mem hm] at this;have:=List.length_pos_of_mem hm;omega
theorem not_all {n:Nat} {o:List Nat} (h:o.length<n):∃ v,v<n∧v∉o:=by
 refine Classical.byContradiction fun hc=>?_
 have:=all_len n o (fun v hv=>Classical.byContradiction fun hn=>hc ⟨v,hv,hn⟩);omega
theorem len_le {n:Nat} {o:List Nat} (h:o.Nodup) (hl:∀ v∈o,v<n):o.length≤n:=by
 induction n generalizing o with
 | zero=>cases o with
  | nil=>simp
  | cons x r=>exact absurd (hl x (by simp)) (by omega)
 | succ n ih=>
  by_cases hm:n∈o
  ·have:=ih (o:=o.erase n) (h.erase n) (fun v hv=>by
    have h1:=hl v (List.mem_of_mem_erase hv);have h2:v≠n:=fun e=>by subst e; exact ((List.Nodup.mem_erase_iff h).1 hv).1 rfl
    omega)
   rw [List.length_erase_of_mem hm] at this;omega
  ·have:=ih h (fun v hv=>by
    have h1:=hl v hv;have h2:v≠n:=fun e=>by subst e; exact hm hv
    omega)
   omega
def entr (l:List (Nat × Nat)) (out:List Nat) (v:Nat):Nat:=(l.filter (fun e=>e.2 == v && !(decide (e.1∈out)))).length
theorem entr_le (l:List (Nat × Nat)) (out:List Nat) (v:Nat):entr l out v≤l.length:=List.length_filter_le _ _
theorem entr_append (l r:List (Nat × Nat)) (out:List Nat) (v:Nat):entr (l++r) out v=entr l out v+entr r out v:=by simp [entr]
theorem entr_zero {l:List (Nat × Nat)} {out:List Nat} {v:Nat} (h:entr l out v=0) {u:Nat} (hu:(u,v)∈l):u∈out:=by
 unfold entr at h;have:=List.filter_eq_nil_iff.1 (List.length_eq_zero_iff.1 h) _ hu;simpa using this
theorem entr_pos {l:List (Nat × Nat)} {out:List Nat} {v:Nat} (h:entr l out v≠0):∃ u,(u,v)∈l∧u∉out:=by
 refine Classical.byContradiction fun hc=>h ?_
 unfold entr;rw [List.length_eq_zero_iff,List.filter_eq_nil_iff];rintro ⟨a,b⟩ he;intro hb;have hb:b=v∧a∉out:=by simpa using hb
 exact hc ⟨a,by rw [← hb.1]; exact he,hb.2⟩
def opOf (l:List (Nat × Nat)) (out:List Nat) (v:Nat):Int:=if v∈out then -1 else (entr l out v:Int)
theorem entr_push (l:List (Nat × Nat)) (out:List Nat) (u v:Nat) (hu:u∉out):(entr l (out++[u]) v:Int)=(entr l out v:Int) - ((succs l u).count v:Nat):=by
 induction l with
 | nil=>simp [entr,succs]
 | cons e r ih=>
  obtain ⟨a,b⟩:=e;have h1:entr ((a,b)::r) (out++[u]) v=entr [(a,b)] (out++[u]) v+entr r (out++[u]) v:=entr_append [(a,b)] r _ _;have h2:entr ((a,b)::r) out v=entr [(a,b)] out v+entr r out v:=entr_append [(a,b)] r _ _;have h3:succs ((a,b)::r) u=succs [(a,b)] u++succs r u:=succs_append [(a,b)] r u;rw [h1,h2,h3,List.count_append]
  have:(entr [(a,b)] (out++[u]) v:Int)=(entr [(a,b)] out v:Int) - ((succs [(a,b)] u).count v:Nat):=by
   rw [succs_one];unfold entr;by_cases hb:b=v
   ·subst hb
    by_cases ha:a=u
    ·subst ha; simp [hu]
    ·have e1:(decide (a∈out++[u]))=decide (a∈out):=by simp [ha]
     simp only [List.filter_cons,List.filter_nil,e1,ha,if_false,List.count_nil]; omega
   ·have hb':(b == v)=false:=by simpa using hb
    by_cases ha:a=u <;> simp [ha,hb',hb]
  omega
structure Kahn (n:Nat) (l:List (Nat × Nat)) (out:List Nat):Prop where
 nodup:out.Nodup
 lt:∀ v∈out,v<n
 pred:∀ pre v suf,out=pre++v::suf→∀ u,(u,v)∈l→u∈pre
theorem Kahn.nil (n:Nat) (l:List (Nat × Nat)):Kahn n l []:=⟨List.nodup_nil,fun _ h=>(by cases h),fun pre v suf h=>(by cases pre <;> cases h)⟩
theorem Kahn.push {n:Nat} {l:List (Nat × Nat)} {out:List Nat} (h:Kahn n l out) {u:Nat} (hu:u<n) (h0:opOf l out u=0):Kahn n l (out++[u])∧u∉out:=by
 unfold opOf at h0;split at h0
 ·exact absurd h0 (by decide)
 ·next hn=>
  have hz:entr l out u=0:=by omega
  refine ⟨⟨?_,fun v hv=>?_,fun pre v suf e w hw=>?_⟩,hn⟩
  ·rw [List.nodup_append]
   exact ⟨h.nodup,List.nodup_cons.2 ⟨by simp,List.nodup_nil⟩,fun a ha b hb=>by
    have:b=u:=by simpa using hb
    subst this; intro e; subst e; exact hn ha⟩
  ·rcases List.mem_append.1 hv with k | k
   ·exact h.lt v k
   ·have:v=u:=by simpa using k
    subst this; exact hu
  ·rcases List.eq_nil_or_concat suf with rfl | ⟨s2,x,rfl⟩
   ·have e2:=List.append_inj' e rfl
    have:u=v:=by simpa using e2.2
    subst this;rw [← e2.1];exact entr_zero hz hw
   ·have e3:out++[u]=(pre++v::s2)++[x]:=by rw [e]; simp
    have e2:=List.append_inj' e3 rfl;exact h.pred pre v s2 e2.1 w hw
theorem Kahn.op_push {n:Nat} {l:List (Nat × Nat)} {out:List Nat} (h:Kahn n l out) {u:Nat} (hu:u<n) (h0:opOf l out u=0) (v:Nat):opOf l (out++[u]) v=(if v=u then -1 else opOf l out v) - ((succs l u).count v:Nat):=by
 have ⟨hk,hn⟩:=h.push hu h0;have hz:entr l out u=0:=by unfold opOf at h0; rw [if_neg hn] at h0; omega
 have key:v∈out++[u]→(succs l u).count v=0:=fun hv=>by
  rw [List.count_eq_zero];intro hm;have he:=mem_succs.1 hm;rcases List.mem_append.1 hv with k | k
  ·obtain ⟨pre,suf,e⟩:=List.append_of_mem k
   have:=h.pred pre v suf e u he;exact hn (by rw [e]; exact List.mem_append_left _ this)
  ·have:v=u:=by simpa using k
   subst this;exact hn (entr_zero hz he)
 unfold opOf;by_cases hvu:v=u
 ·subst hvu
  rw [if_pos (by simp),if_pos rfl,key (by simp)]; rfl
 ·rw [if_neg hvu]
  by_cases hv:v∈out
  ·rw [if_pos (by simp [hv]),if_pos hv,key (by simp [hv])]; rfl
  ·rw [if_neg (by simp [hv,hvu]),if_neg hv]
   exact entr_push l out u v hn
theorem Kahn.topo {n:Nat} {l:List (Nat × Nat)} {out:List Nat} (h:Kahn n l out) (hl:n≤out.length):Topo n l out:=⟨Nat.le_antisymm (len_le h.nodup h.lt) hl,h.nodup,h.lt,h.pred⟩
theorem Kahn.stuck {n:Nat} {l:List (Nat × Nat)} {out:List Nat} (hr:EdR n l) (hl:out.length<n) (hno:∀ v,v<n→opOf l out v≠0):Stuck n l:=by
 refine ⟨fun v=>v∉out,not_all hl,fun v hv hn=>?_⟩;have:=hno v hv;unfold opOf at this;rw [if_neg hn] at this;obtain ⟨u,h1,h2⟩:=entr_pos (l:=l) (out:=out) (v:=v) (by omega);exact ⟨u,(hr _ h1).1,h2,h1⟩
def Ring (n:Nat) (l:List (Nat × Nat)):Prop:=∃ u v,u<n∧(u,v)∈l∧Way l v u
theorem Topo.index {n:Nat} {l:List (Nat × Nat)} {o:List Nat} (h:Topo n l o) {u v:Nat} (hv:v∈o) (e:(u,v)∈l):o.idxOf u<o.idxOf v:=by
 obtain ⟨pre,suf,ho,hn⟩:∃ pre suf,o=pre++v::suf∧v∉pre:=by
  obtain ⟨pre,suf,ho⟩:=List.append_of_mem hv;refine ⟨pre,suf,ho,fun hm=>?_⟩;have:=h.nodup;rw [ho,List.nodup_append] at this;exact this.2.2 v hm v (by simp) rfl
 have hu:=h.pred pre v suf ho u e;rw [ho,List.idxOf_append,List.idxOf_append,if_pos hu,if_neg hn,List.idxOf_cons_self];have:=List.idxOf_lt_length_of_mem hu;omega
theorem Topo.mem {n:Nat} {l:List (Nat × Nat)} {o:List Nat} (h:Topo n l o) {v:Nat} (hv:v<n):v∈o:=by
 refine Classical.byContradiction fun hn=>?_
 have:=len_le (n:=n) (o:=v::o) (List.nodup_cons.2 ⟨hn,h.nodup⟩) (fun x hx=>by
  rcases List.mem_cons.1 hx with e | e
  ·subst e; exact hv
  ·exact h.lt x e)
 rw [List.length_cons,h.len] at this;omega
theorem Topo.way {n:Nat} {l:List (Nat × Nat)} {o:List Nat} (h:Topo n l o) (hr:EdR n l) {u v:Nat} (k:Way l u v):o.idxOf u≤o.idxOf v:=by
 induction k with
 | refl=>exact Nat.le_refl _
 | step _ e ih=>exact Nat.le_trans ih (Nat.le_of_lt (h.index (h.mem (hr _ e).2) e))
theorem Topo.noRing {n:Nat} {l:List (Nat × Nat)} {o:List Nat} (h:Topo n l o) (hr:EdR n l):¬ Ring n l:=by
 rintro ⟨u,v,hu,e,k⟩;have h1:o.idxOf u<o.idxOf v:=h.index (h.mem (hr _ e).2) e;have h2:=h.way hr k;omega
open Classical in
noncomputable def reachers (n:Nat) (l:List (Nat × Nat)) (v:Nat):Nat:=((List.range n).filter (fun w=>decide (Way l w v))).length
theorem filter_le {α:Type} (p q:α→Bool) (h:∀ x,p x=true→q x=true) (l:List α):(l.filter p).length≤(l.filter q).length:=by
 induction l with
 | nil=>simp
 | cons x r ih=>
  rw [List.filter_cons,List.filter_cons]
  cases hp:p x with
  | true=>rw [h x hp]; simpa using ih
  | false=>
   cases q x with
   | true=>simp only [Bool.false_eq_true,if_false,if_true,List.length_cons]; omega
   | false=>simpa using ih
theorem filter_lt {α:Type} (p q:α→Bool) (h:∀ x,p x=true→q x=true) (l:List α) (x:α) (hx:x∈l) (hp:p x=false) (hq:q x=true):(l.filter p).length<(l.filter q).length:=by
 obtain ⟨a,b,rfl⟩:=List.append_of_mem hx;rw [List.filter_append,List.filter_append,List.length_append,List.length_append,List.filter_cons,List.filter_cons,hp,hq];have h1:=filter_le p q h a;have h2:=filter_le p q h b;simp only [Bool.false_eq_true,if_false,if_true,List.length_cons];omega
theorem reachers_lt {n:Nat} {l:List (Nat × Nat)} (hc:¬ Ring n l) {u v:Nat} (hv:v<n) (hu:u<n) (e:(u,v)∈l):reachers n l u<reachers n l v:=by
 refine filter_lt _ _ (fun w hw=>?_) _ v (List.mem_range.2 hv) ?_ ?_
 ·have:Way l w u:=by simpa using hw
  simpa using this.step e
 ·simp only [decide_eq_false_iff_not]; exact fun k=>hc ⟨u,v,hu,e,k⟩
 ·simpa using Way.refl v
theorem Stuck.ring {n:Nat} {l:List (Nat × Nat)} (h:Stuck n l):Ring n l:=by
 obtain ⟨R,⟨v,hv,hR⟩,hp⟩:=h;refine Classical.byContradiction fun hc=>?_
 have key:∀ k v,v<n→R v→reachers n l v≤k→False:=by
  intro k
  induction k with
  | zero=>
   intro v hv hR hk;obtain ⟨u,hu,hRu,e⟩:=hp v hv hR;have:=reachers_lt hc hv hu e;omega
  | succ k ih=>
   intro v hv hR hk;obtain ⟨u,hu,hRu,e⟩:=hp v hv hR;have:=reachers_lt hc hv hu e;exact ih u hu hRu (by omega)
 exact key _ v hv hR (Nat.le_refl _)
/-! The ranks. -/
structure RkInv (n:Nat) (l:List (Nat × Nat)) (o:List Nat) (i:Nat) (r:Nat→Nat):Prop where
 le:∀ v,r v≤i
 up:∀ j u,j<i→o[j]? = some u→∀ v,(u,v)∈l→r u<r v
 low:∀ v,r v=0∨∃ j u,j<i∧o[j]? = some u∧(u,v)∈l∧r v=r u+1
theorem RkInv.zero (n:Nat) (l:List (Nat × Nat)) (o:List Nat):RkInv n l o 0 (fun _=>0):=⟨fun _=>Nat.le_refl _,fun _ _ h=>absurd h (by omega),fun _=>.inl rfl⟩
structure RkIn (n:Nat) (l:List (Nat × Nat)) (o:List Nat) (i:Nat) (u:Nat) (ps:List Nat) (r:Nat→Nat):Prop where
 le:∀ v,r v≤i+1
 own:r u≤i
 up:∀ j u,j<i→o[j]? = some u→∀ v,(u,v)∈l→r u<r v
 here:∀ v∈ps,r u<r v
 low:∀ v,r v=0∨∃ j u,j<i+1∧o[j]? = some u∧(u,v)∈l∧r v=r u+1
theorem RkInv.enter {n:Nat} {l:List (Nat × Nat)} {o:List Nat} {i:Nat} {r:Nat→Nat} (h:RkInv n l o i r) (u:Nat):RkIn n l o i u [] r:=⟨fun v=>Nat.le_succ_of_le (h.le v),h.le u,h.up,fun _ h=>(by cases h),fun v=>(h.low v).imp id (fun ⟨j,u,a,b⟩=>⟨j,u,by omega,b⟩)⟩
theorem Topo.lt_of {n:Nat} {l:List (Nat × Nat)} {o:List Nat} (h:Topo n l o) {i j u v:Nat} (e:(u,v)∈l) (hi:o[i]? = some u) (hj:o[j]? = some v):i<j:=by
 have h1:=h.index (List.mem_of_getElem? hj) e;obtain ⟨hi1,hi2⟩:=List.getElem?_eq_some_iff.1 hi;obtain ⟨hj1,hj2⟩:=List.getElem?_eq_some_iff.1 hj;have e1:=h.nodup.idxOf_getElem i hi1;have e2:=h.nodup.idxOf_getElem j hj1;rw [hi2] at e1; rw [hj2] at e2;omega
theorem RkIn.step {n:Nat} {l:List (Nat × Nat)} {o:List Nat} (ht:Topo n l o) {i u:Nat} {ps:List Nat} {r:Nat→Nat} (h:RkIn n l o i u ps r) (hu:o[i]? = some u) {v:Nat} (e:(u,v)∈l) :
  RkIn n l o i u (ps++[v]) (fun w=>if w=v then max (r v) (r u+1) else r w):=by
 have hvu:v≠u:=fun k=>by subst k; exact absurd (ht.lt_of e hu hu) (by omega)
 have mono:∀ w,r w≤(if w=v then max (r v) (r u+1) else r w):=fun w=>by
  by_cases k:w=v
  ·subst k; rw [if_pos rfl]; exact Nat.le_max_left _ _
  ·rw [if_neg k]; exact Nat.le_refl _
 refine ⟨fun w=>?_,?_,fun j x hj hx w hw=>?_,fun w hw=>?_,fun w=>?_⟩
 ·have h1:=h.le w; have h2:=h.own; have h3:=h.le v
  by_cases k:w=v
  ·simp only [k,if_true]; omega
  ·simp only [k,if_false]; exact h1
 ·simp only [Ne.symm hvu,if_false]; exact h.own
 ·have hxv:x≠v:=fun k=>by subst k; exact absurd (ht.lt_of e hu hx) (by omega)
  simp only [hxv,if_false];exact Nat.lt_of_lt_of_le (h.up j x hj hx w hw) (mono w)
 ·simp only [Ne.symm hvu,if_false]
  rcases List.mem_append.1 hw with k | k
  ·exact Nat.lt_of_lt_of_le (h.here w k) (mono w)
  ·have:w=v:=by simpa using k
   subst this;simp only [if_true]; omega
 ·have same:∀ j x,j<i+1→o[j]? = some x→(if x=v then max (r v) (r u+1) else r x)=r x:=fun j x hj hx=>by
   have hxv:x≠v:=fun k=>by subst k; exact absurd (ht.lt_of e hu hx) (by omega)
   rw [if_neg hxv]
  have old:(r w=0∨∃ j x,j<i+1∧o[j]? = some x∧(x,w)∈l∧r w=(if x=v then max (r v) (r u+1) else r x)+1):=(h.low w).imp id (fun ⟨j,x,a,b,c,d⟩=>⟨j,x,a,b,c,by rw [same j x a b]; exact d⟩);by_cases k:w=v
  ·subst k
   simp only [if_true];by_cases hm:r w≤r u+1
   ·refine .inr ⟨i,u,by omega,hu,e,?_⟩
    rw [if_neg (Ne.symm hvu)]; omega
   ·rw [show max (r w) (r u+1)=r w by omega] at old ⊢; exact old
  ·simp only [k,if_false]; exact old
theorem RkIn.leave {n:Nat} {l:List (Nat × Nat)} {o:List Nat} {i u:Nat} {r:Nat→Nat} (h:RkIn n l o i u (succs l u) r) (hu:o[i]? = some u):RkInv n l o (i+1) r:=by
 refine ⟨h.le,fun j x hj hx v hv=>?_,h.low⟩;by_cases k:j<i
 ·exact h.up j x k hx v hv
 ·have:j=i:=by omega
  subst this;rw [hu] at hx;injection hx with hx;subst hx;exact h.here v (mem_succs.2 hv)
theorem RkInv.all {n:Nat} {l:List (Nat × Nat)} {o:List Nat} (ht:Topo n l o) (hr:EdR n l) {r:Nat→Nat} (h:RkInv n l o n r) {u v:Nat} (e:(u,v)∈l):r u<r v:=by
 have hm:u∈o:=ht.mem (hr _ e).1;obtain ⟨j,hj,hj2⟩:=List.getElem_of_mem hm;exact h.up j u (by rw [← ht.len]; exact hj) (by rw [← hj2]; exact List.getElem?_eq_getElem hj) v e
/-! What visiting sees. -/
structure Seen (l:List (Nat × Nat)) (us:List Nat) (s t:Nat→Bool):Prop where
 more:∀ v,s v=true→t v=true
 has:∀ u∈us,t u=true
 way:∀ v,t v=true→s v=true∨∃ u∈us,Way l u v
 shut:∀ v,t v=true→s v=true∨∀ w,(v,w)∈l→t w=true
theorem Seen.nil (l:List (Nat × Nat)) (s:Nat→Bool):Seen l [] s s:=⟨fun _ h=>h,fun _ h=>(by cases h),fun _ h=>.inl h,fun _ h=>.inl h⟩
theorem Seen.seen {l:List (Nat × Nat)} {u:Nat} {s:Nat→Bool} (h:s u=true):Seen l [u] s s:=⟨fun _ h=>h,fun v hv=>((show v=u by simpa using hv) ▸ h),fun _ h=>.inl h,fun _ h=>.inl h⟩
theorem Seen.push {l:List (Nat × Nat)} {us:List Nat} {v:Nat} {s t r:Nat→Bool} (h:Seen l us s t) (k:Seen l [v] t r):Seen l (us++[v]) s r:=by
 refine ⟨fun w hw=>k.more w (h.more w hw),fun w hw=>?_,fun w hw=>?_,fun w hw=>?_⟩
 ·rcases List.mem_append.1 hw with z | z
  ·exact k.more w (h.has w z)
  ·exact k.has w z
 ·rcases k.way w hw with z | ⟨x,hx,z⟩
  ·rcases h.way w z with y | ⟨x,hx,y⟩
   ·exact .inl y
   ·exact .inr ⟨x,List.mem_append_left _ hx,y⟩
  ·exact .inr ⟨x,List.mem_append_right _ hx,z⟩
 ·rcases k.shut w hw with z | z
  ·rcases h.shut w z with y | y
   ·exact .inl y
   ·exact .inr fun x hx=>k.more x (y x hx)
  ·exact .inr z
theorem Seen.node {l:List (Nat × Nat)} {u:Nat} {s t:Nat→Bool} (h:Seen l (succs l u) (fun v=>if v=u then true else s v) t):Seen l [u] s t:=by
 refine ⟨fun v hv=>h.more v (by by_cases k:v=u <;> simp [k,hv]),fun v hv=>?_,fun v hv=>?_,fun v hv=>?_⟩
 ·have:v=u:=by simpa using hv
  subst this; exact h.more v (by simp)
 ·rcases h.way v hv with z | ⟨x,hx,z⟩
  ·by_cases k:v=u
   ·subst k; exact .inr ⟨v,by simp,Way.refl v⟩
   ·rw [if_neg k] at z; exact .inl z
  ·exact .inr ⟨u,by simp,z.head (mem_succs.1 hx)⟩
 ·rcases h.shut v hv with z | z
  ·by_cases k:v=u
   ·subst k; exact .inr fun w hw=>h.has w (mem_succs.2 hw)
   ·rw [if_neg k] at z; exact .inl z
  ·exact .inr z
theorem Seen.reach {l:List (Nat × Nat)} {u:Nat} {t:Nat→Bool} (h:Seen l [u] (fun _=>false) t) (v:Nat):t v=true↔Way l u v:=by
 constructor
 ·intro k
  rcases h.way v k with z | ⟨x,hx,z⟩
  ·cases z
  ·have:x=u:=by simpa using hx
   subst this; exact z
 ·intro k
  induction k with
  | refl=>exact h.has _ (by simp)
  | step _ e ih=>
   rcases h.shut _ ih with z | z
   ·cases z
   ·exact z _ e
def blind (n:Nat) (s:Nat→Bool):Nat:=((List.range n).filter (fun v=>!s v)).length
theorem blind_lt {n u:Nat} {s:Nat→Bool} (hu:u<n) (h:s u=false):blind n (fun v=>if v=u then true else s v)<blind n s:=
 filter_lt _ _ (fun x hx=>by
  by_cases k:x=u
  ·simp [k] at hx
  ·simpa [k] using hx) _ u (List.mem_range.2 hu) (by simp) (by simp [h])
theorem blind_more {n:Nat} {s t:Nat→Bool} (h:∀ v,s v=true→t v=true):blind n t≤blind n s:=
 filter_le _ _ (fun x hx=>by
  cases k:s x with
  | true=>rw [h x k] at hx; cases hx
  | false=>rfl) _
/-! The classes. -/
open Classical in
noncomputable def classOf (n:Nat) (l:List (Nat × Nat)) (u:Nat):List Nat:=(List.range n).filter (fun v=>decide (Way l u v) && decide (Way l v u))
theorem mem_class {n:Nat} {l:List (Nat × Nat)} {u v:Nat}:v∈classOf n l u↔v<n∧Way l u v∧Way l v u:=by
 unfold classOf; simp
def Late (l:List (Nat × Nat)) (u:Nat):Prop:=∃ w,w<u∧Way l u w∧Way l w u
open Classical in
noncomputable def compsTo (n:Nat) (l:List (Nat × Nat)) (j:Nat):List (List Nat):=((List.range j).filter (fun u=>decide (¬ Late l u))).map (classOf n l)
theorem compsTo_succ (n:Nat) (l:List (Nat × Nat)) (j:Nat):(Late l j→compsTo n l (j+1)=compsTo n l j)∧(¬ Late l j→compsTo n l (j+1)=compsTo n l j++[classOf n l j]):=by
 unfold compsTo;rw [List.range_succ,List.filter_append,List.map_append];constructor
 ·intro h; simp [h]
 ·intro h; simp [h]
theorem mem_comps {n:Nat} {l:List (Nat × Nat)} {c:List Nat} {j:Nat}:c∈compsTo n l j↔∃ u,u<j∧¬ Late l u∧classOf n l u=c:=by
 unfold compsTo; simp [and_assoc]
def DoneTo (l:List (Nat × Nat)) (j:Nat) (v:Nat):Prop:=∃ u,u<j∧Way l u v∧Way l v u
theorem doneTo_late {l:List (Nat × Nat)} {u:Nat}:DoneTo l u u↔Late l u:=⟨fun ⟨w,h1,h2,h3⟩=>⟨w,h1,h3,h2⟩,fun ⟨w,h1,h2,h3⟩=>⟨w,h1,h3,h2⟩⟩
theorem doneTo_succ {l:List (Nat × Nat)} {j v:Nat}:DoneTo l (j+1) v↔DoneTo l j v∨(Way l j v∧Way l v j):=by
 constructor
 ·rintro ⟨u,h1,h2,h3⟩
  by_cases k:u=j
  ·subst k; exact .inr ⟨h2,h3⟩
  ·exact .inl ⟨u,by omega,h2,h3⟩
 ·rintro (⟨u,h1,h2,h3⟩ | ⟨h2,h3⟩)
  ·exact ⟨u,by omega,h2,h3⟩
  ·exact ⟨j,by omega,h2,h3⟩
theorem doneTo_skip {l:List (Nat × Nat)} {j v:Nat} (h:Late l j):DoneTo l (j+1) v↔DoneTo l j v:=by
 rw [doneTo_succ];constructor
 ·rintro (k | ⟨h2,h3⟩)
  ·exact k
  ·obtain ⟨w,h4,h5,h6⟩:=h
   exact ⟨w,h4,h6.trans h2,h3.trans h5⟩
 ·exact .inl
theorem class_head {n:Nat} {l:List (Nat × Nat)} {u:Nat} (hu:u<n) (h:¬ Late l u):∃ r,classOf n l u=u::r∧∀ v,v∈r↔(v<n∧Way l u v∧Way l v u∧v≠u):=by
 have hs:(classOf n l u).Pairwise (· < ·):=List.Pairwise.filter _ List.pairwise_lt_range;have hm:u∈classOf n l u:=mem_class.2 ⟨hu,Way.refl u,Way.refl u⟩
 cases hc:classOf n l u with
 | nil=>rw [hc] at hm; cases hm
 | cons x r=>
  rw [hc] at hs hm;have hx:x∈classOf n l u:=by rw [hc]; simp
  obtain ⟨hx1,hx2,hx3⟩:=mem_class.1 hx;have hxu:¬ x<u:=fun k=>h ⟨x,k,hx2,hx3⟩
  have hxe:x=u:=by
   rcases List.mem_cons.1 hm with e | e
   ·exact e.symm
   ·have:=(List.pairwise_cons.1 hs).1 u e; omega
  subst hxe;refine ⟨r,rfl,fun v=>?_⟩;have hp:=(List.pairwise_cons.1 hs).1;constructor
  ·intro hv
   have:=hp v hv;have hv2:v∈classOf n l x:=by rw [hc]; exact List.mem_cons_of_mem _ hv
   obtain ⟨h1,h2,h3⟩:=mem_class.1 hv2;exact ⟨h1,h2,h3,by omega⟩
  ·rintro ⟨h1,h2,h3,h4⟩
   have:v∈x::r:=by rw [← hc]; exact mem_class.2 ⟨h1,h2,h3⟩
   exact (List.mem_cons.1 this).resolve_left h4
def susp (l:List (Nat × Nat)) (c:List Nat):Bool:=decide (1<c.length) || decide ((c.headD 0,c.headD 0)∈l)
noncomputable def suspects (n:Nat) (l:List (Nat × Nat)):List (List Nat):=(compsTo n l n).filter (susp l)
end Go.Proofs.YtkpjdanfpolimaaGreat
