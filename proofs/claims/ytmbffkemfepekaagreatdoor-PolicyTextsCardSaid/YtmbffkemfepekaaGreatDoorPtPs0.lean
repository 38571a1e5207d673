/- What lexer.Tokens gives is what a policy's reader wants; rows of rules in memory. Conditions: none. -/
import Derived.Test.YtmbffkemfepekaaGreatDoorPtPr2
import Derived.Test.YtmbffkemfepekaaGreatDoorPtBdK
import Derived.Test.YtmbffkemfepekaaGreatDoorPtPrM
import Derived.Test.YtmbffkemfepekaaGreatDoorPtCmp
import Derived.KernelRfl
namespace Go.Proofs.YtmbffkemfepekaaGreatDoor
open Go.RowKit
theorem tok1_val (l:List UInt8) (k:Int) (n v:Nat) (h:tok1 l=.ok k n v):v≤1099511627776:=by
 cases l with
 | nil=>cases h
 | cons c r=>
  unfold tok1 at h
  dsimp only at h
  split at h
  ·unfold nameT at h
   split at h
   ·cases h
   ·injection h; omega
  ·split at h
   ·unfold numT at h
    split at h
    ·cases h
    ·split at h
     ·cases h
     ·injection h; omega
   ·unfold signT at h
    split at h
    ·cases h
     omega
    ·dsimp only at h
     split at h
     ·cases h
      omega
     ·cases h
theorem toksF_ok (s:ByteArray) (hs:s.size≤4000):∀ (f i:Nat) (acc ts:List Tk),i≤s.size→s.size<i+f→toksF s f i acc=.ok ts→∃ us,ts=acc++us++[⟨0,ByteArray.empty,0,s.size⟩]∧us.length≤s.size - i∧∀ t∈us,TkOk t
 | 0,i,acc,ts,hi,hf,h=>by omega
 | f+1,i,acc,ts,hi,hf,h=>by
  unfold toksF at h
  by_cases hlt:i<s.size
  ·rw [if_pos hlt] at h
   cases ht:tok1 (s.data.toList.drop i) with
   | er e=>rw [ht] at h; cases h
   | ok k n v=>
    rw [ht] at h
    simp only at h
    have hdl:(s.data.toList.drop i)=(s[i]'hlt)::s.data.toList.drop (i+1):=run_at s i hlt
    have hlen:(s.data.toList.drop (i+1)).length+1=s.size - i:=by
     rw [List.length_drop,Array.length_toList]
     have:s.data.size=s.size:=rfl
     omega
    obtain ⟨hn1,hn2⟩:=tok1_len _ _ k n v (by rw [← hdl]; exact ht)
    rw [hlen] at hn2
    have hsk:=skipN_le false (s.data.toList.drop (i+n))
    rw [List.length_drop,Array.length_toList] at hsk
    have hds:s.data.size=s.size:=rfl
    obtain ⟨us,h1,h2,h3⟩:=toksF_ok s hs f _ _ ts (by omega) (by omega) h
    refine ⟨⟨k,subB s i n,v,i⟩::us,by rw [h1]; simp,by simp; omega,fun t ht'=>?_⟩
    rcases List.mem_cons.1 ht' with rfl | h9
    ·have hv:=tok1_val _ _ _ _ ht
     exact ⟨by unfold I64; dsimp only; omega,by rw [subB_size s i n (by omega)]; omega⟩
    ·exact h3 t h9
  ·rw [if_neg hlt] at h
   injection h with h
   exact ⟨[],by rw [← h]; simp,by simp,fun t ht=>by cases ht⟩
theorem toksE_ok {s:ByteArray} {ts:List Tk} (h:toksE s=.ok ts):TksOk ts:=by
 unfold toksE at h
 split at h
 ·cases h
 ·next h4=>
  have h0:=skipN_le false s.data.toList
  rw [Array.length_toList] at h0
  have hds:s.data.size=s.size:=rfl
  obtain ⟨us,rfl,h2,h3⟩:=toksF_ok s (by omega) _ _ _ _ (by omega) (by omega) h
  refine ⟨by simp,by simp; omega,fun t ht=>?_,fun t ht=>?_⟩
  ·simp only [List.nil_append,List.mem_append,List.mem_singleton] at ht
   rcases ht with ht | rfl
   ·exact h3 t ht
   ·exact ⟨by unfold I64; dsimp only; omega,by show ByteArray.empty.size≤_; decide⟩
  ·simp only [List.nil_append,List.length_append,List.length_cons,List.length_nil] at ht
   rw [show us.length+(0+1) - 1=us.length from by omega,List.getElem?_append_right (Nat.le_refl _)] at ht
   simp at ht
   rw [← ht]
theorem toksF_er (s:ByteArray):∀ (f i:Nat) (acc:List Tk) (a e:Nat),toksF s f i acc=.er a e→e≠0
 | 0,i,acc,a,e,h=>by unfold toksF at h; cases h
 | f+1,i,acc,a,e,h=>by
  unfold toksF at h
  split at h
  ·cases ht:tok1 (s.data.toList.drop i) with
   | er g=>
    rw [ht] at h
    simp only at h
    injection h with h1 h2
    subst h2
    exact tok1_er _ _ ht
   | ok k n v=>
    rw [ht] at h
    exact toksF_er s f _ _ a e h
  ·cases h
theorem toksE_er {s:ByteArray} {a e:Nat} (h:toksE s=.er a e):e≠0:=by
 unfold toksE at h
 split at h
 ·injection h with h1 h2; omega
 ·exact toksF_er _ _ _ _ _ _ h

/-! ### rows of rules -/
/-- Ten cells that read as a rule; its expressions lie in blocks of z. -/
def RuleZ (z:Nat→Bool) (W:World) (cs:List Value) (r:Rl):Prop:=∃ (k o:Int) (n:ByteArray) (v:Int) (A1:Option Addr) (m1 c1:Nat) (k2 o2:Int) (n2:ByteArray) (v2:Int) (A2:Option Addr) (m2 c2:Nat),cs=exC k o n v A1 m1 c1++exC k2 o2 n2 v2 A2 m2 c2 ∧
 LiesE (mask (fun X=>!z X) W) W.heap.size (exC k o n v A1 m1 c1) r.cond∧LiesE (mask (fun X=>!z X) W) W.heap.size (exC k2 o2 n2 v2 A2 m2 c2) r.key
theorem lies_z {z z':Nat→Bool} {W W':World} {vs:List Value} {e:Ex} (h:LiesE (mask (fun X=>!z X) W) W.heap.size vs e) (hz:∀ X,z X=true→z' X=true) (hs:W.heap.size≤W'.heap.size) (hk:∀ X,z X=true→W'.heap[X]? = W.heap[X]?):LiesE (mask (fun X=>!z' X) W') W'.heap.size vs e:=
 h.turn (fun X _ h=>by
  simp only [Bool.not_eq_false'] at h ⊢
  exact hz X h) hs (fun X _ h=>hk X (by simpa using h))
theorem RuleZ.keep {z z':Nat→Bool} {W W':World} {cs:List Value} {r:Rl} (h:RuleZ z W cs r) (hz:∀ X,z X=true→z' X=true) (hs:W.heap.size≤W'.heap.size) (hk:∀ X,z X=true→W'.heap[X]? = W.heap[X]?):RuleZ z' W' cs r:=by
 obtain ⟨k,o,n,v,A1,m1,c1,k2,o2,n2,v2,A2,m2,c2,e,h1,h2⟩:=h
 exact ⟨k,o,n,v,A1,m1,c1,k2,o2,n2,v2,A2,m2,c2,e,lies_z h1 hz hs hk,lies_z h2 hz hs hk⟩
theorem RuleZ.len {z:Nat→Bool} {W:World} {cs:List Value} {r:Rl} (h:RuleZ z W cs r):cs.length=10:=by
 obtain ⟨k,o,n,v,A1,m1,c1,k2,o2,n2,v2,A2,m2,c2,rfl,-,-⟩:=h
 rfl
theorem RuleZ.one {z:Nat→Bool} {W:World} {cs:List Value} {r:Rl} (h:RuleZ z W cs r):∀ u∈cs,u.oneCell'=true:=by
 obtain ⟨k,o,n,v,A1,m1,c1,k2,o2,n2,v2,A2,m2,c2,rfl,-,-⟩:=h
 intro u hu
 simp only [exC,List.cons_append,List.nil_append,List.mem_cons,List.not_mem_nil,or_false] at hu
 rcases hu with rfl | rfl | rfl | rfl | rfl | rfl | rfl | rfl | rfl | rfl <;> rfl
theorem flat10:∀ (rcs:List (List Value)),(∀ rc∈rcs,rc.length=10)→∀ (i:Nat) (h:i<rcs.length) (j:Nat),j<10→rcs.flatten[i * 10+j]? = rcs[i][j]?
 | [],_,i,h,_,_=>by simp at h
 | rc::rcs,hl,0,h,j,hj=>by
  rw [List.flatten_cons,Nat.zero_mul,Nat.zero_add,List.getElem?_append_left (by rw [hl rc (by simp)]; exact hj)]
  rfl
 | rc::rcs,hl,i+1,h,j,hj=>by
  rw [List.flatten_cons,List.getElem?_append_right (by rw [hl rc (by simp)]; omega),hl rc (by simp),show (i+1) * 10+j - 10=i * 10+j from by omega]
  exact flat10 rcs (fun r hr=>hl r (by simp [hr])) i (by simpa using h) j hj
/-- v is a row of the call's own that reads as the rules. -/
structure OwnZ (z:Nat→Bool) (W:World) (base:Nat) (v:Value) (rs:List Rl) (rcs:List (List Value)):Prop where
 row:W.ownsRow base 40 10 v rs.length rcs.flatten
 len:rcs.length=rs.length
 rul:∀ (i:Nat) (h:i<rs.length) (h':i<rcs.length),RuleZ z W rcs[i] rs[i]
 own:∀ g,v.ownBlock=some g→z g=false
theorem own_blk {W W':World} {base e size n:Nat} {v:Value} {xs:List Value} (h:W.ownsRow base e size v n xs) (hk:∀ g,v.ownBlock=some g→W'.heap[g]? = W.heap[g]?):W'.ownsRow base e size v n xs:=by
 refine ⟨h.1,?_⟩
 rcases h.2 with h2 | ⟨g,cap,cur,rfl,h3,h4,h5⟩
 ·exact .inl h2
 ·exact .inr ⟨g,cap,cur,rfl,h3,(hk g rfl).trans h4,h5⟩
theorem OwnZ.keep {z z':Nat→Bool} {W W':World} {base:Nat} {v:Value} {rs:List Rl} {rcs:List (List Value)} (h:OwnZ z W base v rs rcs) (hz:∀ X,z X=true→z' X=true) (hn:∀ g,v.ownBlock=some g→z' g=false) (hs:W.heap.size≤W'.heap.size)
  (hk:∀ X,z X=true→W'.heap[X]? = W.heap[X]?) (ho:∀ g,v.ownBlock=some g→W'.heap[g]? = W.heap[g]?):OwnZ z' W' base v rs rcs:=
 ⟨own_blk h.row ho,h.len,fun i h1 h2=>(h.rul i h1 h2).keep hz hs hk,hn⟩
/-- Only blocks below `base` have turned, and new ones have been laid. -/
theorem OwnZ.low {z:Nat→Bool} {W W':World} {base:Nat} {v:Value} {rs:List Rl} {rcs:List (List Value)} (h:OwnZ z W base v rs rcs) (hz:∀ X,z X=true→base≤X∧X<W.heap.size) (hs:W.heap.size≤W'.heap.size) (hk:∀ X,base≤X→X<W.heap.size→W'.heap[X]? = W.heap[X]?):OwnZ z W' base v rs rcs:=
 h.keep (fun _ h=>h) h.own hs (fun X hX=>hk X (hz X hX).1 (hz X hX).2) (fun g hg=>hk g (h.row.lt g hg).1 (h.row.lt g hg).2)
theorem OwnZ.nil (z:Nat→Bool) (W:World) (base:Nat):OwnZ z W base (.slice none 0 0) [] []:=
 ⟨World.ownsRow_nil _ _ _ _,rfl,fun i h=>by simp at h,fun g h=>by cases h⟩
/-- A rule put behind. -/
theorem OwnZ.app {z:Nat→Bool} {W W':World} {base:Nat} {v v':Value} {rs:List Rl} {rcs:List (List Value)} {cs:List Value} {r:Rl} (h:OwnZ z W base v rs rcs) (hr:RuleZ z W cs r) (hz:∀ X,z X=true→base≤X∧X<W.heap.size) (hs:W.heap.size≤W'.heap.size)
  (hown:W'.ownsRow base 40 10 v' (rs.length+1) (rcs.flatten++cs)) (hk:∀ X,X<W.heap.size→v.ownBlock≠some X→W'.heap[X]? = W.heap[X]?) (hob:v'.ownBlock=v.ownBlock∨∃ g,v'.ownBlock=some g∧W.heap.size≤g):OwnZ z W' base v' (rs++[r]) (rcs++[cs]):=by
 have hkz:∀ X,z X=true→W'.heap[X]? = W.heap[X]?:=fun X hX=>hk X (hz X hX).2 (fun e=>by rw [h.own X e] at hX; cases hX)
 refine ⟨by rw [List.length_append,List.flatten_append]; simpa using hown,by rw [List.length_append,List.length_append,h.len]; rfl,fun i h1 h2=>?_,fun g hg=>?_⟩
 ·rw [List.length_append] at h1
  rcases Nat.lt_or_ge i rs.length with h9 | h9
  ·rw [List.getElem_append_left (by rw [h.len]; exact h9),List.getElem_append_left h9]
   exact (h.rul i h9 (by rw [h.len]; exact h9)).keep (fun _ h=>h) hs hkz
  ·have e1:i=rs.length:=by simp at h1; omega
   subst e1
   rw [List.getElem_append_right (Nat.le_refl _),List.getElem_append_right (by rw [h.len]; exact Nat.le_refl _)]
   simp only [h.len,Nat.sub_self,List.getElem_cons_zero]
   exact hr.keep (fun _ h=>h) hs hkz
 ·rcases hob with e | ⟨g',e,hge⟩
  ·exact h.own g (e ▸ hg)
  ·rw [e] at hg
   injection hg with hg
   subst hg
   cases hzz:z g' with
   | false=>rfl
   | true=>have:=(hz g' hzz).2; omega
theorem ruleInfo:(Tryz.prog.info? 40).map (fun i=>(i.zero,i.size,i.bytes))=some (some (.agg #[.int .i64 0,.int .i64 0,.string ⟨#[]⟩,.int .i64 0,.slice none 0 0,.int .i64 0,.int .i64 0,.string ⟨#[]⟩,.int .i64 0,.slice none 0 0]),10,128):=by kernel_rfl
theorem own_cap' {W:World} {base size n cap:Nat} {e:TypeId} {A:Option Addr} {xs:List Value} (h:W.ownsRow base e size (.slice A n cap) n xs):n≤cap:=by
 rcases h.2 with ⟨e1,rfl⟩ | ⟨g,cap',cur,e1,-,-,h3,-⟩
 ·exact Nat.zero_le _
 ·injection e1 with _ _ e2
  omega
/-- At the end the rules lie in memory. -/
theorem OwnZ.lies {z:Nat→Bool} {W:World} {base n:Nat} {A:Option Addr} {c:Nat} {rs:List Rl} {rcs:List (List Value)} (h:OwnZ z W base (.slice A n c) rs rcs) (hn:n=rs.length) (hl:rs.length≤9223372036854775807):LiesP W W.heap.size A c rs:=by
 subst hn
 refine ⟨hl,own_cap' h.row,fun i hi=>?_⟩
 have hlen:=h.len
 have hi':i<rcs.length:=by omega
 have hz:=h.rul i hi hi'
 have h10:∀ rc∈rcs,rc.length=10:=fun rc hrc=>by
  obtain ⟨q,hq,rfl⟩:=List.getElem_of_mem hrc
  exact (h.rul q (by omega) hq).len
 obtain ⟨b,off,hA,hb,hcell⟩:=(Rd.of_own h.row).addr (by omega)
 have g (j:Nat) (hj:j<10) (u:Value) (hu:rcs[i][j]? = some u):W.cell? ⟨b,off+i * 10+j,none⟩=some u:=by
  have:=hcell (i * 10+j) u (by rw [flat10 rcs h10 i hi' j hj]; exact hu)
  rwa [← Nat.add_assoc] at this
 obtain ⟨k,o,n,v,A1,m1,c1,k2,o2,n2,v2,A2,m2,c2,e,h1,h2⟩:=hz
 rw [e] at g
 exact ⟨b,off,k,o,n,v,A1,m1,c1,k2,o2,n2,v2,A2,m2,c2,hA,hb,h1.unmask,h2.unmask,g 0 (by omega) _ rfl,g 1 (by omega) _ rfl,g 2 (by omega) _ rfl,g 3 (by omega) _ rfl,g 4 (by omega) _ rfl,g 5 (by omega) _ rfl,g 6 (by omega) _ rfl,g 7 (by omega) _ rfl,g 8 (by omega) _ rfl,g 9 (by omega) _ rfl⟩
/-- Where a rule has been read without an error, the reader has gone on. -/
theorem rP_lt {ts:List Tk} (ht:TksOk ts) {s:PSt} (h:s.k<ts.length):(r1P ts s).k<ts.length∧(r2P ts s).2.k<ts.length∧(r3P ts s).k<ts.length∧(r4P ts s).2.k<ts.length∧(r5P ts s).k<ts.length:=by
 have h1:(r1P ts s).k<ts.length:=need_lt ht 1 (by decide) _ h
 have h2:(r2P ts s).2.k<ts.length:=expr_lt ht h1
 have h3:(r3P ts s).k<ts.length:=need_lt ht 1 (by decide) _ h2
 have h4:(r4P ts s).2.k<ts.length:=expr_lt ht h3
 exact ⟨h1,h2,h3,h4,need_lt ht 3 (by decide) _ h4⟩
theorem r5_adv {ts:List Tk} (ht:TksOk ts) {s:PSt} (hs:s.err=0) (hlt:s.k<ts.length) (h:(r5P ts s).err=0):s.k<(r5P ts s).k:=by
 have keepE:∀ kind text (s:PSt),(needP ts kind text s).err=0→s.err=0∧s.k≤(needP ts kind text s).k:=by
  intro kind text s h
  unfold needP at h ⊢
  split at h
  ·next h1=>exact absurd h h1
  ·next h1=>
   rw [if_neg h1]
   have h0:s.err=0:=by omega
   cases hg:ts[s.k]? with
   | none=>exact ⟨h0,Nat.le_refl _⟩
   | some t=>
    rw [hg] at h
    dsimp only at h ⊢
    split at h
    ·next h2=>rw [if_pos h2]; exact ⟨h0,Nat.le_succ _⟩
    ·cases h
 have keepX:∀ s:PSt,s.k<ts.length→(exprP ts s).2.err=0→s.err=0∧s.k≤(exprP ts s).2.k:=by
  intro s hl h
  unfold exprP at h ⊢
  split at h
  ·next h1=>exact absurd h h1
  ·next h1=>
   rw [if_neg h1]
   refine ⟨by omega,?_⟩
   unfold movP
   dsimp only
   split
   ·omega
   ·exact Nat.le_refl _
 have w:=keepE 3 semL _ h
 have w4:(r4P ts s).2.err=0:=w.1
 have lt1:∀ (kind:Int) text (s:PSt),s.k<ts.length→(needP ts kind text s).k≤s.k+1:=by
  intro kind text s hl
  unfold needP
  split
  ·omega
  ·cases ts[s.k]? with
   | none=>dsimp only; omega
   | some t=>dsimp only; split <;> (dsimp only; omega)
 have first:∀ (s:PSt),s.k<ts.length→s.err=0→(needP ts 1 whenL s).err=0→(needP ts 1 whenL s).k=s.k+1:=by
  intro s hl h0 h
  unfold needP at h ⊢
  rw [if_neg (by omega)] at h ⊢
  cases hg:ts[s.k]? with
  | none=>exact absurd (List.getElem?_eq_none_iff.1 hg) (by omega)
  | some t=>
   rw [hg] at h
   dsimp only at h ⊢
   split at h
   ·next h2=>rw [if_pos h2]
   ·cases h
 obtain ⟨hk1,-,hk3,-,-⟩:=rP_lt ht hlt
 ·have x4:=keepX (r3P ts s) hk3 w4
  have y3:=keepE 1 byL _ x4.1
  have y2:(r2P ts s).2.err=0:=y3.1
  ·have x2:=keepX (r1P ts s) hk1 y2
   have f1:=first s hlt hs x2.1
   have e1:(r1P ts s).k=s.k+1:=f1
   have a1:=x2.2
   have a2:=y3.2
   have a3:=x4.2
   have a4:=w.2
   unfold r5P
   show s.k<(needP ts 3 semL (r4P ts s).2).k
   have b1:(r1P ts s).k≤(r2P ts s).2.k:=a1
   have b2:(r2P ts s).2.k≤(r3P ts s).k:=a2
   have b3:(r3P ts s).k≤(r4P ts s).2.k:=a3
   omega
end Go.Proofs.YtmbffkemfepekaaGreatDoor

namespace Go.Proofs.YtmbffkemfepekaaGreatDoor
end Go.Proofs.YtmbffkemfepekaaGreatDoor
