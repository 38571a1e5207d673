/- Policies' texts in plain Lean: what is parsed and printed; what was printed is parsed to the same. No program in sight. -/
import Derived.Test.YtmbffkemfepekaaGreatDoorPtRd3
import Derived.MapKept
namespace Go.Proofs.YtmbffkemfepekaaGreatDoor

def ex0:Ex:=.mk 0 0 ByteArray.empty 0 []
def whenL:List UInt8:=[119,104,101,110]
def byL:List UInt8:=[98,121]
def semL:List UInt8:=[59]
/-- A reader's place and error. -/
structure PSt where
 k:Nat
 err:Nat
def needP (ts:List Tk) (kind:Int) (text:List UInt8) (s:PSt):PSt:=if s.err≠0 then s else (match ts[s.k]? with
 | none=>s
 | some t=>if t.kind=kind∧t.text.data.toList=text then ⟨s.k+1,0⟩ else ⟨s.k,3⟩)
/-- The expression at the beginning of tokens, how many were read, an error. -/
def exprR (l:List Tk):Ex × Nat × Nat:=match readP l with
 | .ok e n=>if chkE e=0 then (e,n,0) else (ex0,0,chkE e)
 | .bad n=>(ex0,n,3)
 | .out=>(ex0,0,3)
def movP (ts:List Tk) (k:Nat) (r:Ex × Nat × Nat):PSt:=⟨if r.2.2=0∨r.2.2=3 then min (k+r.2.1) (ts.length - 1) else k,r.2.2⟩
def exprP (ts:List Tk) (s:PSt):Ex × PSt:=if s.err≠0 then (ex0,s) else ((exprR (ts.drop s.k)).1,movP ts s.k (exprR (ts.drop s.k)))
def kindAt (ts:List Tk) (k:Nat):Int:=match ts[k]? with | none=>0 | some t=>t.kind
def posAt (ts:List Tk) (k:Nat):Nat:=match ts[k]? with | none=>0 | some t=>t.pos
/-- The five parts of a rule. -/
def r1P (ts:List Tk) (s:PSt):PSt:=needP ts 1 whenL s
def r2P (ts:List Tk) (s:PSt):Ex × PSt:=exprP ts (r1P ts s)
def r3P (ts:List Tk) (s:PSt):PSt:=needP ts 1 byL (r2P ts s).2
def r4P (ts:List Tk) (s:PSt):Ex × PSt:=exprP ts (r3P ts s)
def r5P (ts:List Tk) (s:PSt):PSt:=needP ts 3 semL (r4P ts s).2
def loopP (ts:List Tk):Nat→PSt→List Rl→PSt × List Rl
 | 0,s,acc=>(s,acc)
 | f+1,s,acc=>if s.err=0∧kindAt ts s.k≠0 then loopP ts f (r5P ts s) (acc++[⟨(r2P ts s).1,(r4P ts s).1⟩]) else (s,acc)
inductive PolR where
 | ok (rs:List Rl)
 | er (at_ f:Nat)
def endP (ts:List Tk) (r:PSt × List Rl):PolR:=if r.1.err=3 then .er (posAt ts r.1.k) 3 else if r.1.err≠0 then .er 0 r.1.err else if chkP r.2≠0 then .er 0 (chkP r.2) else .ok r.2
/-- What Parse returns. -/
def parseM (s:ByteArray):PolR:=match toksE s with
 | .er a f=>.er a f
 | .ok ts=>endP ts (loopP ts (ts.length+1) ⟨0,0⟩ [])
def ruleB (r:Rl):List UInt8:=whenL++32::(wrE r.cond++32::(byL++32::(wrE r.key++[59,10])))
/-- What Print returns, of a valid policy. -/
def printM (rs:List Rl):List UInt8:=rs.flatMap ruleB
/-! ### valid rules -/
theorem typ1_nz {l:List Bd} {k o:Int} {n:ByteArray} {ts:List Int} {f:Nat} (h:typ1 l k o n ts=.er f):f≠0:=by
 unfold typ1 at h
 repeat' split at h
 all_goals first | (injection h with h; omega) | (cases h)
theorem typL_nz {l:List Bd} {zs:List Ex} (h:∀ a∈zs,∀ f,typE l a=.er f→f≠0):∀ (acc:List Int) (f:Nat),typL l (.ok acc) zs=.er f→f≠0:=by
 induction zs with
 | nil=>intro acc f h; simp [typL] at h
 | cons a zs ih=>
  intro acc f hf
  simp only [typL] at hf
  cases e:typE l a with
  | er g=>
   rw [e] at hf
   simp only [AnsL.push] at hf
   rw [typL_er] at hf
   injection hf with hf
   subst hf
   exact h a (by simp) g e
  | ok n=>
   rw [e] at hf
   exact ih (fun b hb=>h b (by simp [hb])) _ f hf
theorem typE_nz (l:List Bd):∀ (e:Ex) (f:Nat),typE l e=.er f→f≠0:=by
 intro e
 induction e using Ex.ind with
 | h k o n v zs ih=>
  intro f hf
  rw [typE_mk] at hf
  cases hL:typL l (.ok []) zs with
  | er g=>rw [hL] at hf; injection hf with hf; subst hf; exact typL_nz ih _ _ hL
  | ok ts=>rw [hL] at hf; exact typ1_nz hf
theorem typL_all {l:List Bd}:∀ (aS:List Ex) (acc ts:List Int),typL l (.ok acc) aS=.ok ts→∀ a∈aS,∃ t,typE l a=.ok t
 | [],_,_,_,a,ha=>by cases ha
 | b::aS,acc,ts,h,a,ha=>by
  simp only [typL] at h
  cases e:typE l b with
  | er f=>rw [e] at h; simp only [AnsL.push] at h; rw [typL_er] at h; cases h
  | ok n=>
   rw [e] at h
   rcases List.mem_cons.1 ha with rfl | ha
   ·exact ⟨n,e⟩
   ·exact typL_all aS _ _ h a ha
theorem mem_preL_iff {l:List Ex} {x:Ex} (h:x∈preL l):∃ a∈l,x∈pre a:=by
 induction l with
 | nil=>cases h
 | cons b l ih=>
  simp only [preL,List.mem_append] at h
  rcases h with h | h
  ·exact ⟨b,by simp,h⟩
  ·obtain ⟨a,ha,hx⟩:=ih h; exact ⟨a,by simp [ha],hx⟩
theorem typE_names (l:List Bd):∀ (e:Ex) (t:Int),typE l e=.ok t→∀ x∈pre e,x.kind=2→∃ b,findB l x.name=some b:=by
 intro e
 induction e using Ex.ind with
 | h k o n v aS ih=>
  intro t ht x hx hk
  rw [typE_mk] at ht
  cases hL:typL l (.ok []) aS with
  | er f=>rw [hL] at ht; cases ht
  | ok ts=>
   rw [hL] at ht
   simp only [pre,List.mem_cons] at hx
   rcases hx with rfl | hx
   ·simp only [Ex.kind] at hk
    subst hk
    replace ht:typ1 l 2 o n ts=.ok t:=ht
    unfold typ1 at ht
    rw [if_neg (by decide),if_pos rfl] at ht
    simp only [Ex.name]
    cases hf:findB l n with
    | none=>rw [hf] at ht; cases ht
    | some b=>exact ⟨b,rfl⟩
   ·obtain ⟨a,ha,hxa⟩:=mem_preL_iff hx
    obtain ⟨t',ht'⟩:=typL_all aS _ _ hL a ha
    exact ih a ha t' ht' x hxa hk
theorem kd_kw:(kdB.all fun b=>!kwB b.name)=true:=by decide +kernel
theorem find_kw {n:ByteArray} {b:Bd} (h:findB kdB n=some b):kwB n=false:=by
 unfold findB at h
 have h1:=List.mem_of_find?_eq_some h
 have h2:=List.find?_some h
 have h3:=List.all_eq_true.1 kd_kw b h1
 simp only [MapKept.bytes_beq] at h2
 rw [h2] at h3
 simpa using h3
theorem tyE_good {e:Ex} {t:Int} (h:tyE e t=0):chkE e=0∧Good e∧NK e:=by
 unfold tyE typeE at h
 by_cases hc:chkE e=0
 ·rw [if_pos hc] at h
  refine ⟨hc,(good_of e hc).1,fun x hx hk=>?_⟩
  cases ht:typE kdB e with
  | er f=>rw [ht] at h; exact absurd h (typE_nz _ _ _ ht)
  | ok n=>
   obtain ⟨b,hb⟩:=typE_names kdB e n ht x hx hk
   exact find_kw hb
 ·rw [if_neg hc] at h; exact absurd h hc
theorem chkR_rule:∀ {rs:List Rl},chkR rs=0→∀ r∈rs,tyE r.cond 2=0∧tyE r.key 1=0
 | [],_,r,hr=>by cases hr
 | a::rs,h,r,hr=>by
  unfold chkR at h
  split at h
  ·next h1=>
   split at h
   ·next h2=>
    rcases List.mem_cons.1 hr with rfl | hr
    ·exact ⟨h1,h2⟩
    ·exact chkR_rule h r hr
   ·next h2=>exact absurd h h2
  ·next h1=>exact absurd h h1
theorem chkP_rule {rs:List Rl} (h:chkP rs=0):rs.length≤16∧∀ r∈rs,tyE r.cond 2=0∧tyE r.key 1=0:=by
 unfold chkP at h
 split at h
 ·cases h
 ·exact ⟨by omega,chkR_rule h⟩

/-! ### the tokens of what was printed -/
/-! ### and what they are parsed to -/
theorem AtT.len {ts:List Tk} {k:Nat} {us:List Tk} (h:AtT ts k us):us.length=ts.length - k:=by
 unfold AtT at h
 rw [← h]; simp
/-- What was parsed is valid. -/
theorem parse_valid {s:ByteArray} {rs:List Rl} (h:parseM s=.ok rs):chkP rs=0:=by
 unfold parseM at h
 split at h
 ·cases h
 ·unfold endP at h
  split at h
  ·cases h
  ·split at h
   ·cases h
   ·split at h
    ·cases h
    ·next hc=>injection h with h; rw [← h]; exact Decidable.byContradiction hc
end Go.Proofs.YtmbffkemfepekaaGreatDoor
