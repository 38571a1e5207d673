/- What is printed of an expression is read back as that expression. Plain Lean; no program in sight. -/
import Derived.Test.YtmbffkemfepekaaGreatDoorPtOpp
import Derived.Test.YtmbffkemfepekaaGreatDoorPtPolM
namespace Go.Proofs.YtmbffkemfepekaaGreatDoor

def precO (o:Int):Nat:=if o=15 then 1 else if o=14 then 2 else if o=3∨o=4 then 4 else if o=5∨o=6∨o=7 then 5 else 3
def precK (k o:Int):Nat:=if k=3 then 6 else if k=4 then precO o else 7
def precE (e:Ex):Nat:=precK e.kind e.op
def signO (o:Int):List UInt8:=if o=3 then [43] else if o=4 then [45] else if o=5 then [42] else if o=6 then [47] else if o=7 then [37] else if o=8 then [61,61] else if o=9 then [33,61] else if o=10 then [60] else if o=11 then [60,61] else if o=12 then [62] else if o=13 then [62,61] else if o=14 then [38,38] else [124,124]
def leftP (o:Int):Nat:=if precO o=3 then 4 else precO o
/-- An argument's text, in parentheses if its precedence is less than a limit. -/
def parB (lim:Nat) (w:Nat × List UInt8):List UInt8:=if w.1<lim then 40::(w.2++[41]) else w.2
def outB (k o:Int) (n:ByteArray) (v:Int) (ws:List (Nat × List UInt8)):List UInt8:=
 if k=1 then decL v.toNat else if k=2 then n.data.toList
 else if k=3 then (if o=2 then 33 else 45)::parB 6 (ws.getD 0 (0,[]))
 else parB (leftP o) (ws.getD 0 (0,[]))++32::(signO o++32::parB (precO o+1) (ws.getD 1 (0,[])))
mutual
/-- An expression's text. -/
def wrE:Ex→List UInt8 | .mk k o n v aS=>outB k o n v (wrL aS)
def wrL:List Ex→List (Nat × List UInt8) | []=>[] | a::aS=>(precE a,wrE a)::wrL aS
end
def tk0 (k:Int) (t:List UInt8) (v:Int):Tk:=⟨k,⟨t.toArray⟩,v,0⟩
def parT (lim:Nat) (w:Nat × List Tk):List Tk:=if w.1<lim then tk0 3 [40] 0::(w.2++[tk0 3 [41] 0]) else w.2
def outT (k o:Int) (n:ByteArray) (v:Int) (ws:List (Nat × List Tk)):List Tk:=
 if k=1 then [tk0 2 (decL v.toNat) v] else if k=2 then [⟨1,n,0,0⟩]
 else if k=3 then tk0 3 [if o=2 then 33 else 45] 0::parT 6 (ws.getD 0 (0,[]))
 else parT (leftP o) (ws.getD 0 (0,[]))++tk0 3 (signO o) 0::parT (precO o+1) (ws.getD 1 (0,[]))
mutual
/-- An expression's tokens. -/
def tkE:Ex→List Tk | .mk k o n v aS=>outT k o n v (tkL aS)
def tkL:List Ex→List (Nat × List Tk) | []=>[] | a::aS=>(precE a,tkE a)::tkL aS
end
def strip (t:Tk):Tk:={ t with pos:=0 }

/-! ### the four forms of a valid expression -/
theorem size0 {n:ByteArray} (h:n.size=0):n=ByteArray.empty:=by
 obtain ⟨a⟩:=n
 have:a=#[]:=Array.eq_empty_of_size_eq_zero h
 subst this; rfl
inductive Form:Ex→Prop where
 | num (v:Int) (h:0≤v∧v≤1099511627776):Form (exNum v)
 | name (n:ByteArray) (h:nmB n=true):Form (exName n)
 | un (o:Int) (a:Ex) (h:o=1∨o=2):Form (exUn o a)
 | bin (o:Int) (a b:Ex) (h:3≤o∧o≤15):Form (exBin o a b)
theorem form_of {e:Ex} (h:Good e):Form e:=by
 have hP:=part_of h.self
 obtain ⟨k,o,n,v,aS⟩:=e
 obtain ⟨lo,hi,hval,hname,hop,hlen,hrange,hnm,hun,hbin⟩:=hP
 simp only [Ex.kind,Ex.op,Ex.name,Ex.val,Ex.args] at *
 have hk:k=1∨k=2∨k=3∨k=4:=by omega
 rcases hk with rfl | rfl | rfl | rfl
 ·obtain rfl:=size0 (hname (by decide))
  obtain rfl:=hop (by decide)
  obtain rfl:aS=[]:=List.eq_nil_of_length_eq_zero (by rw [hlen]; rfl)
  exact .num v (hrange rfl)
 ·obtain rfl:=hval (by decide)
  obtain rfl:=hop (by decide)
  obtain rfl:aS=[]:=List.eq_nil_of_length_eq_zero (by rw [hlen]; rfl)
  exact .name n (hnm rfl)
 ·obtain rfl:=hval (by decide)
  obtain rfl:=size0 (hname (by decide))
  have h1:aS.length=1:=hlen
  match aS,h1 with
  | [a],_=>exact .un o a (hun rfl)
 ·obtain rfl:=hval (by decide)
  obtain rfl:=size0 (hname (by decide))
  have h1:aS.length=2:=hlen
  match aS,h1 with
  | [a,b],_=>exact .bin o a b (hbin rfl)
theorem ops13 {o:Int} (h:3≤o∧o≤15):o=3∨o=4∨o=5∨o=6∨o=7∨o=8∨o=9∨o=10∨o=11∨o=12∨o=13∨o=14∨o=15:=by omega
theorem wr_num (v:Int):wrE (exNum v)=decL v.toNat:=by simp [exNum,wrE,outB]
theorem wr_name (n:ByteArray):wrE (exName n)=n.data.toList:=by simp [exName,wrE,outB]
theorem wr_un (o:Int) (a:Ex):wrE (exUn o a)=(if o=2 then 33 else 45)::parB 6 (precE a,wrE a):=by simp [exUn,wrE,wrL,outB]
theorem wr_bin (o:Int) (a b:Ex):wrE (exBin o a b)=parB (leftP o) (precE a,wrE a)++32::(signO o++32::parB (precO o+1) (precE b,wrE b)):=by simp [exBin,wrE,wrL,outB]
theorem Good.un {o:Int} {a:Ex} (h:Good (exUn o a)):Good a:=h.arg (by simp)
theorem Good.binl {o:Int} {a b:Ex} (h:Good (exBin o a b)):Good a:=h.arg (by simp)
theorem Good.binr {o:Int} {a b:Ex} (h:Good (exBin o a b)):Good b:=h.arg (by simp)
/-- Induction on the form. -/
theorem good_ind {P:Ex→Prop} (hn:∀ v,0≤v∧v≤1099511627776→P (exNum v)) (hm:∀ n,nmB n=true→P (exName n)) (hu:∀ o a,(o=1∨o=2)→Good a→P a→P (exUn o a)) (hb:∀ o a b,(3≤o∧o≤15)→Good a→Good b→P a→P b→P (exBin o a b)):∀ e,Good e→P e:=by
 intro e
 induction e using Ex.ind with
 | h k o n v aS ih=>
  intro h
  have hf:=form_of h
  generalize he:Ex.mk k o n v aS=e at h hf
  cases hf with
  | num v h1=>exact hn v h1
  | name n h1=>exact hm n h1
  | un o a h1=>
   injection he with _ _ _ _ he
   subst he
   exact hu o a h1 h.un (ih a (by simp) h.un)
  | bin o a b h1=>
   injection he with _ _ _ _ he
   subst he
   exact hb o a b h1 h.binl h.binr (ih a (by simp) h.binl) (ih b (by simp) h.binr)

/-! ### texts -/
/-- What a text begins with. -/
def Hd (c:UInt8):Prop:=c.toNat=40∨c.toNat=33∨c.toNat=45∨(48≤c.toNat∧c.toNat≤57)∨(97≤c.toNat∧c.toNat≤122)
def HdL (l:List UInt8):Prop:=∃ c r,l=c::r∧Hd c
theorem HdL.app {l m:List UInt8} (h:HdL l):HdL (l++m):=by obtain ⟨c,r,rfl,h⟩:=h; exact ⟨c,r++m,rfl,h⟩
theorem ofNat_dig {n:Nat} (h:n<10):(UInt8.ofNat (48+n)).toNat=48+n:=by simp [UInt8.toNat_ofNat]; omega
theorem dec_dig:∀ (f n:Nat),∀ c∈decF f n,48≤c.toNat∧c.toNat≤57
 | 0,_,c,h=>by cases h
 | f+1,n,c,h=>by
  unfold decF at h
  split at h
  ·next h1=>obtain rfl:=List.mem_singleton.1 h; rw [ofNat_dig h1]; omega
  ·rcases List.mem_append.1 h with h | h
   ·exact dec_dig f _ c h
   ·obtain rfl:=List.mem_singleton.1 h; rw [ofNat_dig (Nat.mod_lt _ (by decide))]; have:=Nat.mod_lt n (show 10 > 0 by decide); omega
theorem dec_ne (n:Nat):decL n≠[]:=by
 unfold decL decF
 split
 ·simp
 ·simp
/-- Its first digit is no zero, unless it is alone. -/
theorem dec_head:∀ (f n:Nat),n<10 ^ (f+1)→∀ c r,decF (f+1) n=c::r→r=[]∨c.toNat≠48
 | 0,n,h,c,r,e=>by
  unfold decF at e
  rw [if_pos (by simpa using h)] at e
  injection e with _ e; exact .inl e.symm
 | f+1,n,h,c,r,e=>by
  rw [decF] at e
  split at e
  ·injection e with _ e; exact .inl e.symm
  ·next h1=>
   right
   have hd:n / 10<10 ^ (f+1):=by rw [Nat.pow_succ] at h; omega
   cases hc:decF (f+1) (n / 10) with
   | nil=>
    have:=dec_ne (n / 10)
    unfold decF at hc
    split at hc
    ·cases hc
    ·simp at hc
   | cons c' r'=>
    rw [hc] at e
    injection e with e1 e2
    subst e1
    rcases dec_head f (n / 10) hd c' r' hc with h2 | h2
    ·subst h2
     have h3:n / 10<10:=by
      refine Decidable.byContradiction fun h3=>?_
      rw [decF,if_neg h3] at hc
      have:=congrArg List.length hc
      simp at this
      cases f with
      | zero=>simp at hd; omega
      | succ f=>
       unfold decF at this
       split at this <;> simp at this
     rw [decF,if_pos h3] at hc
     injection hc with hc _
     rw [← hc,ofNat_dig h3]; omega
    ·exact h2
theorem num_dec:∀ (f n:Nat),n<10 ^ f→numV (decF f n)=n
 | 0,n,h=>by simp at h; subst h; rfl
 | f+1,n,h=>by
  unfold decF
  split
  ·next h1=>show 0 * 10+((UInt8.ofNat (48+n)).toNat - 48)=n; rw [ofNat_dig h1]; omega
  ·have hd:n / 10<10 ^ f:=by rw [Nat.pow_succ] at h; omega
   have:=num_dec f (n / 10) hd
   unfold numV at this ⊢
   rw [List.foldl_append,this]
   simp only [List.foldl_cons,List.foldl_nil]
   rw [ofNat_dig (Nat.mod_lt _ (by decide))]
   omega
/-! ### tokens of a text -/
end Go.Proofs.YtmbffkemfepekaaGreatDoor
