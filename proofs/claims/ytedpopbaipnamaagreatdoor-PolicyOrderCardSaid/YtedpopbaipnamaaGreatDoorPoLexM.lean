/- Texts, tokens and the form of expressions in plain Lean. No program in sight. -/
import Derived.Test.YtedpopbaipnamaaGreatDoorPoBase
namespace Go.Proofs.YtedpopbaipnamaaGreatDoor

/-- A token. -/
structure Tk where
 kind:Int
 text:ByteArray
 val:Int
 pos:Nat
/-- How many bytes are blank or a comment. -/
def skipN:Bool→List UInt8→Nat
 | _,[]=>0
 | cm,c::r=>if c.toNat=10 then skipN false r+1 else if cm then skipN true r+1 else if c.toNat=35 then skipN true r+1 else if c.toNat=32∨c.toNat=9 then skipN false r+1 else 0
/-- How many bytes at the beginning are of a kind. -/
def runN (p:UInt8→Bool):List UInt8→Nat
 | []=>0
 | c::r=>if p c then runN p r+1 else 0
theorem runN_le (p:UInt8→Bool):∀ l,runN p l≤l.length
 | []=>by simp [runN]
 | c::r=>by unfold runN; split <;> simp <;> have:=runN_le p r <;> omega
theorem skipN_le:∀ b l,skipN b l≤l.length
 | _,[]=>by simp [skipN]
 | b,c::r=>by
  unfold skipN
  have h1:=skipN_le false r
  have h2:=skipN_le true r
  simp only [List.length_cons]
  split
  ·omega
  ·split
   ·omega
   ·split
    ·omega
    ·split <;> omega
/-- The value of digits. -/
def numV (l:List UInt8):Nat:=l.foldl (fun n c=>n * 10+(c.toNat - 48)) 0
/-- A token's kind, length and value; or an error. -/
inductive TkR where
 | ok (kind:Int) (len:Nat) (val:Nat)
 | er (f:Nat)
def dblS:List (List UInt8):=[[38,38],[124,124],[61,61],[33,61],[60,61],[62,61]]
def sglS:List UInt8:=[60,62,43,45,42,47,37,33,61,40,41,123,125,44,59]
def nameT (l:List UInt8):TkR:=if 30<runN inB l then .er 5 else .ok 1 (runN inB l) 0
def badN (l:List UInt8):Bool:=(decide (1<runN digB l) && (match l with | []=>false | c::_=>c.toNat == 48)) || (match l.drop (runN digB l) with | []=>false | c::_=>letB c || c.toNat == 95)
def numT (l:List UInt8):TkR:=if badN l then .er 3 else if 1099511627776<numV (l.take (runN digB l)) then .er 2 else .ok 2 (runN digB l) (numV (l.take (runN digB l)))
def signT (l:List UInt8):TkR:=if dblS.contains (l.take 2) then .ok 3 2 0 else if (match l with | []=>false | c::_=>sglS.contains c) then .ok 3 1 0 else .er 3
def tok1 (l:List UInt8):TkR:=match l with
 | []=>.er 3
 | c::_=>if letB c then nameT l else if digB c then numT l else signT l
/-- Tokens, or an error and its place. -/
inductive TksR where
 | ok (l:List Tk)
 | er (at_ f:Nat)
def subB (s:ByteArray) (i n:Nat):ByteArray:=⟨((s.data.toList.drop i).take n).toArray⟩
/-- The tokens from a place on at which one begins or the text ends. -/
def toksF (s:ByteArray):Nat→Nat→List Tk→TksR
 | 0,_,acc=>.ok acc
 | f+1,i,acc=>if i<s.size then (match tok1 (s.data.toList.drop i) with
   | .er e=>.er i e
   | .ok k n v=>toksF s f (i+n+skipN false (s.data.toList.drop (i+n))) (acc++[⟨k,subB s i n,v,i⟩]))
  else .ok (acc++[⟨0,ByteArray.empty,0,s.size⟩])
def toksE (s:ByteArray):TksR:=if 4000<s.size then .er 0 4 else toksF s (s.size+1) (skipN false s.data.toList) []

def kwL:List (List UInt8):=[[97,99,113,117,105,114,101],[97,100,100],[97,110,121],[97,114,114,105,118,101],[97,115],[97,115,115,101,114,116],[97,116,111,109,105,99],[97,119,97,105,116],[98,97,114,114,105,101,114],[98,101,103,105,110],[98,114,111,97,100,99,97,115,116],[98,117,100,103,101,116],[99,97,108,108],[99,97,110,99,101,108],[99,104,97,110,110,101,108],[99,104,101,99,107,112,111,105,110,116],[99,108,101,97,110,117,112],[99,108,111,115,101],[99,111,109,112,108,101,116,101],[99,111,110,100],[100,101,97,100,108,105,110,101],[100,101,102,97,117,108,116],[100,101,102,101,114],[101,108,115,101],[101,109,105,116],[101,110,100],[101,118,101,114,121],[102,97,105,108],[102,117,110,99],[102,117,116,117,114,101],[105,102],[108,101,116],[108,105,109,105,116,101,114],[108,111,99,107],[109,97,115,107],[109,117,116,101,120],[110,101,120,116],[111,110],[112,114,105,111,114,105,116,121],[112,117,98,108,105,115,104],[114,101,97,100,108,111,99,107],[114,101,97,100,117,110,108,111,99,107],[114,101,99,101,105,118,101],[114,101,108,101,97,115,101],[114,101,112,101,97,116],[114,101,116,117,114,110],[114,119,108,111,99,107],[115,99,111,112,101],[115,101,108,101,99,116],[115,101,109,97,112,104,111,114,101],[115,101,110,100],[115,105,103,110,97,108],[115,108,101,101,112],[115,112,97,119,110],[115,117,98,115,99,114,105,98,101],[115,119,97,112],[116,97,107,101],[116,97,115,107],[116,111,112,105,99],[116,114,121,97,99,113,117,105,114,101],[116,114,121,108,111,99,107],[117,110,108,111,99,107],[117,110,115,117,98,115,99,114,105,98,101],[118,97,114],[119,97,105,116],[119,104,105,108,101],[119,114,105,116,101,108,111,99,107],[119,114,105,116,101,117,110,108,111,99,107],[121,105,101,108,100]]
def kwB (s:ByteArray):Bool:=kwL.contains s.data.toList
/-- Decimal digits. -/
def decF:Nat→Nat→List UInt8
 | 0,_=>[]
 | f+1,n=>if n<10 then [UInt8.ofNat (48+n)] else decF f (n / 10)++[UInt8.ofNat (48+n % 10)]
def decL (n:Nat):List UInt8:=decF 20 n
/-- Operators with two arguments, by sign: number and precedence; (0, 0) if it is none. -/
def opS (t:List UInt8):Int × Nat:=
 if t=[124,124] then (15,1) else if t=[38,38] then (14,2)
 else if t=[61,61] then (8,3) else if t=[33,61] then (9,3) else if t=[60] then (10,3) else if t=[60,61] then (11,3) else if t=[62] then (12,3) else if t=[62,61] then (13,3)
 else if t=[43] then (3,4) else if t=[45] then (4,4)
 else if t=[42] then (5,5) else if t=[47] then (6,5) else if t=[37] then (7,5) else (0,0)
/-- An expression and the index behind it, or the index of what cannot follow; or too few steps. -/
inductive PR where
 | ok (e:Ex) (k:Nat)
 | bad (k:Nat)
 | out
def PR.bind (r:PR) (g:Ex→Nat→PR):PR:=match r with | .ok e k=>g e k | .bad k=>.bad k | .out=>.out
def isS (t:Tk) (c:List UInt8):Bool:=t.kind == 3 && t.text.data.toList == c
def numK (t:Tk):Bool:=t.kind == 2 && decide (0≤t.val) && decide (t.val≤1099511627776) && t.text.data.toList == decL t.val.toNat
def nameK (t:Tk):Bool:=t.kind == 1 && !kwB t.text && nmB t.text
def exNum (v:Int):Ex:=.mk 1 0 ByteArray.empty v []
def exName (n:ByteArray):Ex:=.mk 2 0 n 0 []
def exUn (o:Int) (e:Ex):Ex:=.mk 3 o ByteArray.empty 0 [e]
def exBin (o:Int) (a b:Ex):Ex:=.mk 4 o ByteArray.empty 0 [a,b]
/-- What is read: an operand, an expression of a precedence, what follows one of a precedence. -/
inductive Md where
 | opd
 | bin (p:Nat)
 | loop (p:Nat) (e:Ex)
/-- An operator of that precedence. -/
def opK (t:Tk) (p:Nat):Bool:=t.kind == 3 && (opS t.text.data.toList).2 == p
def closeP (ts:List Tk) (e:Ex) (i:Nat):PR:=match ts[i]? with | none=>.bad i | some u=>if isS u [41] then .ok e (i+1) else .bad i
def pP (ts:List Tk):Nat→Md→Nat→PR
 | 0,_,_=>.out
 | f+1,.opd,k=>(match ts[k]? with
  | none=>.bad k
  | some t=>if numK t then .ok (exNum t.val) (k+1)
   else if nameK t then .ok (exName t.text) (k+1)
   else if isS t [45] then (pP ts f .opd (k+1)).bind fun e i=>.ok (exUn 1 e) i
   else if isS t [33] then (pP ts f .opd (k+1)).bind fun e i=>.ok (exUn 2 e) i
   else if isS t [40] then (pP ts f (.bin 1) (k+1)).bind fun e i=>closeP ts e i
   else .bad k)
 | f+1,.bin p,k=>if 5<p then pP ts f .opd k else (pP ts f (.bin (p+1)) k).bind fun e i=>pP ts f (.loop p e) i
 | f+1,.loop p e,k=>(match ts[k]? with
  | none=>.ok e k
  | some t=>if opK t p then (pP ts f (.bin (p+1)) (k+1)).bind fun e2 i=>(if p=3 then .ok (exBin (opS t.text.data.toList).1 e e2) i else pP ts f (.loop p (exBin (opS t.text.data.toList).1 e e2)) i)
   else .ok e k)
theorem pP_o (ts:List Tk) (f k:Nat):pP ts (f+1) .opd k=(match ts[k]? with
  | none=>.bad k
  | some t=>if numK t then .ok (exNum t.val) (k+1)
   else if nameK t then .ok (exName t.text) (k+1)
   else if isS t [45] then (pP ts f .opd (k+1)).bind fun e i=>.ok (exUn 1 e) i
   else if isS t [33] then (pP ts f .opd (k+1)).bind fun e i=>.ok (exUn 2 e) i
   else if isS t [40] then (pP ts f (.bin 1) (k+1)).bind fun e i=>closeP ts e i
   else .bad k):=by rw [pP]
theorem pP_b (ts:List Tk) (f p k:Nat):pP ts (f+1) (.bin p) k=if 5<p then pP ts f .opd k else (pP ts f (.bin (p+1)) k).bind fun e i=>pP ts f (.loop p e) i:=by rw [pP]
theorem pP_l (ts:List Tk) (f p:Nat) (e:Ex) (k:Nat):pP ts (f+1) (.loop p e) k=(match ts[k]? with
  | none=>.ok e k
  | some t=>if opK t p then (pP ts f (.bin (p+1)) (k+1)).bind fun e2 i=>(if p=3 then .ok (exBin (opS t.text.data.toList).1 e e2) i else pP ts f (.loop p (exBin (opS t.text.data.toList).1 e e2)) i)
   else .ok e k):=by rw [pP]
theorem bind_ne {r:PR} {g:Ex→Nat→PR} (h1:r≠.out) (h2:∀ e i,r=.ok e i→g e i≠.out):r.bind g≠.out:=by
 cases r with
 | ok e k=>exact h2 e k rfl
 | bad k=>intro h; cases h
 | out=>exact absurd rfl h1
theorem bind_ok {r:PR} {g:Ex→Nat→PR} {e:Ex} {k:Nat} (h:r.bind g=.ok e k):∃ e1 k1,r=.ok e1 k1∧g e1 k1=.ok e k:=by
 cases r with
 | ok e1 k1=>exact ⟨e1,k1,rfl,h⟩
 | bad k=>cases h
 | out=>cases h
theorem bind_bad {r:PR} {g:Ex→Nat→PR} {k:Nat} (h:r.bind g=.bad k):r=.bad k∨∃ e1 k1,r=.ok e1 k1∧g e1 k1=.bad k:=by
 cases r with
 | ok e1 k1=>exact .inr ⟨e1,k1,rfl,h⟩
 | bad k1=>simp only [PR.bind] at h; exact .inl h
 | out=>cases h
theorem bind_same {r r':PR} {g g':Ex→Nat→PR} (h1:r≠.out→r'=r) (h2:∀ e i,r=.ok e i→g e i≠.out→g' e i=g e i) (h:r.bind g≠.out):r'.bind g'=r.bind g:=by
 cases r with
 | ok e k=>rw [h1 (by intro h; cases h)]; exact h2 e k rfl h
 | bad k=>rw [h1 (by intro h; cases h)]; rfl
 | out=>exact absurd rfl h
/-- More steps change nothing. -/
theorem pP_more (ts:List Tk):∀ (f:Nat) (m:Md) (k:Nat),pP ts f m k≠.out→pP ts (f+1) m k=pP ts f m k
 | 0,m,k,h=>absurd (by simp only [pP]) h
 | f+1,.opd,k,h=>by
  rw [pP_o] at h
  rw [pP_o ts (f+1) k,pP_o ts f k]
  cases hk:ts[k]? with
  | none=>rfl
  | some t=>
   simp only [hk] at h ⊢
   split
   ·rfl
   ·split
    ·rfl
    ·split
     ·next h1 h2 h3=>rw [if_neg h1,if_neg h2,if_pos h3] at h; exact bind_same (pP_more ts f .opd (k+1)) (fun _ _ _ _=>rfl) h
     ·split
      ·next h1 h2 h3 h4=>rw [if_neg h1,if_neg h2,if_neg h3,if_pos h4] at h; exact bind_same (pP_more ts f .opd (k+1)) (fun _ _ _ _=>rfl) h
      ·split
       ·next h1 h2 h3 h4 h5=>rw [if_neg h1,if_neg h2,if_neg h3,if_neg h4,if_pos h5] at h; exact bind_same (pP_more ts f (.bin 1) (k+1)) (fun _ _ _ _=>rfl) h
       ·rfl
 | f+1,.bin p,k,h=>by
  rw [pP_b] at h
  rw [pP_b ts (f+1) p k,pP_b ts f p k]
  split
  ·next h1=>rw [if_pos h1] at h; exact pP_more ts f .opd k h
  ·next h1=>rw [if_neg h1] at h; exact bind_same (pP_more ts f (.bin (p+1)) k) (fun e i _ hne=>pP_more ts f (.loop p e) i hne) h
 | f+1,.loop p e,k,h=>by
  rw [pP_l] at h
  rw [pP_l ts (f+1) p e k,pP_l ts f p e k]
  cases hk:ts[k]? with
  | none=>rfl
  | some t=>
   simp only [hk] at h ⊢
   split
   ·next h1=>
    rw [if_pos h1] at h
    refine bind_same (pP_more ts f (.bin (p+1)) (k+1)) (fun e2 i _ hne=>?_) h
    split
    ·rfl
    ·next h3=>rw [if_neg h3] at hne; exact pP_more ts f _ i hne
   ·rfl
theorem pP_le (ts:List Tk) {f g:Nat} {m:Md} {k:Nat} (h:f≤g) (hn:pP ts f m k≠.out):pP ts g m k=pP ts f m k:=by
 induction g with
 | zero=>
  obtain rfl:f=0:=by omega
  rfl
 | succ g ih=>
  by_cases e:f=g+1
  ·rw [e]
  ·have h1:=ih (by omega)
   rw [pP_more ts g m k (by rw [h1]; exact hn),h1]
/-- What is read stands ahead of the index behind it. -/
theorem pP_step (ts:List Tk):∀ (f:Nat) (m:Md) (k:Nat) (e:Ex) (i:Nat),pP ts f m k=.ok e i→k≤ts.length→k≤i∧i≤ts.length∧((∃ p e',m=.loop p e')∨k<i)
 | 0,m,k,e,i,h,_=>by simp only [pP] at h; cases h
 | f+1,.opd,k,e,i,h,hl=>by
  rw [pP_o] at h
  cases hk:ts[k]? with
  | none=>rw [hk] at h; cases h
  | some t=>
   have hlt:k<ts.length:=(List.getElem?_eq_some_iff.1 hk).1
   simp only [hk] at h
   split at h
   ·injection h with _ h; exact ⟨by omega,by omega,.inr (by omega)⟩
   ·split at h
    ·injection h with _ h; exact ⟨by omega,by omega,.inr (by omega)⟩
    ·split at h
     ·obtain ⟨e1,k1,h1,h2⟩:=bind_ok h
      injection h2 with _ h2
      have:=pP_step ts f _ _ _ _ h1 (by omega)
      exact ⟨by omega,by omega,.inr (by omega)⟩
     ·split at h
      ·obtain ⟨e1,k1,h1,h2⟩:=bind_ok h
       injection h2 with _ h2
       have:=pP_step ts f _ _ _ _ h1 (by omega)
       exact ⟨by omega,by omega,.inr (by omega)⟩
      ·split at h
       ·obtain ⟨e1,k1,h1,h2⟩:=bind_ok h
        have:=pP_step ts f _ _ _ _ h1 (by omega)
        unfold closeP at h2
        cases hu:ts[k1]? with
        | none=>rw [hu] at h2; cases h2
        | some u=>
         have hlt1:k1<ts.length:=(List.getElem?_eq_some_iff.1 hu).1
         simp only [hu] at h2
         split at h2
         ·injection h2 with _ h2; exact ⟨by omega,by omega,.inr (by omega)⟩
         ·cases h2
       ·cases h
 | f+1,.bin p,k,e,i,h,hl=>by
  rw [pP_b] at h
  split at h
  ·have:=pP_step ts f _ _ _ _ h hl
   obtain ⟨a,b,c | c⟩:=this
   ·obtain ⟨_,_,c⟩:=c; cases c
   ·exact ⟨a,b,.inr c⟩
  ·obtain ⟨e1,k1,h1,h2⟩:=bind_ok h
   obtain ⟨a,b,c⟩:=pP_step ts f _ _ _ _ h1 hl
   obtain ⟨a2,b2,-⟩:=pP_step ts f _ _ _ _ h2 b
   rcases c with ⟨_,_,c⟩ | c
   ·cases c
   ·exact ⟨by omega,b2,.inr (by omega)⟩
 | f+1,.loop p e',k,e,i,h,hl=>by
  rw [pP_l] at h
  refine ⟨?_,?_,.inl ⟨p,e',rfl⟩⟩ <;>
  ·cases hk:ts[k]? with
   | none=>simp only [hk] at h; injection h with _ h; omega
   | some t=>
    have hlt:k<ts.length:=(List.getElem?_eq_some_iff.1 hk).1
    simp only [hk] at h
    split at h
    ·obtain ⟨e1,k1,h1,h2⟩:=bind_ok h
     obtain ⟨a,b,-⟩:=pP_step ts f _ _ _ _ h1 (by omega)
     split at h2
     ·injection h2 with _ h2; omega
     ·obtain ⟨a2,b2,-⟩:=pP_step ts f _ _ _ _ h2 b
      omega
    ·injection h with _ h; omega
/-- What cannot follow stands within the tokens. -/
theorem pP_bad (ts:List Tk):∀ (f:Nat) (m:Md) (k:Nat) (i:Nat),pP ts f m k=.bad i→k≤ts.length→i≤ts.length
 | 0,m,k,i,h,_=>by simp only [pP] at h; cases h
 | f+1,.opd,k,i,h,hl=>by
  rw [pP_o] at h
  cases hk:ts[k]? with
  | none=>simp only [hk] at h; injection h with h; omega
  | some t=>
   have hlt:k<ts.length:=(List.getElem?_eq_some_iff.1 hk).1
   simp only [hk] at h
   split at h
   ·cases h
   ·split at h
    ·cases h
    ·split at h
     ·rcases bind_bad h with h1 | ⟨e1,k1,h1,h2⟩
      ·exact pP_bad ts f _ _ _ h1 (by omega)
      ·cases h2
     ·split at h
      ·rcases bind_bad h with h1 | ⟨e1,k1,h1,h2⟩
       ·exact pP_bad ts f _ _ _ h1 (by omega)
       ·cases h2
      ·split at h
       ·rcases bind_bad h with h1 | ⟨e1,k1,h1,h2⟩
        ·exact pP_bad ts f _ _ _ h1 (by omega)
        ·have:=pP_step ts f _ _ _ _ h1 (by omega)
         unfold closeP at h2
         cases hu:ts[k1]? with
         | none=>simp only [hu] at h2; injection h2 with h2; omega
         | some u=>
          simp only [hu] at h2
          split at h2
          ·cases h2
          ·injection h2 with h2; omega
       ·injection h with h; omega
 | f+1,.bin p,k,i,h,hl=>by
  rw [pP_b] at h
  split at h
  ·exact pP_bad ts f _ _ _ h hl
  ·rcases bind_bad h with h1 | ⟨e1,k1,h1,h2⟩
   ·exact pP_bad ts f _ _ _ h1 hl
   ·exact pP_bad ts f _ _ _ h2 (pP_step ts f _ _ _ _ h1 hl).2.1
 | f+1,.loop p e',k,i,h,hl=>by
  rw [pP_l] at h
  cases hk:ts[k]? with
  | none=>simp only [hk] at h; cases h
  | some t=>
   have hlt:k<ts.length:=(List.getElem?_eq_some_iff.1 hk).1
   simp only [hk] at h
   split at h
   ·rcases bind_bad h with h1 | ⟨e1,k1,h1,h2⟩
    ·exact pP_bad ts f _ _ _ h1 (by omega)
    ·split at h2
     ·cases h2
     ·exact pP_bad ts f _ _ _ h2 (pP_step ts f _ _ _ _ h1 (by omega)).2.1
   ·cases h
/-- Enough steps. -/
theorem pP_ends (ts:List Tk):∀ (d k:Nat),k≤ts.length→ts.length - k≤d→(∀ f,8 * d+1≤f→pP ts f .opd k≠.out)∧(∀ q p f,6 - p≤q→8 * d+2+q≤f→pP ts f (.bin p) k≠.out)∧(∀ p e f,8 * d+1≤f→pP ts f (.loop p e) k≠.out):=by
 intro d
 induction d with
 | zero=>
  intro k hl hd
  have hk:ts[k]? = none:=List.getElem?_eq_none (by omega)
  have hO:∀ f,1≤f→pP ts f .opd k≠.out:=fun f hf=>by
   obtain ⟨g,rfl⟩:∃ g,f=g+1:=⟨f - 1,by omega⟩
   rw [pP_o,hk]; intro h; cases h
  have hL:∀ p e f,1≤f→pP ts f (.loop p e) k≠.out:=fun p e f hf=>by
   obtain ⟨g,rfl⟩:∃ g,f=g+1:=⟨f - 1,by omega⟩
   rw [pP_l,hk]; intro h; cases h
  refine ⟨fun f hf=>hO f (by omega),?_,fun p e f hf=>hL p e f (by omega)⟩
  intro q
  induction q with
  | zero=>
   intro p f hp hf
   obtain ⟨g,rfl⟩:∃ g,f=g+1:=⟨f - 1,by omega⟩
   rw [pP_b,if_pos (by omega)]
   exact hO g (by omega)
  | succ q ih=>
   intro p f hp hf
   obtain ⟨g,rfl⟩:∃ g,f=g+1:=⟨f - 1,by omega⟩
   rw [pP_b]
   split
   ·exact hO g (by omega)
   ·refine bind_ne (ih (p+1) g (by omega) (by omega)) fun e i h=>?_
    have:=pP_step ts g _ _ _ _ h hl
    rcases this with ⟨a,b,⟨_,_,c⟩ | c⟩
    ·cases c
    ·omega
 | succ d ihd=>
  intro k hl hd
  have hO:∀ f,8 * (d+1)+1≤f→pP ts f .opd k≠.out:=fun f hf=>by
   obtain ⟨g,rfl⟩:∃ g,f=g+1:=⟨f - 1,by omega⟩
   rw [pP_o]
   cases hk:ts[k]? with
   | none=>intro h; cases h
   | some t=>
    have hlt:k<ts.length:=(List.getElem?_eq_some_iff.1 hk).1
    obtain ⟨i1,i2,i3⟩:=ihd (k+1) (by omega) (by omega)
    simp only
    split
    ·intro h; cases h
    ·split
     ·intro h; cases h
     ·split
      ·exact bind_ne (i1 g (by omega)) fun e i _ h=>by cases h
      ·split
       ·exact bind_ne (i1 g (by omega)) fun e i _ h=>by cases h
       ·split
        ·refine bind_ne (i2 5 1 g (by omega) (by omega)) fun e i _=>?_
         unfold closeP
         split
         ·intro h; cases h
         ·split <;> (intro h; cases h)
        ·intro h; cases h
  have hL:∀ p e f,8 * (d+1)+1≤f→pP ts f (.loop p e) k≠.out:=fun p e f hf=>by
   obtain ⟨g,rfl⟩:∃ g,f=g+1:=⟨f - 1,by omega⟩
   rw [pP_l]
   cases hk:ts[k]? with
   | none=>intro h; cases h
   | some t=>
    have hlt:k<ts.length:=(List.getElem?_eq_some_iff.1 hk).1
    obtain ⟨i1,i2,i3⟩:=ihd (k+1) (by omega) (by omega)
    simp only
    split
    ·refine bind_ne (i2 6 (p+1) g (by omega) (by omega)) fun e i h=>?_
     obtain ⟨a,b,-⟩:=pP_step ts g _ _ _ _ h (by omega)
     split
     ·intro h; cases h
     ·exact (ihd i b (by omega)).2.2 _ _ g (by omega)
    ·intro h; cases h
  refine ⟨hO,?_,hL⟩
  intro q
  induction q with
  | zero=>
   intro p f hp hf
   obtain ⟨g,rfl⟩:∃ g,f=g+1:=⟨f - 1,by omega⟩
   rw [pP_b,if_pos (by omega)]
   exact hO g (by omega)
  | succ q ih=>
   intro p f hp hf
   obtain ⟨g,rfl⟩:∃ g,f=g+1:=⟨f - 1,by omega⟩
   rw [pP_b]
   split
   ·exact hO g (by omega)
   ·refine bind_ne (ih (p+1) g (by omega) (by omega)) fun e i h=>?_
    obtain ⟨a,b,c⟩:=pP_step ts g _ _ _ _ h hl
    rcases c with ⟨_,_,c⟩ | c
    ·cases c
    ·exact (ihd i b (by omega)).2.2 _ _ g (by omega)
/-- What has the form of an expression at the beginning of tokens. -/
def readP (ts:List Tk):PR:=pP ts (8 * ts.length+8) (.bin 1) 0
theorem readP_ne (ts:List Tk):readP ts≠.out:=(pP_ends ts ts.length 0 (by omega) (by omega)).2.1 5 1 _ (by omega) (by omega)
end Go.Proofs.YtedpopbaipnamaaGreatDoor
