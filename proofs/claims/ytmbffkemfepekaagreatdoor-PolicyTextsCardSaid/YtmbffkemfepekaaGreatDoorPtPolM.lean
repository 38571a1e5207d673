/- Policies in plain Lean: validity, ranks, the order of preference. No program in sight. -/
import Derived.Test.YtmbffkemfepekaaGreatDoorPtBase
namespace Go.Proofs.YtmbffkemfepekaaGreatDoor

/-- A rule. -/
structure Rl where
 cond:Ex
 key:Ex
/-- An attribute's name and type. -/
structure Kd where
 name:ByteArray
 ty:Int
def kds:List Kd:=[⟨⟨#[99,97,110,99,101,108,108,101,100]⟩,2⟩,⟨⟨#[99,97,115,101]⟩,1⟩,⟨⟨#[99,108,111,99,107]⟩,2⟩,⟨⟨#[100,101,112,116,104]⟩,1⟩,⟨⟨#[101,102,102,101,99,116,105,118,101]⟩,1⟩,⟨⟨#[104,101,108,100]⟩,1⟩,⟨⟨#[105,110,100,101,120]⟩,1⟩,⟨⟨#[110,111,119]⟩,1⟩,⟨⟨#[111,112]⟩,1⟩,⟨⟨#[111,119,110]⟩,1⟩,⟨⟨#[115,116,101,112,115]⟩,1⟩]
/-- The bindings of all attributes, without values. -/
def kdB:List Bd:=kds.map fun k=>⟨k.name,k.ty,0⟩
/-- Bindings that fit the attributes. -/
def fitB (k:Kd) (b:Bd):Bool:=b.name == k.name && b.ty == k.ty && (if k.ty=2 then decide (b.val=0) || decide (b.val=1) else decide (-1099511627776≤b.val) && decide (b.val≤1099511627776))
def fits (l:List Bd):Bool:=l.length == 11 && (kds.zip l).all fun x=>fitB x.1 x.2
/-- Why an expression is not of a type. -/
def tyE (e:Ex) (t:Int):Nat:=match typeE kdB e with | .er f=>f | .ok n=>if n=t then 0 else 15
/-- Why rules are not valid. -/
def chkR:List Rl→Nat
 | []=>0
 | r::l=>if tyE r.cond 2=0 then (if tyE r.key 1=0 then chkR l else tyE r.key 1) else tyE r.cond 2
def chkP (l:List Rl):Nat:=if 16<l.length then 4 else chkR l
theorem chkR_append (l m:List Rl):chkR (l++m)=if chkR l=0 then chkR m else chkR l:=by
 induction l with
 | nil=>simp [chkR]
 | cons a l ih=>
  simp only [List.cons_append,chkR]
  by_cases h:tyE a.cond 2=0
  ·by_cases h2:tyE a.key 1=0
   ·simp [h,h2,ih]
   ·simp [h,h2]
  ·simp [h]
/-- Whether a rule applies, and its key. -/
def keyR (l:List Bd) (r:Rl):Option Int:=match evalE l r.cond with
 | .er _=>none
 | .ok n=>if n=1 then (match evalE l r.key with | .er _=>none | .ok k=>some k) else none
/-- The rank: the first rule that applies, and its key. -/
def rankF (l:List Bd) (i:Nat):List Rl→Int × Int
 | []=>((i:Int),0)
 | r::rs=>match keyR l r with | some k=>((i:Int),k) | none=>rankF l (i+1) rs
def rankR (rs:List Rl) (l:List Bd):Int × Int:=rankF l 0 rs
end Go.Proofs.YtmbffkemfepekaaGreatDoor
