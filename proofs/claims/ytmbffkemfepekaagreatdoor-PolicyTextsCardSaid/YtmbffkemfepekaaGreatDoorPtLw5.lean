/- What the cards of the rows over policies share: the laid tables and the world's shape give what the walks want; the program starts no goroutine. Conditions: none. -/
import Derived.Test.YtmbffkemfepekaaGreatDoorRows
import Derived.Test.YtmbffkemfepekaaGreatDoorPtOpp
import Derived.Test.YtmbffkemfepekaaGreatDoorPtRdm
import Derived.Lib.AppendIntMem
import GoSem.ClaimSeven
namespace Go.Proofs.YtmbffkemfepekaaGreatDoor
open Go.ChangeShapes Go.WideShapes Go.ChangeAt Go.RowKit

def laidL:List (String × DataW Unit):=[("math/bits.deBruijn32tab", Rows.laid_math_bits_deBruijn32tab),("math/bits.deBruijn64tab", Rows.laid_math_bits_deBruijn64tab),("internal/strconv.uint64pow10", Rows.laid_internal_strconv_uint64pow10)]
theorem own0:ownKnob Tryz.prog.godebug=none:=by kernel_rfl
theorem glPow:Tryz.prog.globalNamed "internal/strconv.uint64pow10" = some 1:=by kernel_rfl
/-- A TABLE LATER ON THE LIST. -/
theorem laidVars_tail {P:Program} {w:World} {x:String × DataW Unit} {r:List (String × DataW Unit)} {ps:List MemPlace} (h:DataW.LaidVars P w (x::r) ps):∃ q,DataW.LaidVars P w r q:=by
 obtain ⟨_,_,_,_,_,q,_,_,_,_,h2,_⟩:=h
 exact ⟨q,h2⟩
theorem tabIs_of_vars {P:Program} {W:World} {name:String} {k:IntKind} {zs:List Int} {rest:List (String × DataW Unit)} {ps:List MemPlace} {g:Nat} {t e:TypeId} {n:Nat}
  (hg:P.globalNamed name=some g) (hty:(P.globals[g]?).map (·.type)=some t) (ht:P.underlying t=some (.array n e)) (he:P.underlying e=some (.int k)) (hce:P.cellsOf e=1) (hct:P.cellsOf t=n)
  (h:DataW.LaidVars P W ((name,Lib.tabData k zs)::rest) ps):Lib.TabIs P W name k zs:=by
 obtain ⟨g',t',cs,fuel,p,q,hg',ht',hvar,hd,_,_⟩:=h
 obtain rfl:=Option.some.inj (hg.symm.trans hg')
 obtain rfl:=Option.some.inj (hty.symm.trans ht')
 unfold Lib.TabIs
 rw [hvar,← Lib.cells_of_tab ht he hce hct hd]
/-- What the rows' list gives: the table of powers of ten lies where it was laid. -/
theorem powTab {W:World} (h:laidMetH Tryz.prog laidL W):Lib.TabIs Tryz.prog W "internal/strconv.uint64pow10" .u64 Lib.pow10Tab:=by
 have h':laidMet Tryz.prog [("math/bits.deBruijn32tab", Rows.laid_math_bits_deBruijn32tab),("math/bits.deBruijn64tab", Rows.laid_math_bits_deBruijn64tab),("internal/strconv.uint64pow10", Lib.tabData .u64 Lib.pow10Tab)] W:=h
 obtain ⟨ps,h1,_⟩:=h'
 obtain ⟨q,h2⟩:=laidVars_tail h1
 obtain ⟨q2,h3⟩:=laidVars_tail h2
 exact tabIs_of_vars glPow (show (Tryz.prog.globals[1]?).map (·.type)=some 256 by kernel_rfl) Tryz.underlying256 Tryz.underlying230 (by kernel_rfl) (by kernel_rfl) h3
/-- WHAT THE WALKS WANT OF THE WORLD. -/
theorem env_of {W:World} (h:laidMetH Tryz.prog laidL W) (hs:W.ShapedOpen Tryz.prog):Env W.heap.size W:=by
 obtain ⟨m,hm⟩:=Tryz.laysM144.s1_3 W hs
 exact ⟨Lib.tabBelow_of_tabIs (powTab h),⟨m,hm⟩,World.block_lt_of_cell? _ _ hm⟩

/-- A WORLD FOR THE WITNESS: the settled one, the three tables holding what their initialisers lay. -/
def lay (w:World) (g:Nat) (k:IntKind) (zs:List Int):World:=
 { w with heap:=w.heap.modify g fun
   | .cells _ t frozen=>.cells (zs.map fun z=>Value.int k z).toArray t frozen
   | o=>o }
noncomputable def laidWorld (os:Os):World:=
 lay (lay (lay (World.holding Tryz.prog os ⟨#[],#[],[]⟩) 1 .u64 Lib.pow10Tab)
  2 .u8 [0,1,28,2,29,14,24,3,30,22,20,15,25,17,4,8,31,27,13,23,21,19,16,7,26,12,18,6,11,5,10,9]) 3 .u8 [0,1,56,2,57,49,28,3,61,58,42,50,38,29,17,4,62,47,59,36,45,43,51,22,53,39,33,30,24,18,12,5,63,55,48,27,60,41,37,16,46,35,44,21,52,32,23,11,54,26,40,15,34,20,31,10,25,14,19,9,13,8,7,6]

/-- No text of the whole translation starts a goroutine. -/
theorem goes_not:Tryz.prog.funcs.any Func.goes=false:=by kernel_rfl
theorem goes_none {P:Program} (h:P.funcs.any Func.goes=false) (f:FuncId):P.goes f=false:=by
 have hall:∀ g:Nat,(P.funcs[g]?).any Func.goes=false:=fun g=>by
  cases e:P.funcs[g]? with
  | none=>rfl
  | some fn=>
   rw [Array.any_eq_false] at h
   obtain ⟨hi,rfl⟩:=Array.getElem?_eq_some_iff.1 e
   simpa using h g hi
 unfold Program.goes
 rw [h,Bool.and_false,Bool.or_false,List.any_eq_false]
 intro g _
 simp [hall g]
theorem goesBy_none' {P:Program} (h:P.funcs.any Func.goes=false) {c:OpenClaim} (hs:c.start=.entering):false=c.goesBy P:=by
 unfold OpenClaim.goesBy Program.goesAt Program.goesFrom
 rw [hs]
 cases P.funcNamed c.func with
 | none=>rfl
 | some f=>
  show false=(P.goes f || false)
  rw [goes_none h f]
  rfl
theorem goesBy_none {c:OpenClaim} (hs:c.start=.entering):false=c.goesBy Tryz.prog:=goesBy_none' goes_not hs
set_option maxRecDepth 100000 in
theorem looks_all:Tryz.pinned.checked.prog.looks []=true:=by kernel_rfl
end Go.Proofs.YtmbffkemfepekaaGreatDoor
