/- Expressions that do not lean on one block; how long a printed expression is. No program in sight but for types. Conditions: none. -/
import Derived.Test.YtmbffkemfepekaaGreatDoorPtLx5
import Derived.Test.YtmbffkemfepekaaGreatDoorPtWr1
import Derived.WalkLawsBesides
namespace Go.Proofs.YtmbffkemfepekaaGreatDoor
open Go.RowKit
/-- The world with some blocks taken out. -/
def mask (p:Nat→Bool) (w:World):World:={ w with heap:=w.heap.mapIdx fun i o=>if p i then .cells #[] 0 (0,0) else o }
theorem mask_heap (p:Nat→Bool) (w:World) (i:Nat):(mask p w).heap[i]? = (w.heap[i]?).map fun o=>if p i then .cells #[] 0 (0,0) else o:=by
 unfold mask
 simp
theorem mask_far {p:Nat→Bool} {w:World} {x:Addr} (h:p x.block=false):(mask p w).cell? x=w.cell? x:=by
 have e:(mask p w).heap[x.block]? = w.heap[x.block]?:=by
  rw [mask_heap,h]
  cases w.heap[x.block]? <;> rfl
 unfold World.cell?
 rw [e]
theorem mask_at {p:Nat→Bool} {w:World} {x:Addr} (h:p x.block=true):(mask p w).cell? x=none:=by
 have e:(mask p w).heap[x.block]? = (w.heap[x.block]?).map fun _=>.cells #[] 0 (0,0):=by
  rw [mask_heap,h]
  cases w.heap[x.block]? <;> rfl
 unfold World.cell?
 rw [e]
 cases w.heap[x.block]? with
 | none=>rfl
 | some o=>
  simp only [Option.map_some]
  split
  ·rfl
  ·simp
theorem mask_some {p:Nat→Bool} {w:World} {x:Addr} {u:Value} (h:(mask p w).cell? x=some u):p x.block=false∧w.cell? x=some u:=by
 cases e:p x.block with
 | true=>rw [mask_at e] at h; cases h
 | false=>exact ⟨rfl,by rw [← mask_far e]; exact h⟩
theorem LiesE.mono {w w':World} {B B':Nat} {vs:List Value} {e:Ex} (h:LiesE w B vs e) (hB:B≤B') (hk:∀ (p:Addr) (u:Value),p.block<B→w.cell? p=some u→w'.cell? p=some u):LiesE w' B' vs e:=by
 induction h with
 | mk k o n v A c xs row bd hA hr ih=>
  refine .mk k o n v A c xs row bd ?_ ih
  rcases hA with h0 | ⟨b,off,e,hb,hc⟩
  ·exact .inl h0
  ·exact .inr ⟨b,off,e,by omega,fun i hi j u hu=>hk _ _ hb (hc i hi j u hu)⟩
theorem LiesE.unmask {p:Nat→Bool} {w:World} {B:Nat} {vs:List Value} {e:Ex} (h:LiesE (mask p w) B vs e):LiesE w B vs e:=h.mono (Nat.le_refl _) fun _ _ _ hc=>(mask_some hc).2
/-- Blocks that the expression does not lean on may turn. -/
theorem LiesE.turn {p q:Nat→Bool} {w W:World} {B B':Nat} {vs:List Value} {e:Ex} (h:LiesE (mask p w) B vs e) (hq:∀ X,X<B→p X=false→q X=false) (hB:B≤B') (hk:∀ X,X<B→p X=false→W.heap[X]? = w.heap[X]?):LiesE (mask q W) B' vs e:=
 h.mono hB fun x u hx hc=>by
  obtain ⟨h1,h2⟩:=mask_some hc
  rw [mask_far (hq _ hx h1)]
  rw [World.cell?_of_block (w:=w) (hk _ hx h1)]
  exact h2
/-! ### lengths -/
theorem decF_len:∀ f n,(decF f n).length≤f
 | 0,_=>by simp [decF]
 | f+1,n=>by
  unfold decF
  split
  ·simp
  ·have:=decF_len f (n / 10)
   simp; omega
theorem decL_len (n:Nat):(decL n).length≤20:=decF_len 20 n
end Go.Proofs.YtmbffkemfepekaaGreatDoor

namespace Go.Proofs.YtmbffkemfepekaaGreatDoor
open Go.RowKit
/-- What a world must hold for the library's functions. -/
structure Env (B:Nat) (w:World):Prop where
 tab:TabK B w
 max:∃ m,w.cell? ⟨0,0,none⟩=some (.int .i64 m)
 pos:0<B
theorem Env.next {B:Nat} {w W:World} (h:Env B w) (hb:Below B w W):Env B W:=
 ⟨h.tab.next hb,by obtain ⟨m,hm⟩:=h.max; exact ⟨m,(hb.cell (p:=⟨0,0,none⟩) h.pos).trans hm⟩,h.pos⟩
theorem Env.more {B C:Nat} {w:World} (h:Env B w) (hB:B≤C):Env C w:=
 ⟨fun W hb=>h.tab W (hb.mono hB),h.max,Nat.lt_of_lt_of_le h.pos hB⟩
structure TkOk (t:Tk):Prop where
 val:I64 t.val
 text:t.text.size≤140737488355328
def rdB (A:Option Addr) (n c k:Nat):Obj:=.cells #[.slice A n c,.int .i64 (k:Nat)] 179 (0,0)
/-- Block R is a reader at token k. -/
structure Rdr (B R:Nat) (A:Option Addr) (c:Nat) (ts:List Tk) (k:Nat) (w:World):Prop where
 blk:w.heap[R]? = some (rdB A ts.length c k)
 tok:Rd w B 4 A ts.length (tkCs ts)
 env:Env B w
 lo:B≤R
 le:k≤ts.length
 len:ts.length≤4001
 ok:∀ t∈ts,TkOk t
section
variable {B R c k:Nat} {A:Option Addr} {ts:List Tk} {w W:World}
theorem Rdr.lt (h:Rdr B R A c ts k w):R<w.heap.size:=(Array.getElem?_eq_some_iff.1 h.blk).1
theorem Rdr.turn (h:Rdr B R A c ts k w) (ht:Turn R (R+1) w W) {i:Nat} (hk:W.heap[R]? = some (rdB A ts.length c i)) (hi:i≤ts.length):Rdr B R A c ts i W:=by
 have hb:Below B w W:=(ht.below (Nat.le_of_lt h.lt)).mono h.lo
 exact ⟨hk,h.tok.below hb,h.env.next hb,h.lo,hi,h.len,h.ok⟩
theorem Rdr.keep (h:Rdr B R A c ts k w) (hb:Below B w W) (hk:W.heap[R]? = w.heap[R]?):Rdr B R A c ts k W:=
 ⟨hk.trans h.blk,h.tok.below hb,h.env.next hb,h.lo,h.le,h.len,h.ok⟩
theorem Rdr.next (h:Rdr B R A c ts k w) (hb:Below w.heap.size w W):Rdr B R A c ts k W:=
 h.turn (Turn.of_below hb) ((hb.block R h.lt).trans h.blk) h.le
theorem Rdr.cells (h:Rdr B R A c ts k w):w.cell? ⟨R,0,none⟩=some (.slice A ts.length c)∧w.cell? ⟨R,1,none⟩=some (.int .i64 (k:Nat))∧w.frozen? ⟨R,1,none⟩=false:=
 ⟨cell_of_row _ R 0 _ _ (0,0) h.blk,cell_of_row _ R 1 _ _ (0,0) h.blk,by unfold World.frozen?; rw [h.blk]; simp [rdB]⟩
/-- The reader goes on. -/
theorem Rdr.step (h:Rdr B R A c ts k w) (hk:k<ts.length):Rdr B R A c ts (k+1) (w.setCell ⟨R,1,none⟩ (.int .i64 ((k:Int)+1)))∧Turn R (R+1) w (w.setCell ⟨R,1,none⟩ (.int .i64 ((k:Int)+1))):=by
 have e:(k:Int)+1=((k+1:Nat):Int):=by omega
 rw [e]
 have ht:Turn R (R+1) w (w.setCell ⟨R,1,none⟩ (.int .i64 ((k+1:Nat):Int))):=(Turn.refl R (R+1) w).setCell (a:=⟨R,1,none⟩) ⟨Nat.le_refl _,Nat.lt_succ_self _⟩ _
 refine ⟨h.turn ht ?_ hk,ht⟩
 simp [World.setCell,Array.getElem?_modify,h.blk,rdB]
/-- The token at k. -/
theorem Rdr.at_ (h:Rdr B R A c ts k w) {j:Nat} {t:Tk} (ht:ts[j]? = some t):∃ b off:Nat,A=some ⟨b,off,none⟩∧b<B∧w.cell? ⟨b,off+j * 4,none⟩=some (.int .i64 t.kind)∧w.cell? ⟨b,off+j * 4+1,none⟩=some (.string t.text)∧w.cell? ⟨b,off+j * 4+2,none⟩=some (.int .i64 t.val)∧w.cell? ⟨b,off+j * 4+3,none⟩=some (.int .i64 (t.pos:Nat)):=by
 obtain ⟨hj,e⟩:=List.getElem?_eq_some_iff.1 ht
 obtain ⟨b,off,hA,hb,hc⟩:=h.tok.addr (by omega)
 have hs:∀ x:Tk,(tkC x).length=4:=fun _=>rfl
 have g (q:Nat) (hq:q<4):(tkCs ts)[j * 4+q]? = (tkC t)[q]?:=by rw [← e]; exact flat_at hs ts j hj q hq
 refine ⟨b,off,hA,hb,?_,?_,?_,?_⟩
 ·have:=hc (j * 4+0) _ ((g 0 (by omega)).trans rfl)
  simpa using this
 ·have:=hc (j * 4+1) _ ((g 1 (by omega)).trans rfl)
  simpa [Nat.add_assoc] using this
 ·have:=hc (j * 4+2) _ ((g 2 (by omega)).trans rfl)
  simpa [Nat.add_assoc] using this
 ·have:=hc (j * 4+3) _ ((g 3 (by omega)).trans rfl)
  simpa [Nat.add_assoc] using this
end
/-- What operand and binary give. -/
def OpdR (R:Nat) (A:Option Addr) (c:Nat) (ts:List Tk) (r:PR) (w:World):Ending→World→Prop:=fun e W=>Turn R (R+1) w W∧match r with
 | .ok x i=>∃ vs,e=.returned (.agg vs.toArray)∧LiesE (mask (fun X=>decide (X<w.heap.size)) W) W.heap.size vs x∧W.heap[R]? = some (rdB A ts.length c i)∧i≤ts.length
 | .bad i=>e=.panicked [{ v:=.iface 175 (.int .i64 (i:Nat)),recovered:=false }]
 | .out=>True
def numB (t:Tk):Bool:=decide (0≤t.val) && decide (t.val≤1099511627776) && t.text.data.toList == decL t.val.toNat
theorem numK_eq (t:Tk):numK t=(t.kind == 2 && numB t):=by unfold numK numB; simp [Bool.and_assoc]
theorem chkE_num {v:Int} (h:0≤v∧v≤1099511627776):chkE (exNum v)=0:=by
 have h1:¬ (v<0∨1099511627776<v):=by omega
 simp [chkE,exNum,nP,nPL,dP,dPL,pre,preL,chkL,chk1,Ex.kind,Ex.op,Ex.val,Ex.name,Ex.args,argsN,h1]
theorem chkE_name {n:ByteArray}:chkE (exName n)=if nmB n then 0 else 5:=by
 cases hn:nmB n <;> simp [chkE,exName,nP,nPL,dP,dPL,pre,preL,chkL,chk1,Ex.kind,Ex.op,Ex.val,Ex.name,Ex.args,argsN,hn]
theorem lies_leaf (w:World) (B:Nat) (k o v:Int) (n:ByteArray) (h:I64 k∧I64 o∧I64 v∧n.size≤9223372036854775807):LiesE w B (exC k o n v none 0 0) (.mk k o n v []):=
 LiesE.mk k o n v none 0 [] (fun _=>[]) ⟨h.1,h.2.1,h.2.2.1,h.2.2.2,by simp,by simp⟩ (.inl rfl) (fun i hi=>by simp at hi)
def isB (ts:List Tk) (k:Nat) (s:List UInt8):Bool:=match ts[k]? with | none=>false | some t=>isS t s
set_option maxRecDepth 100000 in
set_option maxHeartbeats 1600000 in
theorem is_any {B R c k:Nat} {A:Option Addr} {ts:List Tk} {w:World} (s:ByteArray) (h:Rdr B R A c ts k w):Calls Tryz.prog 186 #[.pointer (some ⟨R,0,none⟩),.string s] w (Ret (.bool (isB ts k s.data.toList)) w):=by
 obtain ⟨c0,c1,-⟩:=h.cells
 have hle:=h.le
 unfold Ret
 cases hk:ts[k]? with
 | none=>
  have HV:Hid (isB ts k s.data.toList=false):=Lib.hid (by unfold isB; rw [hk])
  have hge:ts.length≤k:=List.getElem?_eq_none_iff.1 hk
  have g1:decide ((k:Int)<(ts.length:Int))=false:=decide_eq_false (by omega)
  have g2:decide (k<ts.length)=false:=decide_eq_false (by omega)
  clear h hk hge hle
  go_enter Tryz.func186,Tryz.ntmps186
  go_upto_region 1 with fail
  go_quiet (fail)
  go_wp2_with fail
  go_ret
  rw [HV.out]
  exact ⟨rfl,below_drews _ _ _⟩
 | some t=>
  obtain ⟨b,off,hA,hb,x0,x1,x2,x3⟩:=h.at_ hk
  subst hA
  have hlt:k<ts.length:=(List.getElem?_eq_some_iff.1 hk).1
  have HV:Hid (isB ts k s.data.toList=(t.kind == 3 && t.text.toList == s.toList)):=Lib.hid (by unfold isB; rw [hk]; unfold isS; rw [Lib.toList_data,Lib.toList_data])
  have g1:decide ((k:Int)<(ts.length:Int))=true:=decide_eq_true (by omega)
  have g2:decide (k<ts.length)=true:=decide_eq_true hlt
  have g3:(k:Int)<(ts.length:Int):=by omega
  have g4:(0:Int)≤(k:Int):=by omega
  clear h hk hle
  generalize t.kind=tk at HV x0
  generalize t.text=tx at HV x1
  by_cases hk3:tk=3
  ·subst hk3
   cases he:tx.toList == s.toList with
   | true=>
    rw [he] at HV
    go_enter Tryz.func186,Tryz.ntmps186
    go_upto_region 1 with fail
    go_quiet (fail)
    go_wp2_with fail
    go_ret
    rw [HV.out]
    exact ⟨rfl,below_drews _ _ _⟩
   | false=>
    rw [he] at HV
    go_enter Tryz.func186,Tryz.ntmps186
    go_upto_region 1 with fail
    go_quiet (fail)
    go_wp2_with fail
    go_ret
    rw [HV.out]
    exact ⟨rfl,below_drews _ _ _⟩
  ·have e3:(tk == 3)=false:=by simpa using hk3
   rw [e3] at HV
   clear hk3
   go_enter Tryz.func186,Tryz.ntmps186
   go_upto_region 1 with fail
   go_quiet (fail)
   go_wp2_with fail
   go_ret
   rw [HV.out]
   exact ⟨rfl,below_drews _ _ _⟩
end Go.Proofs.YtmbffkemfepekaaGreatDoor
