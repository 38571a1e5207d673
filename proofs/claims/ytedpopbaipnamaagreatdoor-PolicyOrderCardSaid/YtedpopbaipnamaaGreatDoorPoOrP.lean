/- What policy.Order holds in memory. Conditions: none. -/
import Derived.Test.YtedpopbaipnamaaGreatDoorPoRnk
import Derived.Test.YtedpopbaipnamaaGreatDoorPoCmp
import Derived.Maps.AppendAt
import Derived.Carry
import Derived.OpenShut
import Derived.WalkKit
import Derived.Deep.DeepHandedRow
import Derived.ProofKit
import Derived.Deep.SlicePairs
import Derived.Lib.LaidTab
import Derived.Lib.SmallJoins
import Derived.Test.YtedpopbaipnamaaGreatDoorProg
import Derived.Test.YtedpopbaipnamaaGreatDoorPoBase
import Derived.Shelf.Strings.Builder1
namespace Go.Proofs.YtedpopbaipnamaaGreatDoor
open Go.RowKit
/-- Attributes of a choice. -/
structure At where
 task:Int
 case_:Int
 vals:List Bd
/-- A slice of attributes. -/
structure LiesA (w:World) (B:Nat) (A:Option Addr) (c:Nat) (ls:List At):Prop where
 len:ls.length≤9223372036854775807
 at_:∀ (i:Nat) (h:i<ls.length),ls[i].vals.length≤9223372036854775807∧∃ (b off:Nat) (A':Option Addr) (c':Nat),A=some ⟨b,off,none⟩∧b<B∧RdB w B A' ls[i].vals ∧
  w.cell? ⟨b,off+i * 3,none⟩=some (.int .i64 ls[i].task)∧w.cell? ⟨b,off+i * 3+1,none⟩=some (.int .i64 ls[i].case_)∧w.cell? ⟨b,off+i * 3+2,none⟩=some (.slice A' ls[i].vals.length c')
theorem LiesA.below' {w w':World} {B C c:Nat} {A:Option Addr} {ls:List At} (h:LiesA w B A c ls) (hb:Below C w w') (hC:B≤C):LiesA w' B A c ls:=by
 refine ⟨h.len,fun i hi=>?_⟩
 obtain ⟨hl,b,off,A',c',e,hbB,hr,x0,x1,x2⟩:=h.at_ i hi
 exact ⟨hl,b,off,A',c',e,hbB,Rd.below' hr hb hC,(hb.cell (p:=⟨b,off+i * 3,none⟩) (by show b<C; omega)).trans x0,(hb.cell (p:=⟨b,off+i * 3+1,none⟩) (by show b<C; omega)).trans x1,(hb.cell (p:=⟨b,off+i * 3+2,none⟩) (by show b<C; omega)).trans x2⟩
def natV (k:Nat):Value:=.int .i64 (k:Nat)
def rkC (rs:List Rl) (a:At):List Value:=[.int .i64 (rankR rs a.vals).1,.int .i64 (rankR rs a.vals).2]
theorem rkC_len (rs:List Rl) (a:At):(rkC rs a).length=2:=rfl
theorem grown_cell {w w':World} {row:Option Nat} {p:Addr} {v:Value} (h:w.grownBy w' row) (hc:w.cell? p=some v) (hne:row≠some p.block):w'.cell? p=some v:=by
 have:=h.block p.block (World.block_lt_of_cell? _ _ hc) (fun e=>hne e.symm)
 simp only [World.cell?,this]
 exact hc
theorem grown_frozen {w w':World} {row:Option Nat} {p:Addr} {v:Value} (h:w.grownBy w' row) (hc:w.cell? p=some v) (hne:row≠some p.block):w'.frozen? p=w.frozen? p:=
 frozen_block (h.block p.block (World.block_lt_of_cell? _ _ hc) (fun e=>hne e.symm))
theorem rankInfo:(Tryz.prog.info? 59).map (fun i=>(i.zero,i.size,i.bytes))=some (some (.agg #[.int .i64 0,.int .i64 0]),2,16):=by kernel_rfl
/-- What Order holds: the indices, the ranks, the variable of the ranks, the policy's box, and one box more. -/
structure OMem (w:World) (base RV PB AB:Nat) (pv av:Value) (rs:List Rl) (ls:List At) (jo jr:Nat) (vo vr vv:Value) (W:World):Prop where
 out:W.ownsRow base 3 1 vo jo ((List.range jo).map natV)
 rks:W.ownsRow base 59 2 vr jr ((ls.take jr).flatMap (rkC rs))
 apart:∀ g,vo.ownBlock=some g→vr.ownBlock≠some g
 rv:W.cell? ⟨RV,0,none⟩=some vv
 rvf:W.frozen? ⟨RV,0,none⟩=false
 pb:W.cell? ⟨PB,0,none⟩=some pv
 ab:W.cell? ⟨AB,2,none⟩=some av
 abo:vo.ownBlock≠some AB
 abr:vr.ownBlock≠some AB
 rvo:RV≠AB
 below:Below w.heap.size w W
 size:base≤W.heap.size
 lo:w.heap.size≤PB∧PB<base∧w.heap.size≤RV∧RV<base∧w.heap.size≤base∧PB≠RV
section
variable {w:World} {base RV PB AB:Nat} {pv av:Value} {rs:List Rl} {ls:List At} {jo jr:Nat} {vo vr vv:Value} {W W':World}
theorem OMem.next (h:OMem w base RV PB AB pv av rs ls jo jr vo vr vv W) (hb:Below W.heap.size W W'):OMem w base RV PB AB pv av rs ls jo jr vo vr vv W':=
 ⟨own_next h.out hb,own_next h.rks hb,h.apart,(hb.cell (p:=⟨RV,0,none⟩) (World.block_lt_of_cell? _ _ h.rv)).trans h.rv,(hb.frozen (p:=⟨RV,0,none⟩) (World.block_lt_of_cell? _ _ h.rv)).trans h.rvf,(hb.cell (p:=⟨PB,0,none⟩) (World.block_lt_of_cell? _ _ h.pb)).trans h.pb,
  (hb.cell (p:=⟨AB,2,none⟩) (World.block_lt_of_cell? _ _ h.ab)).trans h.ab,h.abo,h.abr,h.rvo,h.below.trans (hb.mono h.below.size),Nat.le_trans h.size hb.size,h.lo⟩
theorem OMem.drew (h:OMem w base RV PB AB pv av rs ls jo jr vo vr vv W):OMem w base RV PB AB pv av rs ls jo jr vo vr vv W.drew:=
 h.next ⟨rfl,rfl,rfl,Nat.le_refl _,fun _ _=>rfl⟩
/-- Another box. -/
theorem OMem.box (h:OMem w base RV PB AB pv av rs ls jo jr vo vr vv W) {AB':Nat} {av':Value} (hc:W.cell? ⟨AB',2,none⟩=some av') (ho:vo.ownBlock≠some AB') (hr:vr.ownBlock≠some AB') (hv:RV≠AB'):OMem w base RV PB AB' pv av' rs ls jo jr vo vr vv W:=
 ⟨h.out,h.rks,h.apart,h.rv,h.rvf,h.pb,hc,ho,hr,hv,h.below,h.size,h.lo⟩
theorem OMem.run_out (h:OMem w base RV PB AB pv av rs ls jo jr vo vr vv W) (hj:jo≤12) (ty:TypeId):∃ v2 W2,(Builtin.append_ #[36,36] ty #[vo,.slice (some ⟨W.heap.size,0,none⟩) 1 1]).run Tryz.prog (W.alloc (.cells #[natV jo] 3))=.ok v2 W2∧OMem w base RV PB AB pv av rs ls (jo+1) jr v2 vr vv W2:=by
 obtain ⟨i0,hi,hz0,hz1,hz2⟩:=info_parts intInfo
 have h1:=h.next (below_alloc W (.cells #[natV jo] 3))
 obtain ⟨v2,W2,hrun,hown,hg,-,hob⟩:=run_append_own_at (P:=Tryz.prog) (w:=W.alloc (.cells #[natV jo] 3)) base 36 ty 3 i0 (.int .i64 0) 1 8 Tryz.underlying36 hi hz0 hz1 hz2 rfl (by omega) vo jo _ h1.out ⟨W.heap.size,0,none⟩ 1 1 [natV jo] rfl (bx_add (bx_new W #[natV jo] 3)) (by simp [Value.oneCell',natV]) (by unfold maxLen; omega) (by omega) h1.size
 have hlo:=h.lo
 have hrow:∀ k,k<base→vo.ownBlock≠some k:=fun k hk e=>by have:=World.ownsRow.lt h1.out k e; omega
 have hsz:W.heap.size+1=(W.alloc (.cells #[natV jo] 3)).heap.size:=by simp
 refine ⟨v2,W2,hrun,by rw [List.range_succ,List.map_append]; exact hown,World.ownsRow.kept h1.rks hg ?_,fun g hg2=>?_,grown_cell hg h1.rv (hrow RV (by omega)),(grown_frozen hg h1.rv (hrow RV (by omega))).trans h1.rvf,grown_cell hg h1.pb (hrow PB (by omega)),grown_cell hg h1.ab h.abo,?_,h.abr,h.rvo,?_,Nat.le_trans h1.size hg.size,h.lo⟩
 ·cases hv:vr.ownBlock with
  | none=>exact .inl rfl
  | some g=>exact .inr (fun e=>h.apart g e.symm (by rw [hv]))
 ·rcases hob with e | e
  ·rw [e] at hg2; exact h.apart g hg2
  ·rw [e] at hg2
   injection hg2 with hg2
   intro e2
   have:=World.ownsRow.lt h1.rks g e2
   omega
 ·rcases hob with e | e
  ·rw [e]; exact h.abo
  ·rw [e]
   intro e2
   injection e2 with e2
   have:=World.block_lt_of_cell? _ _ h1.ab
   simp only at this
   omega
 ·exact h1.below.grown hg h1.below.size (fun g e=>by have:=World.ownsRow.lt h1.out g e; omega)
theorem OMem.run_rks (h:OMem w base RV PB AB pv av rs ls jo jr vo vr vv W) (hj:jr≤12) (hl:jr<ls.length) (ty:TypeId):∃ v2 W2,(Builtin.append_ #[57,57] ty #[vr,.slice (some ⟨W.heap.size,0,none⟩) 1 1]).run Tryz.prog (W.alloc (.cells #[.int .i64 (rankR rs ls[jr].vals).1,.int .i64 (rankR rs ls[jr].vals).2] 59))=.ok v2 W2∧OMem w base RV PB AB pv av rs ls jo (jr+1) vo v2 vv W2:=by
 obtain ⟨i0,hi,hz0,hz1,hz2⟩:=info_parts rankInfo
 have h1:=h.next (below_alloc W (.cells #[.int .i64 (rankR rs ls[jr].vals).1,.int .i64 (rankR rs ls[jr].vals).2] 59))
 obtain ⟨v2,W2,hrun,hown,hg,-,hob⟩:=run_append_own_at (P:=Tryz.prog) (w:=W.alloc (.cells #[.int .i64 (rankR rs ls[jr].vals).1,.int .i64 (rankR rs ls[jr].vals).2] 59)) base 57 ty 59 i0 (.agg #[.int .i64 0,.int .i64 0]) 2 16 Tryz.underlying57 hi hz0 hz1 hz2 rfl (by omega) vr jr _ h1.rks ⟨W.heap.size,0,none⟩ 1 1 (rkC rs ls[jr]) rfl (bx_add (bx_new W #[.int .i64 (rankR rs ls[jr].vals).1,.int .i64 (rankR rs ls[jr].vals).2] 59)) (by simp [Value.oneCell',rkC]) (by unfold maxLen; omega) (by omega) h1.size
 have hlo:=h.lo
 have hrow:∀ k,k<base→vr.ownBlock≠some k:=fun k hk e=>by have:=World.ownsRow.lt h1.rks k e; omega
 have hsz:W.heap.size+1=(W.alloc (.cells #[.int .i64 (rankR rs ls[jr].vals).1,.int .i64 (rankR rs ls[jr].vals).2] 59)).heap.size:=by simp
 refine ⟨v2,W2,hrun,World.ownsRow.kept h1.out hg ?_,?_,fun g hg2=>?_,grown_cell hg h1.rv (hrow RV (by omega)),(grown_frozen hg h1.rv (hrow RV (by omega))).trans h1.rvf,grown_cell hg h1.pb (hrow PB (by omega)),grown_cell hg h1.ab h.abr,h.abo,?_,h.rvo,?_,Nat.le_trans h1.size hg.size,h.lo⟩
 ·cases hv:vo.ownBlock with
  | none=>exact .inl rfl
  | some g=>exact .inr (fun e=>h.apart g hv e.symm)
 ·rw [List.take_add_one,List.getElem?_eq_getElem hl,List.flatMap_append]
  simpa using hown
 ·rcases hob with e | e
  ·rw [e]; exact h.apart g hg2
  ·rw [e]
   intro e2
   injection e2 with e2
   have:=World.ownsRow.lt h1.out g hg2
   omega
 ·rcases hob with e | e
  ·rw [e]; exact h.abr
  ·rw [e]
   intro e2
   injection e2 with e2
   have:=World.block_lt_of_cell? _ _ h1.ab
   simp only at this
   omega
 ·exact h1.below.grown hg h1.below.size (fun g e=>by have:=World.ownsRow.lt h1.rks g e; omega)
theorem own_set {W:World} {base size n:Nat} {e:TypeId} {v u:Value} {xs:List Value} (h:W.ownsRow base e size v n xs) {p:Addr} (hp:p.block<base):(W.setCell p u).ownsRow base e size v n xs:=by
 refine ⟨h.1,?_⟩
 rcases h.2 with hn | ⟨g,cap,cur,rfl,hb,hg,rest⟩
 ·exact .inl hn
 ·exact .inr ⟨g,cap,cur,rfl,hb,by rw [heap_setCell_other _ _ _ _ (by omega)]; exact hg,rest⟩
/-- The variable of the ranks is stored. -/
theorem OMem.store (h:OMem w base RV PB AB pv av rs ls jo jr vo vr vv W) (u:Value):OMem w base RV PB AB pv av rs ls jo jr vo vr u (W.setCell ⟨RV,0,none⟩ u):=by
 have hlo:=h.lo
 refine ⟨own_set h.out (p:=⟨RV,0,none⟩) (by show RV<base; omega),own_set h.rks (p:=⟨RV,0,none⟩) (by show RV<base; omega),h.apart,World.cell?_setCell_same _ _ _ h.rv,by rw [World.frozen?_setCell]; exact h.rvf,(World.cell?_setCell_far _ _ _ _ (by show RV≠PB; omega)).trans h.pb,(World.cell?_setCell_far _ _ _ _ h.rvo).trans h.ab,h.abo,h.abr,h.rvo,h.below.setCell (p:=⟨RV,0,none⟩) (by show w.heap.size≤RV; omega) _,by simpa using h.size,h.lo⟩
end
end Go.Proofs.YtedpopbaipnamaaGreatDoor

namespace Go.Proofs.YtedpopbaipnamaaGreatDoor
open Go.ChangeShapes Go.WideShapes Go.ChangeAt Go.RowKit Go.Deep

section
variable {H:Type} {enc:TypeId × Value→H} {P:Program}

theorem trodAll_stays (hl:laidOutB P=true) {W W':World} {sp:Nat→Bool} (hb:Below W.heap.size W W') :
  ∀ {ts:List TypeId} {vs:List Value} {ds:List (DataW H)} {p:List MemPlace},(∀ t∈ts,P.readableRec t=true∧t<P.types.size) →
   DataW.TrodAll enc P W 0 (fun _=>true) true ts vs ds p→(∀ x∈p,x.block<W.heap.size)→(∀ x∈p,sp x.block=true)→DataW.TrodAll enc P W' 0 sp true ts vs ds p
 | [],_,_,_,_,h,_,_=>by
  obtain ⟨rfl,rfl,rfl⟩:=trodAll_nil h
  exact trodAll_mk0
 | t::ts,_,_,_,hr,h,hlt,hs=>by
  obtain ⟨v,vs1,d,ds1,a,b,rfl,rfl,rfl,h1,h2⟩:=trodAll_cons h
  have ht:=hr t (by simp)
  refine ⟨a,b,Go.WideElems.Trod_stays hl ht.1 ht.2 h1 (fun x hx=>hb.same (hlt x (by simp [hx]))) (fun x hx=>hs x (by simp [hx])),trodAll_stays hl hb (fun t h=>hr t (by simp [h])) h2 (fun x hx=>hlt x (by simp [hx])) (fun x hx=>hs x (by simp [hx])),rfl⟩

/-- THE POST OF A LAW, from 'it returned true' and 'what lay below the heap's end is as it was'. -/
theorem post_law {f:Func} {s:ChangeSpec} {apart fresh handsOn again:Bool} {W W':World} {args:Array Value} {ds gs:List (DataW H)} {before:List MemPlace} {tb:TypeId}
  (hl:laidOutB P=true) (hr:∀ t∈f.params.toList,P.readableRec t=true∧t<P.types.size) (hv:s.vars=[])
  (hrt:f.resultTypes=#[tb]) (htb:P.underlying tb=some .bool)
  (hW:DataW.Whole enc P f.params.toList s.vars apart W args.toList ds gs before)
  (hres:(s.fn H (ds++gs)).results=[.lit (.bool true)]) (hargs:(s.fn H (ds++gs)).args=ds) (hvars:(s.fn H (ds++gs)).vars=[])
  (hb:Below W.heap.size W W'):s.post enc P f apart fresh handsOn again W args (.bool true) W':=by
 have hlt:=hW.lt
 have hW0:=hW
 obtain ⟨p,q,hA,hV,rfl,hz,hn⟩:=hW
 rw [hv] at hV
 obtain ⟨rfl,rfl⟩:=trodVars_none hV
 rw [List.append_nil] at hlt hz hn
 have hR:∀ (b:Nat) (sp:Nat→Bool) (hd:Bool),DataW.TrodAll enc P W' b sp hd f.resultTypes.toList ((Value.bool true).resultList f.resultTypes.size) (s.fn H (ds++[])).results []:=by
  intro b sp hd
  rw [hres,hrt]
  exact trodAll_cons_mk (shut_bool htb _) trodAll_mk0
 have hA':∀ sp:Nat→Bool,(∀ x∈p,sp x.block=true)→DataW.TrodAll enc P W' 0 sp true f.params.toList args.toList (s.fn H (ds++[])).args p:=by
  intro sp hs
  rw [hargs]
  exact trodAll_stays hl hb hr hA hlt hs
 have hV':∀ sp,DataW.TrodVars enc P W' sp s.vars (s.fn H (ds++[])).vars []:=by
  intro sp
  rw [hvars,hv]
  rfl
 refine ⟨ds,[],p++[],[],p,[],hW0,hR _ _ _,hA' _ (fun x hx=>by simpa using hlt x hx),hV' _,hb.frame _,fun _=>⟨?_,_,_,[]++p,⟨[]++p,[],trodAll_append (hA' _ (fun _ _=>rfl)) (hR _ _ _),hV' _,by simp,?_,?_⟩,?_⟩⟩
 ·exact ok_one hrt rfl (okWide_bool_mk htb _)
 ·intro b off hp
  have hp':MemPlace.cell b off∈p:=by simpa using hp
  rw [hb.frozen (hlt _ hp')]
  exact hz b off hp'
 ·intro ha
  simpa using hn ha
 ·intro x hx _
  simpa using hx


/-- A SLICE OPENED: its elements' cells are those of some things. -/
theorem open_rows {α:Type} [Inhabited α] {W:World} {t e:TypeId} {s:Nat} {cells:α→List Value} {Q:α→Prop} (ht:P.underlying t=some (.slice e)) (hs:P.cellsOf e=s) (hc:∀ x,(cells x).length=s) (hpos:0<s)
  (each:∀ (fuel:Nat) (cs:List Value) (x:DataW H × List MemPlace),cs.length=s→DataW.trod enc P W 0 (fun _=>true) true fuel e cs=some x→∃ y,cs=cells y∧Q y)
  {fuel:Nat} {cs:List Value} {x:DataW H × List MemPlace} (h:DataW.trod enc P W 0 (fun _=>true) true fuel t cs=some x) :
  ∃ (A:Option Addr) (c:Nat) (l:List α),cs=[.slice A l.length c]∧Rd W W.heap.size s A l.length (l.flatMap cells)∧l.length≤c∧l.length≤maxLen∧∀ y∈l,Q y:=by
 rcases open_slice ht h with ⟨rfl,-⟩ | ⟨a,len,cap,m,n,D,Pl,rfl,-,hl,hm,hmm,-,hx⟩
 ·exact ⟨none,0,[],rfl,Rd.nil_,Nat.le_refl _,by simp,by simp⟩
 ·have hall:∀ i,i<len→∃ y:α,(∀ j,j<s→W.cell? (a.add (i * s+j))=(cells y)[j]?)∧Q y:=by
   intro i hi
   obtain ⟨cs',h1,h2⟩:=hx i (by rw [if_pos rfl] at hmm; omega)
   rw [hs] at h1
   obtain ⟨-,hlen,hcell⟩:=World.cells?_some h1
   obtain ⟨y,rfl,hy⟩:=each _ _ _ hlen h2
   exact ⟨y,fun j hj=>by have:=hcell j hj; rwa [add_add] at this,hy⟩
  obtain ⟨F,hF⟩:=choose_lt hall
  have hlen:((List.range len).map F).length=len:=by simp
  refine ⟨some a,cap,(List.range len).map F,by rw [hlen],?_,by rw [hlen]; exact hl,by rw [hlen]; exact Nat.le_trans hl hm,?_⟩
  ·refine ⟨flat_len hc _,?_⟩
   by_cases h0:len=0
   ·left; rw [hlen]; exact h0
   ·right
    have hf0:∃ u,W.cell? a=some u:=by
     have:=(hF 0 (by omega)).1 0 hpos
     rw [List.getElem?_eq_getElem (by rw [hc]; exact hpos)] at this
     exact ⟨_,by simpa [Addr.add] using this⟩
    obtain ⟨u0,hc0⟩:=hf0
    obtain ⟨b,off,spot⟩:=a
    have hsp:spot=none:=by
     simp only [World.cell?] at hc0
     split at hc0
     ·split at hc0
      ·cases hc0
      ·rename_i hs; simpa using hs
     ·cases hc0
    subst hsp
    refine ⟨b,off,rfl,block_lt_of_cell hc0,fun j u hu=>?_⟩
    have hj:j<len * s:=by
     rcases Nat.lt_or_ge j (len * s) with h9 | h9
     ·exact h9
     ·rw [List.getElem?_eq_none (by rw [flat_len hc,hlen]; omega)] at hu; cases hu
    have hjs:j % s<s:=Nat.mod_lt _ hpos
    have hjd:j / s<len:=Nat.div_lt_of_lt_mul (by rw [Nat.mul_comm]; exact hj)
    have hi:=(hF (j / s) hjd).1 (j % s) hjs
    have e1:j / s * s+j % s=j:=by rw [Nat.mul_comm]; exact Nat.div_add_mod j s
    have hfa:=flat_at hc ((List.range len).map F) (j / s) (by rw [hlen]; exact hjd) (j % s) hjs
    rw [e1] at hi hfa
    rw [hfa] at hu
    rw [add_plain] at hi
    rw [hi,← hu]
    simp
  ·intro y hy
   obtain ⟨i,hi,rfl⟩:=List.mem_map.1 hy
   exact (hF i (List.mem_range.1 hi)).2
end

section
variable {H:Type} {enc:TypeId × Value→H} {P:Program}
/-- A slice opened: its elements' cells, each of less fuel. -/
theorem open_cells {α:Type} [Inhabited α] {W:World} {t e:TypeId} {s:Nat} {Q:List Value→α→Prop} (ht:P.underlying t=some (.slice e)) (hs:P.cellsOf e=s) (hpos:0<s) {fuel:Nat}
  (each:∀ (f:Nat) (cs:List Value) (x:DataW H × List MemPlace),f<fuel→cs.length=s→DataW.trod enc P W 0 (fun _=>true) true f e cs=some x→∃ y,Q cs y)
  {cs:List Value} {x:DataW H × List MemPlace} (h:DataW.trod enc P W 0 (fun _=>true) true fuel t cs=some x) :
  ∃ (A:Option Addr) (c len:Nat) (F:Nat→List Value × α),cs=[.slice A len c]∧len≤c∧len≤maxLen∧(len=0∨∃ b off:Nat,A=some ⟨b,off,none⟩∧b<W.heap.size∧∀ i,i<len→∀ j u,(F i).1[j]? = some u→W.cell? ⟨b,off+i * s+j,none⟩=some u) ∧
   ∀ i,i<len→(F i).1.length=s∧Q (F i).1 (F i).2:=by
 rcases DataW.trod_slice ht h with ⟨rfl,-⟩ | ⟨a,len,cap,elems,rest,n,hf,rfl,-,-,hl,hm,hlen,hel,-,-⟩
 ·exact ⟨none,0,0,fun _=>([],default),rfl,Nat.le_refl _,by simp,.inl rfl,fun i hi=>absurd hi (by omega)⟩
 ·have hall:∀ i,i<len→∃ y:List Value × α,(y.1.length=s∧∀ j,j<s→W.cell? (a.add (i * s+j))=y.1[j]?)∧Q y.1 y.2:=by
   intro i hi
   have key:=hel i hi
   rw [List.getElem?_eq_getElem (by omega)] at key
   obtain ⟨cs',h1,h2⟩:=Option.bind_eq_some_iff.1 key
   rw [hs] at h1
   obtain ⟨-,hln,hcell⟩:=World.cells?_some h1
   obtain ⟨y,hy⟩:=each n _ _ (by omega) hln h2
   exact ⟨(cs',y),⟨hln,fun j hj=>by have:=hcell j hj; rwa [add_add] at this⟩,hy⟩
  obtain ⟨F,hF⟩:=choose_lt hall
  refine ⟨some a,cap,len,F,rfl,hl,Nat.le_trans hl hm,?_,fun i hi=>⟨(hF i hi).1.1,(hF i hi).2⟩⟩
  by_cases h0:len=0
  ·exact .inl h0
  ·right
   have hf0:∃ u,W.cell? a=some u:=by
    have h2:=(hF 0 (by omega)).1
    have:=h2.2 0 hpos
    rw [List.getElem?_eq_getElem (by rw [h2.1]; exact hpos)] at this
    exact ⟨_,by simpa [Addr.add] using this⟩
   obtain ⟨u0,hc0⟩:=hf0
   obtain ⟨b,off,spot⟩:=a
   have hsp:spot=none:=by
    simp only [World.cell?] at hc0
    split at hc0
    ·split at hc0
     ·cases hc0
     ·rename_i hs; simpa using hs
    ·cases hc0
   subst hsp
   refine ⟨b,off,rfl,block_lt_of_cell hc0,fun i hi j u hu=>?_⟩
   have h2:=(hF i hi).1
   have hj:j<s:=by
    rcases Nat.lt_or_ge j s with h9 | h9
    ·exact h9
    ·rw [List.getElem?_eq_none (by rw [h2.1]; exact h9)] at hu; cases hu
   have:=h2.2 j hj
   rw [add_plain] at this
   rw [Nat.add_assoc,this,hu]
end
section
variable {H:Type} {enc:TypeId × Value→H} {W:World}
instance oppEx:Inhabited Ex:=⟨.mk 0 0 ByteArray.empty 0 []⟩
instance oppRl:Inhabited Rl:=⟨⟨default,default⟩⟩
instance oppBd:Inhabited Bd:=⟨⟨ByteArray.empty,0,0⟩⟩
instance oppAt:Inhabited At:=⟨⟨0,0,[]⟩⟩
theorem getD_map {α:Type} (f:Nat→α) {n i:Nat} (h:i<n):((List.range n).map f)[i]'(by simpa using h)=f i:=by simp
set_option maxRecDepth 100000 in
theorem open_expr:∀ (fuel:Nat) {cs:List Value} {x:DataW H × List MemPlace},cs.length=5→DataW.trod enc Tryz.prog W 0 (fun _=>true) true fuel 45 cs=some x→∃ e,LiesE W W.heap.size cs e:=by
 intro fuel
 induction fuel using Nat.strongRecOn with
 | _ fuel ih=>
  intro cs x hl h
  obtain ⟨xs,k,hk,-,-,hxl,hf⟩:=DataW.trod_struct Tryz.underlying45 h
  match xs,hxl,cs,hl with
  | [y0,y1,y2,y3,y4],_,[v0,v1,v2,v3,v4],_=>
   have g0:=hf 0 _ rfl
   have g1:=hf 1 _ rfl
   have g2:=hf 2 _ rfl
   have g3:=hf 3 _ rfl
   have g4:=hf 4 _ rfl
   obtain ⟨n0,e0,-,b0⟩:=DataW.trod_int Tryz.underlying3 (show DataW.trod enc Tryz.prog W 0 (fun _=>true) true k 3 [v0]=some y0 from g0)
   obtain ⟨n1,e1,-,b1⟩:=DataW.trod_int Tryz.underlying3 (show DataW.trod enc Tryz.prog W 0 (fun _=>true) true k 3 [v1]=some y1 from g1)
   obtain ⟨n2,e2,-,b2⟩:=DataW.trod_string Tryz.underlying9 (show DataW.trod enc Tryz.prog W 0 (fun _=>true) true k 9 [v2]=some y2 from g2)
   obtain ⟨n3,e3,-,b3⟩:=DataW.trod_int Tryz.underlying3 (show DataW.trod enc Tryz.prog W 0 (fun _=>true) true k 3 [v3]=some y3 from g3)
   obtain ⟨A,c,len,F,e4,hlc,hlm,hA,hq⟩:=open_cells (s:=5) (Q:=LiesE W W.heap.size) Tryz.underlying43 (by kernel_rfl) (by omega) (fun f cs x hlt hl h=>ih f (by omega) hl h) (show DataW.trod enc Tryz.prog W 0 (fun _=>true) true k 43 [v4]=some y4 from g4)
   simp only [List.cons.injEq,and_true] at e0 e1 e2 e3 e4
   subst e0 e1 e2 e3 e4
   have hlen:((List.range len).map fun i=>(F i).2).length=len:=by simp
   have key:=LiesE.mk (w:=W) (B:=W.heap.size) n0 n1 n2 n3 A c ((List.range len).map fun i=>(F i).2) (fun i=>(F i).1) ⟨bounds_i64 b0,bounds_i64 b1,bounds_i64 b3,by unfold maxLen at b2; omega,by rw [hlen]; unfold maxLen at hlm; omega,by rw [hlen]; exact hlc⟩
    (by rw [hlen]; exact hA) (fun i hi=>by rw [getD_map (fun i=>(F i).2) (by rw [← hlen]; exact hi)]; exact (hq i (by rw [← hlen]; exact hi)).2)
   rw [hlen] at key
   exact ⟨_,key⟩
def RuleQ (W:World) (cs:List Value) (r:Rl):Prop:=∃ (k o:Int) (n:ByteArray) (v:Int) (A1:Option Addr) (m1 c1:Nat) (k2 o2:Int) (n2:ByteArray) (v2:Int) (A2:Option Addr) (m2 c2:Nat),cs=exC k o n v A1 m1 c1++exC k2 o2 n2 v2 A2 m2 c2∧LiesE W W.heap.size (exC k o n v A1 m1 c1) r.cond∧LiesE W W.heap.size (exC k2 o2 n2 v2 A2 m2 c2) r.key
set_option maxRecDepth 100000 in
theorem open_rule {fuel:Nat} {cs:List Value} {x:DataW H × List MemPlace} (hl:cs.length=10) (h:DataW.trod enc Tryz.prog W 0 (fun _=>true) true fuel 47 cs=some x):∃ r,RuleQ W cs r:=by
 obtain ⟨xs,k,-,-,-,hxl,hf⟩:=DataW.trod_struct Tryz.underlying47 h
 match xs,hxl,cs,hl with
 | [y0,y1],_,[v0,v1,v2,v3,v4,v5,v6,v7,v8,v9],_=>
  have g0:=hf 0 _ rfl
  have g1:=hf 1 _ rfl
  obtain ⟨e0,h0⟩:=open_expr k (cs:=[v0,v1,v2,v3,v4]) rfl (show DataW.trod enc Tryz.prog W 0 (fun _=>true) true k 45 [v0,v1,v2,v3,v4]=some y0 from g0)
  obtain ⟨e1,h1⟩:=open_expr k (cs:=[v5,v6,v7,v8,v9]) rfl (show DataW.trod enc Tryz.prog W 0 (fun _=>true) true k 45 [v5,v6,v7,v8,v9]=some y1 from g1)
  obtain ⟨A0,c0,-,q0,-⟩:=h0.form
  obtain ⟨A1,c1,-,q1,-⟩:=h1.form
  rw [q0] at h0
  rw [q1] at h1
  refine ⟨⟨e0,e1⟩,_,_,_,_,_,_,_,_,_,_,_,_,_,_,?_,h0,h1⟩
  rw [← q0,← q1]
  rfl
set_option maxRecDepth 100000 in
/-- A SLICE OF RULES. -/
theorem open_rules {fuel:Nat} {cs:List Value} {x:DataW H × List MemPlace} (h:DataW.trod enc Tryz.prog W 0 (fun _=>true) true fuel 22 cs=some x) :
  ∃ (A:Option Addr) (c:Nat) (rs:List Rl),cs=[.slice A rs.length c]∧LiesP W W.heap.size A c rs:=by
 obtain ⟨A,c,len,F,rfl,hlc,hlm,hA,hq⟩:=open_cells (s:=10) (Q:=RuleQ W) Tryz.underlying22 (by kernel_rfl) (by omega) (fun f cs x _ hl h=>open_rule hl h) h
 have hlen:((List.range len).map fun i=>(F i).2).length=len:=by simp
 refine ⟨A,c,(List.range len).map fun i=>(F i).2,by rw [hlen],by rw [hlen]; unfold maxLen at hlm; omega,by rw [hlen]; exact hlc,fun i hi=>?_⟩
 have hi':i<len:=by rw [← hlen]; exact hi
 rw [getD_map (fun i=>(F i).2) hi']
 obtain ⟨k,o,n,v,A1,m1,c1,k2,o2,n2,v2,A2,m2,c2,e,h1,h2⟩:=(hq i hi').2
 rcases hA with h0 | ⟨b,off,rfl,hb,hc⟩
 ·omega
 ·have hcc:=hc i hi'
  rw [e] at hcc
  exact ⟨b,off,k,o,n,v,A1,m1,c1,k2,o2,n2,v2,A2,m2,c2,rfl,hb,h1,h2,hcc 0 _ rfl,hcc 1 _ rfl,hcc 2 _ rfl,hcc 3 _ rfl,hcc 4 _ rfl,hcc 5 _ rfl,hcc 6 _ rfl,hcc 7 _ rfl,hcc 8 _ rfl,hcc 9 _ rfl⟩
set_option maxRecDepth 100000 in
/-- AN ARGUMENT OF TYPE api.Policy. -/
theorem open_pol {v:Value} {d:DataW H} {ps:List MemPlace} {b0:Nat} (hval:Value.okWide Tryz.prog W .any b0 24 v) (h:DataW.Trod enc Tryz.prog W 0 (fun _=>true) true 24 v d ps) :
  ∃ (A:Option Addr) (c:Nat) (rs:List Rl),v=.agg #[.slice A rs.length c]∧LiesP W W.heap.size A c rs:=by
 obtain ⟨cs,rfl,hsz⟩:=okWide_struct Tryz.underlying24 hval
 have hsz1:cs.size=1:=hsz.trans (by kernel_rfl)
 obtain ⟨c0,rfl⟩:∃ c0,cs=#[c0]:=Array.size_eq_one_iff.1 hsz1
 obtain ⟨fuel,hf⟩:=h
 obtain ⟨xs,k,-,-,-,hxl,hfs⟩:=DataW.trod_struct Tryz.underlying24 hf
 match xs,hxl with
 | [y0],_=>
  have g0:=hfs 0 _ rfl
  obtain ⟨A,c,rs,e0,hP⟩:=open_rules (show DataW.trod enc Tryz.prog W 0 (fun _=>true) true k 22 [c0]=some y0 from g0)
  simp only [List.cons.injEq,and_true] at e0
  subst e0
  exact ⟨A,c,rs,rfl,hP⟩
set_option maxRecDepth 100000 in
theorem open_bd {fuel:Nat} {cs:List Value} {x:DataW H × List MemPlace} (hl:cs.length=3) (h:DataW.trod enc Tryz.prog W 0 (fun _=>true) true fuel 50 cs=some x):∃ y:Bd,cs=y.cells∧True:=by
 obtain ⟨xs,k,-,-,-,hxl,hf⟩:=DataW.trod_struct Tryz.underlying50 h
 match xs,hxl,cs,hl with
 | [y0,y1,y2],_,[v0,v1,v2],_=>
  have g0:=hf 0 _ rfl
  obtain ⟨n0,e0,-,-⟩:=DataW.trod_string Tryz.underlying9 (show DataW.trod enc Tryz.prog W 0 (fun _=>true) true k 9 [v0]=some y0 from g0)
  have g1:=hf 1 _ rfl
  obtain ⟨n1,e1,-,-⟩:=DataW.trod_int Tryz.underlying3 (show DataW.trod enc Tryz.prog W 0 (fun _=>true) true k 3 [v1]=some y1 from g1)
  have g2:=hf 2 _ rfl
  obtain ⟨n2,e2,-,-⟩:=DataW.trod_int Tryz.underlying3 (show DataW.trod enc Tryz.prog W 0 (fun _=>true) true k 3 [v2]=some y2 from g2)
  simp only [List.cons.injEq,and_true] at e0 e1 e2
  subst e0 e1 e2
  exact ⟨⟨n0,n1,n2⟩,rfl,trivial⟩
def AtQ (W:World) (cs:List Value) (a:At):Prop:=∃ (A:Option Addr) (c:Nat),cs=[.int .i64 a.task,.int .i64 a.case_,.slice A a.vals.length c]∧RdB W W.heap.size A a.vals∧a.vals.length≤9223372036854775807
set_option maxRecDepth 100000 in
theorem open_att {fuel:Nat} {cs:List Value} {x:DataW H × List MemPlace} (hl:cs.length=3) (h:DataW.trod enc Tryz.prog W 0 (fun _=>true) true fuel 32 cs=some x):∃ y,AtQ W cs y:=by
 obtain ⟨xs,k,-,-,-,hxl,hf⟩:=DataW.trod_struct Tryz.underlying32 h
 match xs,hxl,cs,hl with
 | [y0,y1],_,[v0,v1,v2],_=>
  have g0:=hf 0 _ rfl
  obtain ⟨zs,k2,-,-,-,hzl,hz⟩:=DataW.trod_struct Tryz.underlying29 (show DataW.trod enc Tryz.prog W 0 (fun _=>true) true k 29 [v0,v1]=some y0 from g0)
  match zs,hzl with
  | [z0,z1],_=>
   have u0:=hz 0 _ rfl
   obtain ⟨n0,e0,-,-⟩:=DataW.trod_int Tryz.underlying3 (show DataW.trod enc Tryz.prog W 0 (fun _=>true) true k2 3 [v0]=some z0 from u0)
   have u1:=hz 1 _ rfl
   obtain ⟨n1,e1,-,-⟩:=DataW.trod_int Tryz.underlying3 (show DataW.trod enc Tryz.prog W 0 (fun _=>true) true k2 3 [v1]=some z1 from u1)
   have g1:=hf 1 _ rfl
   obtain ⟨A,c,l,e2,hr,hlc,hlm,-⟩:=open_rows (s:=3) (cells:=Bd.cells) (Q:=fun _=>True) Tryz.underlying30 (by kernel_rfl) (fun _=>rfl) (by omega) (fun _ _ _=>open_bd) (show DataW.trod enc Tryz.prog W 0 (fun _=>true) true k 30 [v2]=some y1 from g1)
   simp only [List.cons.injEq,and_true] at e0 e1 e2
   subst e0 e1 e2
   exact ⟨⟨n0,n1,l⟩,A,c,rfl,hr,by unfold maxLen at hlm; exact hlm⟩
set_option maxRecDepth 100000 in
/-- AN ARGUMENT OF TYPE []api.Attributes. -/
theorem open_atts {v:Value} {d:DataW H} {ps:List MemPlace} {b0:Nat} (hval:Value.okWide Tryz.prog W .any b0 25 v) (h:DataW.Trod enc Tryz.prog W 0 (fun _=>true) true 25 v d ps) :
  ∃ (A:Option Addr) (c:Nat) (ls:List At),v=.slice A ls.length c∧LiesA W W.heap.size A c ls:=by
 obtain ⟨A,len,cap,rfl⟩:=okWide_slice Tryz.underlying25 hval
 obtain ⟨fuel,hf⟩:=h
 obtain ⟨A,c,len,F,e0,hlc,hlm,hA,hq⟩:=open_cells (s:=3) (Q:=AtQ W) Tryz.underlying25 (by kernel_rfl) (by omega) (fun f cs x _ hl h=>open_att hl h) hf
 simp only [Value.cells,List.cons.injEq,and_true] at e0
 injection e0 with e1 e2 e3
 subst e1 e2 e3
 have hlen:((List.range len).map fun i=>(F i).2).length=len:=by simp
 refine ⟨A,cap,(List.range len).map fun i=>(F i).2,by rw [hlen],by rw [hlen]; unfold maxLen at hlm; omega,fun i hi=>?_⟩
 have hi':i<len:=by rw [← hlen]; exact hi
 rw [getD_map (fun i=>(F i).2) hi']
 obtain ⟨A',c',e,hr,hvl⟩:=(hq i hi').2
 rcases hA with h0 | ⟨b,off,rfl,hb,hc⟩
 ·omega
 ·have hcc:=hc i hi'
  rw [e] at hcc
  exact ⟨hvl,b,off,A',c',rfl,hb,hr,hcc 0 _ rfl,hcc 1 _ rfl,hcc 2 _ rfl⟩
end
end Go.Proofs.YtedpopbaipnamaaGreatDoor

namespace Go.Proofs.YtedpopbaipnamaaGreatDoor
open Go.Shelf Go.RowKit

def bldRen:Go.Shelf.Ren:=⟨fun | 166=>34 | 167=>109 | 240=>57 | 276=>78 | n=>n,fun | 70=>77 | 72=>80 | 37=>78 | 9=>9 | 4=>4 | 5=>5 | 0=>0 | 3=>3 | 20=>20 | 75=>83 | 76=>84 | 80=>86 | 164=>130 | n=>n,fun | n=>n⟩
theorem lays167:Go.Proofs.Lays.n167 Tryz.prog bldRen:={
 mixed:=by kernel_rfl
 f167:=Tryz.func109.trans (congrArg some (by kernel_rfl))
 f240:=Tryz.func57.trans (congrArg some (by kernel_rfl))
 f276:=Tryz.func78.trans (congrArg some (by kernel_rfl))
 t0:=Tryz.underlying0
 a0:=Tryz.isAgg0
 z0:=Tryz.sizeOf0
 v0:=Tryz.zeroValue0
 t4:=Tryz.underlying4
 a4:=Tryz.isAgg4
 z4:=Tryz.sizeOf4
 v4:=Tryz.zeroValue4
 t5:=Tryz.underlying5
 a5:=Tryz.isAgg5
 z5:=Tryz.sizeOf5
 v5:=Tryz.zeroValue5
 t9:=Tryz.underlying9
 a9:=Tryz.isAgg9
 z9:=Tryz.sizeOf9
 v9:=Tryz.zeroValue9
 t20:=Tryz.underlying20
 a20:=Tryz.isAgg20
 z20:=Tryz.sizeOf20
 v20:=Tryz.zeroValue20
 t37:=Tryz.underlying78
 a37:=Tryz.isAgg78
 z37:=Tryz.sizeOf78
 v37:=Tryz.zeroValue78
 t70:=Tryz.underlying77
 a70:=Tryz.isAgg77
 z70:=Tryz.sizeOf77
 v70:=Tryz.zeroValue77
 t72:=Tryz.underlying80
 a72:=Tryz.isAgg80
 z72:=Tryz.sizeOf80
 v72:=Tryz.zeroValue80
 t75:=Tryz.underlying83
 a75:=Tryz.isAgg83
 z75:=Tryz.sizeOf83
 v75:=Tryz.zeroValue83
 t164:=Tryz.underlying130
 a164:=Tryz.isAgg130
 z164:=Tryz.sizeOf130
 v164:=Tryz.zeroValue130 }
theorem bldExtra:Builder.Extra Tryz.prog bldRen:={
 sizeBuilder:=by kernel_rfl
 liesBuilder:=by kernel_rfl
 t5:=Tryz.underlying5
 a5:=Tryz.isAgg5
 z5:=Tryz.sizeOf5
 v5:=Tryz.zeroValue5
 infoByte:=by kernel_rfl
 cellsByte:=by kernel_rfl
 sizeByte:=by kernel_rfl
 neB5:=by decide }
end Go.Proofs.YtedpopbaipnamaaGreatDoor
