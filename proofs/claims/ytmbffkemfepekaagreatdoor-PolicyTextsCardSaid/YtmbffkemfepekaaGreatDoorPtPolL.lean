/- Policies and bindings in memory; types do not hang on values. Conditions: none. -/
import Derived.Test.YtmbffkemfepekaaGreatDoorPtBase
import Derived.Test.YtmbffkemfepekaaGreatDoorPtPolM
import Derived.MapKept
namespace Go.Proofs.YtmbffkemfepekaaGreatDoor
open Go.RowKit

/-- A slice of rules. -/
structure LiesP (w:World) (B:Nat) (A:Option Addr) (c:Nat) (rs:List Rl):Prop where
 len:rs.length≤9223372036854775807
 cap:rs.length≤c
 at_:∀ (i:Nat) (h:i<rs.length),∃ (b off:Nat) (k o:Int) (n:ByteArray) (v:Int) (A1:Option Addr) (m1 c1:Nat) (k2 o2:Int) (n2:ByteArray) (v2:Int) (A2:Option Addr) (m2 c2:Nat),
  A=some ⟨b,off,none⟩∧b<B∧LiesE w B (exC k o n v A1 m1 c1) rs[i].cond∧LiesE w B (exC k2 o2 n2 v2 A2 m2 c2) rs[i].key ∧
  w.cell? ⟨b,off+i * 10,none⟩=some (.int .i64 k)∧w.cell? ⟨b,off+i * 10+1,none⟩=some (.int .i64 o)∧w.cell? ⟨b,off+i * 10+2,none⟩=some (.string n)∧w.cell? ⟨b,off+i * 10+3,none⟩=some (.int .i64 v)∧w.cell? ⟨b,off+i * 10+4,none⟩=some (.slice A1 m1 c1) ∧
  w.cell? ⟨b,off+i * 10+5,none⟩=some (.int .i64 k2)∧w.cell? ⟨b,off+i * 10+6,none⟩=some (.int .i64 o2)∧w.cell? ⟨b,off+i * 10+7,none⟩=some (.string n2)∧w.cell? ⟨b,off+i * 10+8,none⟩=some (.int .i64 v2)∧w.cell? ⟨b,off+i * 10+9,none⟩=some (.slice A2 m2 c2)
theorem LiesP.keep {w w':World} {B B' c:Nat} {A:Option Addr} {rs:List Rl} (h:LiesP w B A c rs) (hB:B≤B') (hk:∀ p:Addr,p.block<B→w'.cell? p=w.cell? p):LiesP w' B' A c rs:=by
 refine ⟨h.len,h.cap,fun i hi=>?_⟩
 obtain ⟨b,off,k,o,n,v,A1,m1,c1,k2,o2,n2,v2,A2,m2,c2,e,hb,h1,h2,x0,x1,x2,x3,x4,x5,x6,x7,x8,x9⟩:=h.at_ i hi
 exact ⟨b,off,k,o,n,v,A1,m1,c1,k2,o2,n2,v2,A2,m2,c2,e,by omega,h1.keep hB hk,h2.keep hB hk,(hk _ hb).trans x0,(hk _ hb).trans x1,(hk _ hb).trans x2,(hk _ hb).trans x3,(hk _ hb).trans x4,(hk _ hb).trans x5,(hk _ hb).trans x6,(hk _ hb).trans x7,(hk _ hb).trans x8,(hk _ hb).trans x9⟩
theorem LiesP.below' {w w':World} {B C c:Nat} {A:Option Addr} {rs:List Rl} (h:LiesP w B A c rs) (hb:Below C w w') (hC:B≤C):LiesP w' B A c rs:=h.keep (Nat.le_refl _) fun _ hp=>hb.cell (by omega)
theorem LiesP.more {w:World} {B B' c:Nat} {A:Option Addr} {rs:List Rl} (h:LiesP w B A c rs) (hB:B≤B'):LiesP w B' A c rs:=h.keep hB fun _ _=>rfl
theorem LiesP.next {w w':World} {c:Nat} {A:Option Addr} {rs:List Rl} (h:LiesP w w.heap.size A c rs) (hb:Below w.heap.size w w'):LiesP w' w'.heap.size A c rs:=(h.below' hb (Nat.le_refl _)).more hb.size

/-- The three cells of a binding. -/
def Bd.cells (b:Bd):List Value:=[.string b.name,.int .i64 b.ty,.int .i64 b.val]
/-- A slice reads as bindings. -/
def RdB (w:World) (B:Nat) (A:Option Addr) (l:List Bd):Prop:=Rd w B 3 A l.length (l.flatMap Bd.cells)
theorem flat_len {α:Type} {f:α→List Value} {s:Nat} (hs:∀ x,(f x).length=s) (l:List α):(l.flatMap f).length=l.length * s:=by
 induction l with
 | nil=>simp
 | cons x r ih=>rw [List.flatMap_cons,List.length_append,hs,ih,List.length_cons,Nat.add_mul]; omega
theorem flat_at {α:Type} {f:α→List Value} {s:Nat} (hs:∀ x,(f x).length=s):∀ (l:List α) (k:Nat) (hk:k<l.length) (j:Nat),j<s→(l.flatMap f)[k * s+j]? = (f l[k])[j]?
 | x::r,0,_,j,hj=>by
  rw [List.flatMap_cons,Nat.zero_mul,Nat.zero_add,List.getElem?_append_left (by rw [hs]; exact hj)]
  rfl
 | x::r,k+1,hk,j,hj=>by
  rw [List.flatMap_cons,List.getElem?_append_right (by rw [hs,Nat.add_mul]; omega),hs,show (k+1) * s+j - s=k * s+j from by rw [Nat.add_mul]; omega]
  exact flat_at hs r k (by simpa using hk) j hj
theorem RdB.at_ {w:World} {B:Nat} {A:Option Addr} {l:List Bd} (h:RdB w B A l) {k:Nat} (hk:k<l.length) :
  ∃ b off:Nat,A=some ⟨b,off,none⟩∧b<B∧w.cell? ⟨b,off+k * 3,none⟩=some (.string l[k].name)∧w.cell? ⟨b,off+k * 3+1,none⟩=some (.int .i64 l[k].ty)∧w.cell? ⟨b,off+k * 3+2,none⟩=some (.int .i64 l[k].val):=by
 obtain ⟨b,off,hA,hb,hc⟩:=Rd.addr h (by omega)
 have hs:∀ x:Bd,(Bd.cells x).length=3:=fun _=>rfl
 refine ⟨b,off,hA,hb,?_,?_,?_⟩
 ·have:=hc (k * 3+0) _ ((flat_at hs l k hk 0 (by omega)).trans rfl)
  simpa using this
 ·have:=hc (k * 3+1) _ ((flat_at hs l k hk 1 (by omega)).trans rfl)
  simpa [Nat.add_assoc] using this
 ·have:=hc (k * 3+2) _ ((flat_at hs l k hk 2 (by omega)).trans rfl)
  simpa [Nat.add_assoc] using this

/-! ### types do not hang on values -/
theorem fits_map {l:List Bd} (h:fits l=true):l.map (fun b=>(b.name,b.ty))=kdB.map (fun b=>(b.name,b.ty)):=by
 unfold fits at h
 rw [Bool.and_eq_true] at h
 obtain ⟨h1,h2⟩:=h
 have hl:l.length=kds.length:=by simpa [kds] using h1
 have gen:∀ (ks:List Kd) (l:List Bd),l.length=ks.length→((ks.zip l).all fun x=>fitB x.1 x.2)=true→l.map (fun b=>(b.name,b.ty))=(ks.map fun k=>(⟨k.name,k.ty,0⟩:Bd)).map (fun b=>(b.name,b.ty)):=by
  intro ks
  induction ks with
  | nil=>intro l hl _; obtain rfl:l=[]:=List.eq_nil_of_length_eq_zero (by simpa using hl); rfl
  | cons k ks ih=>
   intro l hl ha
   cases l with
   | nil=>simp at hl
   | cons b l=>
    simp only [List.zip_cons_cons,List.all_cons,Bool.and_eq_true] at ha
    simp only [List.map_cons,List.cons.injEq]
    refine ⟨?_,ih l (by simpa using hl) ha.2⟩
    have:=ha.1
    unfold fitB at this
    simp only [Bool.and_eq_true,beq_iff_eq,MapKept.bytes_beq] at this
    rw [this.1.1,this.1.2]
 exact gen kds l hl h2
end Go.Proofs.YtmbffkemfepekaaGreatDoor

namespace Go.Proofs.YtmbffkemfepekaaGreatDoor
open Go.RowKit
theorem fresh2 (w:World) (a:Obj) (b:Array Value) (s:TypeId) (j:Nat):((w.alloc a).alloc (.cells b s)).frozen? ⟨w.heap.size+1,j,none⟩=false:=by
 have h0:(w.alloc a).heap.size=w.heap.size+1:=by simp
 generalize w.alloc a=W at h0 ⊢
 rw [← h0]; simp
/-- Three cells of a block are set. -/
theorem set3 {W:World} {B:Nat} {u0 u1 u2:Value} (h0:W.cell? ⟨B,0,none⟩=some u0) (h1:W.cell? ⟨B,1,none⟩=some u1) (h2:W.cell? ⟨B,2,none⟩=some u2) (v0 v1 v2:Value) :
  (((W.setCell ⟨B,0,none⟩ v0).setCell ⟨B,1,none⟩ v1).setCell ⟨B,2,none⟩ v2).cell? ⟨B,0,none⟩=some v0∧(((W.setCell ⟨B,0,none⟩ v0).setCell ⟨B,1,none⟩ v1).setCell ⟨B,2,none⟩ v2).cell? ⟨B,1,none⟩=some v1∧(((W.setCell ⟨B,0,none⟩ v0).setCell ⟨B,1,none⟩ v1).setCell ⟨B,2,none⟩ v2).cell? ⟨B,2,none⟩=some v2:=by
 have n01:(⟨B,1,none⟩:Addr)≠⟨B,0,none⟩:=by intro e; cases e
 have n02:(⟨B,2,none⟩:Addr)≠⟨B,0,none⟩:=by intro e; cases e
 have n12:(⟨B,2,none⟩:Addr)≠⟨B,1,none⟩:=by intro e; cases e
 refine ⟨?_,?_,?_⟩
 ·rw [World.cell?_setCell_other _ _ _ _ n02,World.cell?_setCell_other _ _ _ _ n01]; exact World.cell?_setCell_same _ _ _ h0
 ·rw [World.cell?_setCell_other _ _ _ _ n12]; exact World.cell?_setCell_same _ _ _ ((World.cell?_setCell_other _ _ _ _ n01.symm).trans h1)
 ·exact World.cell?_setCell_same _ _ _ ((World.cell?_setCell_other _ _ _ _ n12.symm).trans ((World.cell?_setCell_other _ _ _ _ n02.symm).trans h2))
/-- What find returns. -/
def fndV:Option Bd→Value
 | none=>.tuple #[.agg #[.string ⟨#[]⟩,.int .i64 0,.int .i64 0],.bool false]
 | some b=>.tuple #[.agg #[.string b.name,.int .i64 b.ty,.int .i64 b.val],.bool true]
set_option maxRecDepth 100000 in
theorem find1_any (nm n:ByteArray) (ty v:Int) (g:Nat) (w:World) (hg:w.cell? ⟨g,0,none⟩=some (.string n)) (hlt:g<w.heap.size) :
  Calls Tryz.prog 148 #[.agg #[.string nm,.int .i64 ty,.int .i64 v],.pointer (some ⟨g,0,none⟩)] w (Ret (.bool (nm == n)) w):=by
 have hO:=one_new w #[.string nm,.int .i64 ty,.int .i64 v] 89
 have g1:=(World.cell?_alloc_lt w (.cells #[.string nm,.int .i64 ty,.int .i64 v] 89) ⟨g,0,none⟩ hlt).trans hg
 unfold Ret
 clear hg
 go_enter Tryz.func148,Tryz.ntmps148
 go_upto_region 1 with fail
 generalize w.alloc _=w1 at hO g1 ⊢
 obtain ⟨x0,x1,x2⟩:=bx3 hO.fst
 go_wp2_with fail
 go_ret
 exact ⟨by rw [beq_toListBytes]; rfl,hO.below⟩
/-- The place of the first binding with a name; -1 if there is none. -/
def IdxR (l:List Bd) (n:ByteArray) (w:World):Ending→World→Prop:=fun e W=>Below w.heap.size w W∧((e=.returned (.int .i64 (-1))∧findB l n=none)∨∃ (k:Nat) (h:k<l.length),e=.returned (.int .i64 (k:Nat))∧findB l n=some l[k])
theorem find_skip {l:List Bd} {n:ByteArray} {k:Nat} (h:∀ (j:Nat) (hj:j<l.length),j<k→(l[j].name == n)=false):findB l n=findB (l.drop k) n:=by
 unfold findB
 have:(l.take k).find? (fun b=>b.name == n)=none:=by
  rw [List.find?_eq_none]
  intro b hb
  obtain ⟨j,hj,rfl⟩:=List.getElem_of_mem hb
  simp only [List.length_take] at hj
  have:=h j (by omega) (by omega)
  simp only [List.getElem_take]
  rw [this]; decide
 conv=>lhs; rw [← List.take_append_drop k l]
 rw [List.find?_append,this]; rfl
set_option maxRecDepth 100000 in
set_option maxHeartbeats 3200000 in
theorem idx_any (A:Option Addr) (c B:Nat) (l:List Bd) (n:ByteArray) (g:Nat) (w:World) (h:RdB w B A l) (hB:B≤w.heap.size) (hl:l.length≤140737488355328) (hg:w.cell? ⟨g,0,none⟩=some (.string n)) (hlt:g<w.heap.size) :
  Calls Tryz.prog 147 #[.slice A l.length c,.func (.func 148) #[] #[.pointer (some ⟨g,0,none⟩)]] w (IdxR l n w):=by
 have H:=Lib.hid h
 have HG:=Lib.hid hg
 unfold IdxR
 clear h hg
 go_enter Tryz.func147,Tryz.ntmps147
 go_wp2_with fail
 go_loopw [4,5,8] (fun r _ i wr=>r=.int .i64 0∧∃ k:Nat,i=.int .i64 (k:Nat)∧k≤l.length∧Hid (∀ (j:Nat) (hj:j<l.length),j<k→(l[j].name == n)=false)∧Below w.heap.size w wr) (fun _ _ i _=>l.length - (intOf i).toNat)
 case atStart=>exact ⟨rfl,0,rfl,by omega,Lib.hid (fun j hj h=>by omega),Below.refl _ _⟩
 case round=>
  obtain ⟨rfl,k,rfl,hk,hall,hb⟩:=hrel
  have hk0:(0:Int)≤(k:Int):=by omega
  have hwr1:IntKind.i64.wrap ((k:Int)+1)=(k:Int)+1:=by rw [IntKind.wrap_i64]; omega
  by_cases hlk:k<l.length
  ·have hd1:decide ((k:Int)<(l.length:Int))=true:=decide_eq_true (by omega)
   have hd2:decide (k<l.length)=true:=decide_eq_true hlk
   have hkl:(k:Int)<(l.length:Int):=by omega
   have hR:RdB wr B A l:=Rd.below' H.out hb hB
   obtain ⟨b,off,rfl,hbB,y0,y1,y2⟩:=hR.at_ hlk
   clear hR
   have HF:=Lib.hid (find1_any l[k].name n l[k].ty l[k].val g wr ((hb.cell (p:=⟨g,0,none⟩) hlt).trans HG.out) (Nat.lt_of_lt_of_le hlt hb.size))
   have HB:=Lib.hid hb
   have HYES:Hid ((l[k].name == n)=true→findB l n=some l[k]):=Lib.hid (fun e=>by
    rw [find_skip hall.out,List.drop_eq_getElem_cons hlk]
    unfold findB
    rw [List.find?_cons,e])
   have HNO:Hid ((l[k].name == n)=false→∀ (j:Nat) (hj:j<l.length),j<k+1→(l[j].name == n)=false):=Lib.hid (fun e j hj hjk=>by
    by_cases e2:j=k
    ·subst e2; exact e
    ·exact hall.out j hj (by omega))
   generalize hq:(l[k].name == n)=q at HF HYES HNO
   have HQ:=Lib.hid hq
   generalize l[k].name=nmk at y0 HF
   generalize l[k].ty=tyk at y1 HF
   generalize l[k].val=vk at y2 HF
   clear hb hall hq
   cases q with
   | true=>
    go_wp2_with (go_at_call 148; refine HF.out.mono ?_; rintro e w5 ⟨rfl,hb5⟩)
    refine bodyPost_ret (results_tmp rfl _ _ _) rfl ?_
    exact ⟨HB.out.trans (hb5.mono HB.out.size),.inr ⟨k,hlk,rfl,HYES.out (by first | rfl | exact True.intro)⟩⟩
   | false=>
    go_wp2_with (go_at_call 148; refine HF.out.mono ?_; rintro e w5 ⟨rfl,hb5⟩)
    exact ⟨⟨rfl,k+1,by go_num,by omega,Lib.hid (HNO.out (by first | rfl | exact True.intro)),HB.out.trans (hb5.mono HB.out.size)⟩,by simp [intOf]; omega⟩
  ·have hd1:decide ((k:Int)<(l.length:Int))=false:=decide_eq_false (by omega)
   have hd2:decide (k<l.length)=false:=decide_eq_false hlk
   have HN:Hid (findB l n=none):=Lib.hid (by rw [find_skip hall.out,List.drop_of_length_le (by omega)]; rfl)
   clear hall
   go_wp2_with fail
   refine bodyPost_ret (results_tmp rfl _ _ _) rfl ?_
   exact ⟨hb,.inl ⟨rfl,HN.out⟩⟩
set_option maxRecDepth 100000 in
set_option maxHeartbeats 3200000 in
theorem find_any (A:Option Addr) (c B:Nat) (l:List Bd) (n:ByteArray) (w:World) (h:RdB w B A l) (hB:B≤w.heap.size) (hl:l.length≤140737488355328) :
  Calls Tryz.prog 105 #[.slice A l.length c,.string n] w (Ret (fndV (findB l n)) w):=by
 have hT:=two_new w #[.string n] #[.string ⟨#[]⟩,.int .i64 0,.int .i64 0] 9 89
 have hz:((w.alloc (.cells #[.string n] 9)).alloc (.cells #[.string ⟨#[]⟩,.int .i64 0,.int .i64 0] 89)).heap.size=w.heap.size+2:=by simp
 have H:=Lib.hid h
 unfold Ret
 clear h
 go_enter Tryz.func105,Tryz.ntmps105
 go_upto_region 1 with fail
 have hF:∀ j,((w.alloc (.cells #[.string n] 9)).alloc (.cells #[.string ⟨#[]⟩,.int .i64 0,.int .i64 0] 89)).frozen? ⟨w.heap.size+1,j,none⟩=false:=fun j=>fresh2 w _ _ _ j
 generalize World.alloc _ _=w1 at hT hz hF ⊢
 have hx:=idx_any A c B l n w.heap.size w1 (Rd.below' H.out hT.below hB) (by omega) hl (hT.fst 0 _ rfl) (by omega)
 have HX:=Lib.hid hx
 have HF:=Lib.hid hF
 have hmf:∀ (fn:Fn) (first cap:Array Value) (w:World),(Instr.makeFunc fn first cap).run Tryz.prog w=.ok (.func fn first cap) w:=fun _ _ _ _=>rfl
 clear hx hF
 go_wp2_with fail
 refine HX.out.mono ?_
 rintro e w5 ⟨hb5,(⟨rfl,hn⟩ | ⟨k,hk,rfl,hs⟩)⟩
 ·have HN:=Lib.hid hn
  have d0:=(hb5.cell (p:=⟨w.heap.size+1,0,none⟩) (by show w.heap.size+1<w1.heap.size; omega)).trans (hT.snd 0 _ rfl)
  have d1:=(hb5.cell (p:=⟨w.heap.size+1,1,none⟩) (by show w.heap.size+1<w1.heap.size; omega)).trans (hT.snd 1 _ rfl)
  have d2:=(hb5.cell (p:=⟨w.heap.size+1,2,none⟩) (by show w.heap.size+1<w1.heap.size; omega)).trans (hT.snd 2 _ rfl)
  have g0:=(hb5.frozen (p:=⟨w.heap.size+1,0,none⟩) (by show w.heap.size+1<w1.heap.size; omega)).trans (HF.out 0)
  have g1:=(hb5.frozen (p:=⟨w.heap.size+1,1,none⟩) (by show w.heap.size+1<w1.heap.size; omega)).trans (HF.out 1)
  have g2:=(hb5.frozen (p:=⟨w.heap.size+1,2,none⟩) (by show w.heap.size+1<w1.heap.size; omega)).trans (HF.out 2)
  have hbx:=hT.below.trans (hb5.mono hT.below.size)
  clear hn hb5
  go_wp2_with fail
  obtain ⟨q0,q1,q2⟩:=set3 d0 d1 d2 (.string ⟨#[]⟩) (.int .i64 0) (.int .i64 0)
  have hby:=((hbx.setCell (p:=⟨w.heap.size+1,0,none⟩) (Nat.le_succ _) (.string ⟨#[]⟩)).setCell (p:=⟨w.heap.size+1,1,none⟩) (Nat.le_succ _) (.int .i64 0)).setCell (p:=⟨w.heap.size+1,2,none⟩) (Nat.le_succ _) (.int .i64 0)
  clear d0 d1 d2 g0 g1 g2 hbx
  generalize World.setCell _ _ _=w6 at q0 q1 q2 hby ⊢
  refine bodyPost_ret (v:=.tuple #[.agg #[.string ⟨#[]⟩,.int .i64 0,.int .i64 0],.bool false]) (by rw [results_cell_tmp rfl]; go_simp) rfl ⟨by rw [HN.out]; rfl,hby⟩
 ·have HS:=Lib.hid hs
  have d0:=(hb5.cell (p:=⟨w.heap.size+1,0,none⟩) (by show w.heap.size+1<w1.heap.size; omega)).trans (hT.snd 0 _ rfl)
  have d1:=(hb5.cell (p:=⟨w.heap.size+1,1,none⟩) (by show w.heap.size+1<w1.heap.size; omega)).trans (hT.snd 1 _ rfl)
  have d2:=(hb5.cell (p:=⟨w.heap.size+1,2,none⟩) (by show w.heap.size+1<w1.heap.size; omega)).trans (hT.snd 2 _ rfl)
  have g0:=(hb5.frozen (p:=⟨w.heap.size+1,0,none⟩) (by show w.heap.size+1<w1.heap.size; omega)).trans (HF.out 0)
  have g1:=(hb5.frozen (p:=⟨w.heap.size+1,1,none⟩) (by show w.heap.size+1<w1.heap.size; omega)).trans (HF.out 1)
  have g2:=(hb5.frozen (p:=⟨w.heap.size+1,2,none⟩) (by show w.heap.size+1<w1.heap.size; omega)).trans (HF.out 2)
  have hbx:=hT.below.trans (hb5.mono hT.below.size)
  have hR:RdB w5 B A l:=Rd.below' H.out hbx hB
  obtain ⟨b,off,rfl,hbB,y0,y1,y2⟩:=hR.at_ hk
  have hk0:(0:Int)≤(k:Int):=by omega
  have hkl:(k:Int)<(l.length:Int):=by omega
  have hd1:decide ((k:Int)<0)=false:=decide_eq_false (by omega)
  have HV:Hid (fndV (findB l n)=.tuple #[.agg #[.string l[k].name,.int .i64 l[k].ty,.int .i64 l[k].val],.bool true]):=Lib.hid (by rw [HS.out]; rfl)
  generalize l[k].name=nmk at y0 HV
  generalize l[k].ty=tyk at y1 HV
  generalize l[k].val=vk at y2 HV
  clear hs hb5 hR HX
  go_wp2_with fail
  obtain ⟨q0,q1,q2⟩:=set3 d0 d1 d2 (.string nmk) (.int .i64 tyk) (.int .i64 vk)
  have hby:=((hbx.setCell (p:=⟨w.heap.size+1,0,none⟩) (Nat.le_succ _) (.string nmk)).setCell (p:=⟨w.heap.size+1,1,none⟩) (Nat.le_succ _) (.int .i64 tyk)).setCell (p:=⟨w.heap.size+1,2,none⟩) (Nat.le_succ _) (.int .i64 vk)
  clear d0 d1 d2 g0 g1 g2 hbx y0 y1 y2
  generalize World.setCell _ _ _=w6 at q0 q1 q2 hby ⊢
  refine bodyPost_ret (v:=.tuple #[.agg #[.string nmk,.int .i64 tyk,.int .i64 vk],.bool true]) (by rw [results_cell_tmp rfl]; go_simp) rfl ⟨by rw [HV.out],hby⟩
end Go.Proofs.YtmbffkemfepekaaGreatDoor
