/- expr.precedence, walked. Conditions: an operator with two arguments has a number from 3 to 15. -/
import Derived.Test.YtmbffkemfepekaaGreatDoorPtTyp
import Derived.Test.YtmbffkemfepekaaGreatDoorPtRtM
import Derived.Test.YtmbffkemfepekaaGreatDoorPtOpp
import Derived.Defers
import Derived.Test.YtmbffkemfepekaaGreatDoorPtShelf
import Derived.Test.YtmbffkemfepekaaGreatDoorPtOps
namespace Go.Proofs.YtmbffkemfepekaaGreatDoor
open Go.RowKit
theorem find_prec {M:Nat} {o:Int} (h:3≤o∧o≤15):∃ (i:Nat) (a r:Int) (g:Fn) (c:Array Value),findKV (opsKV M) o 0=some (i,.agg #[.string ⟨(signO o).toArray⟩,.int .i64 (precO o:Nat),.int .i64 a,.int .i64 r,.func g #[] c]):=by
 have hc:o=3∨o=4∨o=5∨o=6∨o=7∨o=8∨o=9∨o=10∨o=11∨o=12∨o=13∨o=14∨o=15:=by omega
 rcases hc with rfl | rfl | rfl | rfl | rfl | rfl | rfl | rfl | rfl | rfl | rfl | rfl | rfl <;> exact ⟨_,_,_,_,_,rfl⟩
/-- operators' contract for a region that fetches a known operator's sign and precedence. -/
theorem ops_prec (V:World) (b:Nat) (o:Int) (hk:3≤o∧o≤15) (h1:V.cell? ⟨b,1,none⟩=some (.int .i64 o)) (h2:b<V.heap.size):Calls Tryz.prog 71 #[] V fun e W=>∃ (M:Nat) (s:ByteArray) (a r:Int) (g:Fn) (c:Array Value),e=.returned (.map (some M)) ∧
  W.cell? ⟨b,1,none⟩=some (.int .i64 o)∧b<W.heap.size∧Below V.heap.size V W∧(Instr.lookup 125 (.map (some M)) (.int .i64 o) false).run Tryz.prog W=.ok (.agg #[.string s,.int .i64 (precO o:Nat),.int .i64 a,.int .i64 r,.func g #[] c]) W:=by
 refine (operators_any V).mono ?_
 rintro e W ⟨rfl,hS⟩
 obtain ⟨i,a,r,g,c,hf⟩:=find_prec (M:=V.heap.size) hk
 have q1:=(hS.below.cell (p:=⟨b,1,none⟩) h2).trans h1
 exact ⟨_,_,a,r,g,c,rfl,q1,Nat.lt_of_lt_of_le h2 hS.below.size,hS.below,by rw [hS.map.look o false,hf]; rfl⟩
theorem op_prec (s:ByteArray) (p a r:Int) (g:Fn) (c:Array Value) (W:World):(Instr.field 124 (.agg #[.string s,.int .i64 p,.int .i64 a,.int .i64 r,.func g #[] c]) 1).run Tryz.prog W=.ok (.int .i64 p) W:=by kernel_rfl
set_option maxRecDepth 100000 in
set_option maxHeartbeats 3200000 in
theorem prec_any (k o:Int) (n:ByteArray) (v:Int) (A:Option Addr) (m c:Nat) (hk:k=4→3≤o∧o≤15) (w:World):Calls Tryz.prog 114 #[.agg #[.int .i64 k,.int .i64 o,.string n,.int .i64 v,.slice A m c]] w (Ret (.int .i64 (precK k o:Nat)) w):=by
 have HP:Hid (precK k o=if k=3 then 6 else if k=4 then precO o else 7):=Lib.hid rfl
 generalize precK k o=R at HP ⊢
 unfold Ret
 have hO:=one_new w #[.int .i64 k,.int .i64 o,.string n,.int .i64 v,.slice A m c] 38
 by_cases h3:k=3
 ·subst h3
  have HV:Hid (R=6):=Lib.hid (by rw [HP.out,if_pos rfl])
  go_enter Tryz.func114,Tryz.ntmps114
  go_upto_region 1 with fail
  generalize w.alloc _=w1 at hO ⊢
  obtain ⟨d0,d1,d2,d3,d4⟩:=bx5 hO.fst
  have HB:=Lib.hid hO.below
  clear hO HP
  go_wp2_with fail
  go_ret
  exact ⟨by rw [HV.out]; rfl,HB.out⟩
 ·by_cases h4:k=4
  ·subst h4
   have hbin:=hk rfl
   have HV:Hid (R=precO o):=Lib.hid (by rw [HP.out,if_neg (by omega),if_pos rfl])
   have hfd:=op_prec
   go_enter Tryz.func114,Tryz.ntmps114
   go_upto_region 1 with fail
   have hz1:=hO.size
   generalize w.alloc _=w1 at hO hz1 ⊢
   obtain ⟨d0,d1,d2,d3,d4⟩:=bx5 hO.fst
   have HB:=Lib.hid hO.below
   clear hO HP
   go_upto_region 5 with fail
   have y1:w1.drew.cell? ⟨w.heap.size,1,none⟩=some (.int .i64 o):=d1
   have hzd:w.heap.size<w1.drew.heap.size:=hz1
   have HBE:Hid (Below w.heap.size w w1.drew):=Lib.hid ⟨HB.out.os,HB.out.tape,HB.out.output,HB.out.size,HB.out.block⟩
   refine wp_region_held_drew (S:=fun w'=>w'.cell? ⟨w.heap.size,1,none⟩=some (.int .i64 o)∧w.heap.size<w'.heap.size) (by kernel_rfl) ⟨y1,hzd⟩ (fun hHeld=>?_)
   clear d0 d1 d2 d3 d4 hz1
   generalize w1.drew=we at y1 hzd hHeld HBE ⊢
   refine wpAnyH_take (i:=1) (v:=?_) rfl (by kernel_rfl) (by kernel_rfl) (by kernel_rfl) (fun _ _ _ h=>h) (Or.inl ⟨by kernel_rfl,?_⟩) (by assumption) ?_
   rotate_left
   ·intro w hSw; (try dsimp only at hSw); go_simp; with_reducible rfl
   try simp only [List.getElem_toArray,List.getElem_cons_succ,List.getElem_cons_zero,Act.put,List.setIfInBounds_toArray,List.set_cons_zero,List.set_cons_succ]
   refine wpAnyH_take (i:=2) (v:=?_) rfl (by kernel_rfl) (by kernel_rfl) (by kernel_rfl) (fun _ _ _ h=>h) (Or.inl ⟨by kernel_rfl,?_⟩) (by assumption) ?_
   rotate_left
   ·intro w hSw; (try dsimp only at hSw); go_simp; with_reducible rfl
   try simp only [List.getElem_toArray,List.getElem_cons_succ,List.getElem_cons_zero,Act.put,List.setIfInBounds_toArray,List.set_cons_zero,List.set_cons_succ]
   refine wpAnyH_ready (rs:=[0]) (by kernel_rfl) (by simp) ?_
   refine AllReadyH.cons rfl (fun K hK=>?_) AllReadyH.nil
   go_simp
   refine (ops_prec we w.heap.size o hbin y1 hzd).mono ?_
   rintro e W5 ⟨M5,s5,a5,r5,g5,c5,rfl,q1,q2,hb5,l1⟩
   try dsimp only
   refine hK.out _ _ ?_ (fun hHeld=>?_)
   ·exact ⟨q1,q2⟩
   clear hK K
   try simp only [List.getElem_toArray,List.getElem_cons_succ,List.getElem_cons_zero,Act.put,List.setIfInBounds_toArray,List.set_cons_zero,List.set_cons_succ]
   refine wpAnyH_ready (rs:=[3]) (by kernel_rfl) (by simp) ?_
   refine AllReadyH.cons rfl (fun K hK=>?_) AllReadyH.nil
   go_simp
   refine hK.out _ _ ?_ (fun hHeld=>?_)
   ·exact hHeld
   clear hK K
   try simp only [List.getElem_toArray,List.getElem_cons_succ,List.getElem_cons_zero,Act.put,List.setIfInBounds_toArray,List.set_cons_zero,List.set_cons_succ]
   refine wpAnyH_take (i:=4) (v:=?_) rfl (by kernel_rfl) (by kernel_rfl) (by kernel_rfl) (fun _ _ _ h=>h) (Or.inl ⟨by kernel_rfl,?_⟩) (by assumption) ?_
   rotate_left
   ·intro w hSw; (try dsimp only at hSw); go_simp; with_reducible rfl
   try simp only [List.getElem_toArray,List.getElem_cons_succ,List.getElem_cons_zero,Act.put,List.setIfInBounds_toArray,List.set_cons_zero,List.set_cons_succ]
   refine wpAnyH_take (i:=5) (v:=?_) rfl (by kernel_rfl) (by kernel_rfl) (by kernel_rfl) (fun _ _ _ h=>h) (Or.inl ⟨by kernel_rfl,?_⟩) (by assumption) ?_
   rotate_left
   ·intro w hSw; (try dsimp only at hSw); go_simp; with_reducible rfl
   try simp only [List.getElem_toArray,List.getElem_cons_succ,List.getElem_cons_zero,Act.put,List.setIfInBounds_toArray,List.set_cons_zero,List.set_cons_succ]
   refine wpAnyH_done (by kernel_rfl) ?_ _
   try dsimp only [Exit.then]
   go_wp2_with fail
   go_ret
   exact ⟨by rw [HV.out]; rfl,HBE.out.trans (hb5.mono HBE.out.size)⟩
  ·have n3:(k == 3)=false:=by simpa using h3
   have n4:(k == 4)=false:=by simpa using h4
   have HV:Hid (R=7):=Lib.hid (by rw [HP.out,if_neg h3,if_neg h4])
   clear hk
   go_enter Tryz.func114,Tryz.ntmps114
   go_upto_region 1 with fail
   generalize w.alloc _=w1 at hO ⊢
   obtain ⟨d0,d1,d2,d3,d4⟩:=bx5 hO.fst
   have HB:=Lib.hid hO.below
   clear hO HP
   go_wp2_with fail
   go_ret
   exact ⟨by rw [HV.out]; rfl,HB.out⟩
end Go.Proofs.YtmbffkemfepekaaGreatDoor

namespace Go.Proofs.YtmbffkemfepekaaGreatDoor
open Go.Shelf Go.RowKit
end Go.Proofs.YtmbffkemfepekaaGreatDoor

namespace Go.Proofs.YtmbffkemfepekaaGreatDoor
open Go.Shelf Go.RowKit
/-- Block X is none of builder b's. -/
def Apart (b:Nat) (W:World) (X:Nat):Prop:=X<W.heap.size∧X≠b∧∀ p v T fz,W.heap[b]? = some (.cells #[p,v] T fz)→v.ownBlock≠some X
/-- From w to W builder b has been written to, and blocks have been laid: no more. -/
structure Wrote (B b:Nat) (w W:World):Prop where
 below:Below B w W
 apart:∀ X,Apart b w X→W.heap[X]? = w.heap[X]?∧Apart b W X
theorem Wrote.refl (B b:Nat) (w:World):Wrote B b w w:=⟨Below.refl _ _,fun _ h=>⟨rfl,h⟩⟩
theorem Wrote.trans {B b:Nat} {u v w:World} (h:Wrote B b u v) (k:Wrote B b v w):Wrote B b u w:=
 ⟨h.below.trans k.below,fun X hX=>⟨(k.apart X (h.apart X hX).2).1.trans (h.apart X hX).1,(k.apart X (h.apart X hX).2).2⟩⟩
theorem Wrote.old {B b:Nat} {w W:World} (h:Below w.heap.size w W) (hB:B≤w.heap.size) (hb:b<w.heap.size):Wrote B b w W:=
 ⟨h.mono hB,fun X hX=>⟨h.block X hX.1,Nat.lt_of_lt_of_le hX.1 h.size,hX.2.1,fun p v T fz hh=>hX.2.2 p v T fz ((h.block b hb).symm.trans hh)⟩⟩
theorem cell_block {w W:World} {X i:Nat} (h:W.heap[X]? = w.heap[X]?):W.cell? ⟨X,i,none⟩=w.cell? ⟨X,i,none⟩:=World.cell?_of_block (w:=w) h
section
variable {P:Program}
theorem str_own {w:World} (base:Nat) (t u ty e:TypeId) (i:TypeInfo) (ht:P.underlying t=some (.slice e)) (hu:P.underlying u=some .string) (hi:P.info? e=some i) (hz:i.zero=some (.int .u8 0))
  (hsize:i.size=1) (hby:i.bytes=1) (v:Value) (n:Nat) (xs:List Value) (hown:w.ownsRow base e 1 v n xs) (s:ByteArray)
  (h63:n+s.size≤maxLen) (hbytes:n+s.size≤140737488355328) {v':Value} {w':World} (hrun:(Builtin.append_ #[t,u] ty #[v,.string s]).run P w=.ok v' w'):v'.ownBlock=v.ownBlock∨v'.ownBlock=some w.heap.size:=by
 have hsmall:n+s.size≤9223372036854775807:=by simp only [maxLen] at h63; omega
 have hxl:xs.length=n:=by simpa using hown.1
 rcases hown.2 with ⟨rfl,rfl⟩ | ⟨g,cap,cur,rfl,hbg,hg,hnc,hcm,hcs,htake⟩
 ·by_cases hm:s.size=0
  ·have hf:=Lib.run_firstCells_string (P:=P) w 1 s
   rw [hm] at hf
   have hr:(Builtin.append_ #[t,u] ty #[.slice none 0 0,.string s]).run P w=.ok (.slice none 0 0) w:=by simp [Builtin.append_,run_underlying ht,run_underlying hu,sizeOf,typeInfo,hi,hsize,Builtin.lenOf,hm,hf]
   rw [hr] at hrun
   injection hrun with e1
   subst e1
   exact .inl rfl
  ·have hr:=run_append_nil_string (P:=P) w t u ty e i (.int .u8 0) ht hu hi hz s (by omega) (by omega) (by rw [hby]; omega)
   rw [hr] at hrun
   injection hrun with e1
   subst e1
   exact .inr rfl
 ·by_cases hroom:n+s.size≤cap
  ·have hcs':cur.size=cap:=by simpa using hcs
   have hr:=Lib.run_append_room_string (P:=P) w t u ty e i ht hu hi hsize g n cap cur hg s hroom (by omega)
   rw [hr] at hrun
   injection hrun with e1
   subst e1
   exact .inl rfl
  ·have holds:∀ j u,xs[j]? = some u→w.cell? ((⟨g,0,none⟩:Addr).add j)=some u:=hown.cells (g:=g) rfl
   have hr:=Lib.run_append_grow_string (P:=P) w t u ty e i (.int .u8 0) ht hu hi hz ⟨g,0,none⟩ n cap xs (by rw [hsize]; simpa using hxl) holds s (by omega) (by omega) (by rw [hby]; exact growslice_fits (by omega) (by omega))
   rw [hr] at hrun
   injection hrun with e1
   subst e1
   exact .inr rfl
theorem wpList_append_str_at {w:World} {ops:Array Oper} {rest:List Oper} {o:Oper} {a:Act} {Q:Exit→Act→World→Prop} (hgd:o.guard=none) (sl x:Operand) (t u:TypeId)
  (ho:o.op=.call { callee:=.builtin .append,args:=#[sl,x],argTypes:=#[t,u] })
  (base:Nat) (e:TypeId) (i:TypeInfo) (ht:P.underlying t=some (.slice e)) (hu:P.underlying u=some .string) (hi:P.info? e=some i) (hz:i.zero=some (.int .u8 0))
  (hsize:i.size=1) (hby:i.bytes=1)
  (v:Value) (n:Nat) (xs:List Value) (hs:a.eval sl=v) (hown:w.ownsRow base e 1 v n xs) (s:ByteArray) (hx:a.eval x=.string s)
  (h63:n+s.size≤maxLen) (hbytes:n+s.size≤140737488355328) (hbase:base≤w.heap.size)
  (h:∀ v' w',w'.ownsRow base e 1 v' (n+s.size) (xs++Lib.strCells s)→w.grownBy w' v.ownBlock→(v'.ownBlock=v.ownBlock∨v'.ownBlock=some w.heap.size)→wpList P ops Q rest (a.put o.dst v') w'):wpList P ops Q (o::rest) a w:=by
 refine wpList_plain hgd fun K hK=>?_
 obtain ⟨v',w',hrun,h2,h3,-⟩:=Lib.run_append_own_string (P:=P) w base t u o.type e i ht hu hi hz hsize hby v n xs hown s h63 hbytes hbase
 have h5:=str_own base t u o.type e i ht hu hi hz hsize hby v n xs hown s h63 hbytes hrun
 unfold Oper.wp execOp
 simp only [ho,resolve,invoke,builtin,Sem.run_bind,Sem.run_pure,Result.andThen_ok,List.map_toArray,List.map_cons,List.map_nil,hs,hx,hrun]
 exact hK _ _ (h v' w' h2 h3 h5)
end
theorem app_wrote {B b e n m:Nat} {w1 w1' w2:World} {p v v':Value} {xs:List Value} {Ty:TypeId} {fz:Nat × Nat} (hB:B≤b) (hbk:w1.heap[b]? = some (.cells #[p,v] Ty fz)) (hown:w1.ownsRow B e m v n xs) (hal:Below w1.heap.size w1 w1')
  (hg:w1'.grownBy w2 v.ownBlock) (hb2:w2.heap[b]? = some (.cells #[p,v] Ty fz)) (hob:v'.ownBlock=v.ownBlock∨v'.ownBlock=some w1'.heap.size):Wrote B b w1 (w2.setCell ⟨b,1,none⟩ v'):=by
 have hlt:=(Array.getElem?_eq_some_iff.1 hbk).1
 refine ⟨?_,fun X hX=>?_⟩
 ·exact ((hal.mono (by omega)).grown hg (by have:=hal.size; omega) (fun k hk=>(hown.lt k hk).1)).setCell (p:=⟨b,1,none⟩) hB _
 ·have h1:(w2.setCell ⟨b,1,none⟩ v').heap[X]? = w1.heap[X]?:=by
   rw [Below.heap_setCell _ _ _ _ hX.2.1,hg.block X (Nat.lt_of_lt_of_le hX.1 hal.size) (fun e=>hX.2.2 _ _ _ _ hbk e.symm),hal.block X hX.1]
  refine ⟨h1,?_,hX.2.1,fun q u Ty' fz' hh=>?_⟩
  ·have:=hal.size
   have:=hg.size
   have:=hX.1
   simp; omega
  ·have e1:(w2.setCell ⟨b,1,none⟩ v').heap[b]? = some (.cells #[p,v'] Ty fz):=by simp [World.setCell,Array.getElem?_modify,hb2]
   rw [e1] at hh
   injection hh with hh
   injection hh with h2
   have h3:u=v':=by simp at h2; exact h2.2.symm
   subst h3
   rcases hob with h4 | h4
   ·rw [h4]; exact hX.2.2 _ _ _ _ hbk
   ·rw [h4]
    intro e2
    injection e2 with e2
    have:=hal.size
    have:=hX.1
    omega
theorem cc_any (B b:Nat) (bs:List Value) (w:World) (h:Lib.IsBuilder 55 5 B b bs w):Calls Tryz.prog 42 #[.pointer (some ⟨b,0,none⟩)] w fun e w'=>e=.returned (.tuple #[])∧∃ v,B≤b∧w'.heap[b]? = some (.cells #[.pointer (some ⟨b,0,none⟩),v] 55 (0,0))∧w'.ownsRow B 5 1 v bs.length bs∧v.ownBlock≠some b∧Wrote B b w w':=by
 rcases h with h | h
 ·refine (Any.Builder_copyCheck_fresh (P:=Tryz.prog) (ρ:=bldRen) { lays167 with } bldExtra.toX72 b w h.cell0 h.shape h.frozen0).mono ?_
  rintro e w' ⟨rfl,rfl⟩
  obtain ⟨hB,v,hbk,hown,hne⟩:=h
  obtain ⟨-,v2,hbk2,hown2,hne2⟩:=Lib.BuilderAt.used (⟨hB,v,hbk,hown,hne⟩:Lib.BuilderAt 55 5 B b (.pointer none) bs w) (.pointer (some ⟨b,0,none⟩))
  have e1:(w.setCell ⟨b,0,none⟩ (.pointer (some ⟨b,0,none⟩))).heap[b]? = some (.cells #[.pointer (some ⟨b,0,none⟩),v] 55 (0,0)):=by simp [World.setCell,Array.getElem?_modify,hbk]
  have e2:v2=v:=by
   rw [e1] at hbk2
   injection hbk2 with hh
   injection hh with h2
   simp at h2
   exact h2.symm
  subst e2
  refine ⟨rfl,v2,hB,hbk2,hown2,hne2,(Below.refl B w).setCell (p:=⟨b,0,none⟩) hB _,fun X hX=>⟨Below.heap_setCell _ _ _ _ hX.2.1,by simpa using hX.1,hX.2.1,fun q u Ty' fz' hh=>?_⟩⟩
  rw [e1] at hh
  injection hh with hh
  injection hh with h2
  have h3:u=v2:=by simp at h2; exact h2.2.symm
  subst h3
  exact hX.2.2 _ _ _ _ hbk
 ·refine (Any.Builder_copyCheck_used (P:=Tryz.prog) (ρ:=bldRen) { lays167 with } bldExtra.toX72 b w h.cell0).mono ?_
  rintro e w' ⟨rfl,rfl⟩
  obtain ⟨hB,v,hbk,hown,hne⟩:=h
  exact ⟨rfl,v,hB,hbk,hown,hne,Wrote.refl _ _ _⟩
set_option maxRecDepth 100000 in
set_option maxHeartbeats 2000000 in
theorem wByte (B b:Nat) (bs:List Value) (c:Int) (w:World) (h:Lib.IsBuilder 55 5 B b bs w) (hlen:bs.length+1≤140737488355328) (hBw:B≤w.heap.size) :
  Calls Tryz.prog 115 #[.pointer (some ⟨b,0,none⟩),.int .u8 c] w fun e w'=>e=.returned .nilIface∧(Lib.BuilderAt 55 5 B b (.pointer (some ⟨b,0,none⟩)) (bs++[.int .u8 c]) w'∧Wrote B b w w'):=by
 obtain ⟨i0,hi,hz0,hz1,hz2⟩:=info_parts bldExtra.infoByte
 replace hi:Tryz.prog.info? 5=some i0:=hi
 have HC:=Lib.hid (cc_any B b bs w h)
 clear h
 go_enter Tryz.func115,Tryz.ntmps115
 go_wp2_with (go_at_call 42; refine HC.out.mono ?_)
 rintro e w1 ⟨rfl,v,hB,hbk,hown,hne,hW1⟩
 have hb1:=hW1.below
 have c0:w1.cell? ⟨b,0,none⟩=some (.pointer (some ⟨b,0,none⟩)):=by rw [Lib.cell_of_heap hbk]; rfl
 have c1:w1.cell? ⟨b,1,none⟩=some v:=by rw [Lib.cell_of_heap hbk]; rfl
 have hlt:b<w1.heap.size:=by
  rcases Nat.lt_or_ge b w1.heap.size with h' | h'
  ·exact h'
  ·simp [Array.getElem?_eq_none h'] at hbk
 have HW1:=Lib.hid hW1
 clear hW1
 go_wp2_with (at_builtin; refine wpList_append_own_at _ rfl _ _ 53 rfl B 5 i0 (.int .u8 0) 1 1 Tryz.underlying53 hi hz0 hz1 hz2 rfl (by decide) _ _ _ rfl (hown.alloc _) ⟨w1.heap.size,0,none⟩ 1 1 [.int .u8 c] rfl rfl ?c1 ?c2 ?c3 ?c4 ?c5 ?_)
 case c1=>
  intro j u hj
  match j,hj with
  | 0,hj=>simp at hj; subst hj; simp [Addr.add]
 case c2=>intro u hu; simp at hu; subst hu; rfl
 case c3=>unfold maxLen; omega
 case c4=>omega
 case c5=>have:=hb1.size; simp; omega
 intro v' w2 hown' hgrow _ hob
 have hb2:w2.heap[b]? = some (.cells #[.pointer (some ⟨b,0,none⟩),v] 55 (0,0)):=by
  rw [hgrow.block b (by simp; omega) (fun e=>hne e.symm),Lib.alloc_old w1 _ b hlt]
  exact hbk
 have d0:w2.cell? ⟨b,0,none⟩=some (.pointer (some ⟨b,0,none⟩)):=by rw [Lib.cell_of_heap hb2]; rfl
 have d1:w2.cell? ⟨b,1,none⟩=some v:=by rw [Lib.cell_of_heap hb2]; rfl
 have f1:w2.frozen? ⟨b,1,none⟩=false:=Lib.frozen_of_heap hb2 1
 have HWW:=Lib.hid (HW1.out.trans (app_wrote (w1':=w1.alloc (.cells #[.int .u8 c] 5)) hB hbk hown (below_alloc w1 _) hgrow hb2 (by simpa using hob)))
 clear hob
 obtain ⟨g,cap,rfl⟩:∃ g cap,v'=.slice (some ⟨g,0,none⟩) (bs.length+1) cap:=by
  rcases hown'.2 with ⟨_,h0⟩ | ⟨g,cap,cur,hv,_⟩
  ·omega
  ·exact ⟨g,cap,hv⟩
 go_wp2
 go_ret
 refine ⟨rfl,?_,HWW.out⟩
 exact Lib.BuilderAt.put (T:=55) (e:=5) hB hb2 (bs':=bs++[.int .u8 c]) (by simpa using hown') (by decide)
set_option maxRecDepth 100000 in
set_option maxHeartbeats 2000000 in
theorem wByteD (B b:Nat) (bs:List Value) (c:Int) (u:FrameMode) (w:World) (h:Lib.IsBuilder 55 5 B b bs w) (hlen:bs.length+1≤140737488355328) (hBw:B≤w.heap.size) :
  CallsD Tryz.prog 115 #[.pointer (some ⟨b,0,none⟩),.int .u8 c] u w fun e u' w'=>u'=u∧(e=.returned .nilIface∧(Lib.BuilderAt 55 5 B b (.pointer (some ⟨b,0,none⟩)) (bs++[.int .u8 c]) w'∧Wrote B b w w')):=by
 obtain ⟨i0,hi,hz0,hz1,hz2⟩:=info_parts bldExtra.infoByte
 replace hi:Tryz.prog.info? 5=some i0:=hi
 have HC:=Lib.hid (cc_any B b bs w h)
 clear h
 go_enter_d Tryz.func115,Tryz.ntmps115
 go_wp2_with (go_at_call 42; refine HC.out.mono ?_)
 rintro e w1 ⟨rfl,v,hB,hbk,hown,hne,hW1⟩
 have hb1:=hW1.below
 have c0:w1.cell? ⟨b,0,none⟩=some (.pointer (some ⟨b,0,none⟩)):=by rw [Lib.cell_of_heap hbk]; rfl
 have c1:w1.cell? ⟨b,1,none⟩=some v:=by rw [Lib.cell_of_heap hbk]; rfl
 have hlt:b<w1.heap.size:=by
  rcases Nat.lt_or_ge b w1.heap.size with h' | h'
  ·exact h'
  ·simp [Array.getElem?_eq_none h'] at hbk
 have HW1:=Lib.hid hW1
 clear hW1
 go_wp2_with (at_builtin; refine wpList_append_own_at _ rfl _ _ 53 rfl B 5 i0 (.int .u8 0) 1 1 Tryz.underlying53 hi hz0 hz1 hz2 rfl (by decide) _ _ _ rfl (hown.alloc _) ⟨w1.heap.size,0,none⟩ 1 1 [.int .u8 c] rfl rfl ?c1 ?c2 ?c3 ?c4 ?c5 ?_)
 case c1=>
  intro j u hj
  match j,hj with
  | 0,hj=>simp at hj; subst hj; simp [Addr.add]
 case c2=>intro u hu; simp at hu; subst hu; rfl
 case c3=>unfold maxLen; omega
 case c4=>omega
 case c5=>have:=hb1.size; simp; omega
 intro v' w2 hown' hgrow _ hob
 have hb2:w2.heap[b]? = some (.cells #[.pointer (some ⟨b,0,none⟩),v] 55 (0,0)):=by
  rw [hgrow.block b (by simp; omega) (fun e=>hne e.symm),Lib.alloc_old w1 _ b hlt]
  exact hbk
 have d0:w2.cell? ⟨b,0,none⟩=some (.pointer (some ⟨b,0,none⟩)):=by rw [Lib.cell_of_heap hb2]; rfl
 have d1:w2.cell? ⟨b,1,none⟩=some v:=by rw [Lib.cell_of_heap hb2]; rfl
 have f1:w2.frozen? ⟨b,1,none⟩=false:=Lib.frozen_of_heap hb2 1
 have HWW:=Lib.hid (HW1.out.trans (app_wrote (w1':=w1.alloc (.cells #[.int .u8 c] 5)) hB hbk hown (below_alloc w1 _) hgrow hb2 (by simpa using hob)))
 clear hob
 obtain ⟨g,cap,rfl⟩:∃ g cap,v'=.slice (some ⟨g,0,none⟩) (bs.length+1) cap:=by
  rcases hown'.2 with ⟨_,h0⟩ | ⟨g,cap,cur,hv,_⟩
  ·omega
  ·exact ⟨g,cap,hv⟩
 go_wp2
 go_ret
 refine ⟨rfl,?_,HWW.out⟩
 exact Lib.BuilderAt.put (T:=55) (e:=5) hB hb2 (bs':=bs++[.int .u8 c]) (by simpa using hown') (by decide)
set_option maxRecDepth 100000 in
set_option maxHeartbeats 2000000 in
theorem wStr (B b:Nat) (bs:List Value) (s:ByteArray) (w:World) (h:Lib.IsBuilder 55 5 B b bs w) (hlen:bs.length+s.size≤140737488355328) (hBw:B≤w.heap.size) :
  Calls Tryz.prog 18 #[.pointer (some ⟨b,0,none⟩),.string s] w fun e w'=>e=.returned (.tuple #[.int .i64 s.size,.nilIface])∧(Lib.BuilderAt 55 5 B b (.pointer (some ⟨b,0,none⟩)) (bs++Lib.strCells s) w'∧Wrote B b w w'):=by
 obtain ⟨i0,hi,hz0,hz1,hz2⟩:=info_parts bldExtra.infoByte
 replace hi:Tryz.prog.info? 5=some i0:=hi
 have HC:=Lib.hid (cc_any B b bs w h)
 clear h
 go_enter Tryz.func18,Tryz.ntmps18
 go_wp2_with (go_at_call 42; refine HC.out.mono ?_)
 rintro e w1 ⟨rfl,v,hB,hbk,hown,hne,hW1⟩
 have hb1:=hW1.below
 have c0:w1.cell? ⟨b,0,none⟩=some (.pointer (some ⟨b,0,none⟩)):=by rw [Lib.cell_of_heap hbk]; rfl
 have c1:w1.cell? ⟨b,1,none⟩=some v:=by rw [Lib.cell_of_heap hbk]; rfl
 have hlt:b<w1.heap.size:=by
  rcases Nat.lt_or_ge b w1.heap.size with h' | h'
  ·exact h'
  ·simp [Array.getElem?_eq_none h'] at hbk
 have HW1:=Lib.hid hW1
 clear hW1
 go_wp2_with (at_builtin; refine wpList_append_str_at rfl _ _ 53 9 rfl B 5 i0 Tryz.underlying53 Tryz.underlying9 hi hz0 hz1 hz2 _ _ _ rfl hown s rfl ?c3 ?c4 ?c5 ?_)
 case c3=>unfold maxLen; omega
 case c4=>omega
 case c5=>have:=hb1.size; omega
 intro v' w2 hown' hgrow hob
 have hb2:w2.heap[b]? = some (.cells #[.pointer (some ⟨b,0,none⟩),v] 55 (0,0)):=by
  rw [hgrow.block b hlt (fun e=>hne e.symm)]
  exact hbk
 have d0:w2.cell? ⟨b,0,none⟩=some (.pointer (some ⟨b,0,none⟩)):=by rw [Lib.cell_of_heap hb2]; rfl
 have d1:w2.cell? ⟨b,1,none⟩=some v:=by rw [Lib.cell_of_heap hb2]; rfl
 have f1:w2.frozen? ⟨b,1,none⟩=false:=Lib.frozen_of_heap hb2 1
 have HWW:=Lib.hid (HW1.out.trans (app_wrote (w1':=w1) hB hbk hown (Below.refl _ _) hgrow hb2 hob))
 clear hob
 obtain ⟨ao,n',cap,rfl⟩:∃ ao n' cap,v'=.slice ao n' cap:=by
  rcases hown'.2 with ⟨hv,_⟩ | ⟨g,cap,cur,hv,_⟩
  ·exact ⟨_,_,_,hv⟩
  ·exact ⟨_,_,_,hv⟩
 go_wp2
 go_ret2
 refine ⟨rfl,?_,HWW.out⟩
 exact Lib.BuilderAt.put (T:=55) (e:=5) hB hb2 (bs':=bs++Lib.strCells s) (by simpa [Lib.strCells_length] using hown') (by decide)
end Go.Proofs.YtmbffkemfepekaaGreatDoor

namespace Go.Proofs.YtmbffkemfepekaaGreatDoor
open Go.Shelf Go.RowKit
/-- Builder b holds those bytes. -/
def Bld (B b:Nat) (l:List UInt8) (W:World):Prop:=Lib.IsBuilder 55 5 B b (Lib.byteCells l) W
theorem byteCells_app (l m:List UInt8):Lib.byteCells (l++m)=Lib.byteCells l++Lib.byteCells m:=by simp [Lib.byteCells]
theorem byteCells_len (l:List UInt8):(Lib.byteCells l).length=l.length:=by simp [Lib.byteCells]
theorem Bld.parts {B b:Nat} {l:List UInt8} {W:World} (h:Bld B b l W):∃ p v,B≤b∧W.heap[b]? = some (.cells #[p,v] 55 (0,0))∧W.ownsRow B 5 1 v (Lib.byteCells l).length (Lib.byteCells l)∧v.ownBlock≠some b∧(p=.pointer none∨p=.pointer (some ⟨b,0,none⟩)):=by
 rcases h with ⟨h1,v,h2,h3,h4⟩ | ⟨h1,v,h2,h3,h4⟩
 ·exact ⟨_,v,h1,h2,h3,h4,.inl rfl⟩
 ·exact ⟨_,v,h1,h2,h3,h4,.inr rfl⟩
theorem Bld.lt {B b:Nat} {l:List UInt8} {W:World} (h:Bld B b l W):b<W.heap.size:=by
 obtain ⟨p,v,h1,h2,-⟩:=h.parts
 exact (Array.getElem?_eq_some_iff.1 h2).1
theorem Bld.old {B b:Nat} {l:List UInt8} {w W:World} (h:Bld B b l w) (hb:Below w.heap.size w W):Bld B b l W:=by
 have hlt:=h.lt
 obtain ⟨p,v,h1,h2,h3,h4,h5⟩:=h.parts
 have h6:=(hb.block b hlt).trans h2
 have h7:=own_next h3 hb
 rcases h5 with rfl | rfl
 ·exact .inl ⟨h1,v,h6,h7,h4⟩
 ·exact .inr ⟨h1,v,h6,h7,h4⟩
theorem Bld.apart {B b:Nat} {l:List UInt8} {w W:World} (h:Bld B b l w) (hb:Below w.heap.size w W) {X:Nat} (h1:w.heap.size≤X) (h2:X<W.heap.size):Apart b W X:=by
 have hlt:=h.lt
 obtain ⟨p,v,-,hk,ho,-,-⟩:=h.parts
 refine ⟨h2,by omega,fun q u T fz hh=>?_⟩
 rw [hb.block b hlt,hk] at hh
 injection hh with hh
 injection hh with hh
 have h3:v=u:=by simp at hh; exact hh.2
 subst h3
 intro e
 have:=(ho.lt X e).2
 omega
theorem Bld.put {B b:Nat} {l m:List UInt8} {cs:List Value} {W:World} (h:Lib.BuilderAt 55 5 B b (.pointer (some ⟨b,0,none⟩)) (Lib.byteCells l++cs) W) (hc:cs=Lib.byteCells m):Bld B b (l++m) W:=by
 subst hc
 unfold Bld
 rw [byteCells_app]
 exact .inr h
/-- What write and argument give: the text is put behind what the builder holds. -/
def WrP (B b:Nat) (l t:List UInt8) (w:World):Ending→World→Prop:=fun e W=>e=.returned (.tuple #[])∧Bld B b (l++t) W∧Wrote B b w W
/-- The library's table of powers, in all that a call may make of a world. -/
def TabK (B:Nat) (w:World):Prop:=∀ W,Below B w W→Lib.TabIs Tryz.prog W "internal/strconv.uint64pow10" .u64 Lib.pow10Tab
theorem TabK.next {B:Nat} {w W:World} (h:TabK B w) (hb:Below B w W):TabK B W:=fun W' hb'=>h W' (hb.trans hb')
/-- write, of one expression. -/
def WrC (e:Ex):Prop:=∀ (lo:Nat) (vs:List Value) (B b:Nat) (l:List UInt8) (w:World),Good e→LiesE w lo vs e→lo≤B→B≤w.heap.size→Bld B b l w→TabK B w→l.length+(wrE e).length≤140737488355328 →
 Calls Tryz.prog 41 #[.pointer (some ⟨b,0,none⟩),.agg vs.toArray] w (WrP B b l (wrE e) w)
set_option maxRecDepth 100000 in
set_option maxHeartbeats 3200000 in
theorem arg_of (e:Ex) (hW:WrC e) (lo:Nat) (vs:List Value) (B b:Nat) (l:List UInt8) (w:World) (lim:Nat) (hg:Good e) (h:LiesE w lo vs e) (hlo:lo≤B) (hB:B≤w.heap.size) (hbd:Bld B b l w) (hT:TabK B w)
  (hlen:l.length+(parB lim (precE e,wrE e)).length≤140737488355328):Calls Tryz.prog 70 #[.pointer (some ⟨b,0,none⟩),.agg vs.toArray,.int .i64 (lim:Nat)] w (WrP B b l (parB lim (precE e,wrE e)) w):=by
 have hbin:e.kind=4→3≤e.op∧e.op≤15:=by
  intro hk
  cases form_of hg with
  | num v h=>cases hk
  | name n h=>cases hk
  | un o a h=>cases hk
  | bin o a c h2=>exact h2
 obtain ⟨A,c,-,e1,-⟩:=h.form
 unfold exC at e1
 have HW:=Lib.hid (fun (W:World) (l':List UInt8) (hb:Below B w W) (hbd:Bld B b l' W) hl=>hW lo vs B b l' W hg (h.below' hb hlo) hlo (Nat.le_trans hB hb.size) hbd (hT.next hb) hl)
 have HP:=Lib.hid (fun W=>prec_any e.kind e.op e.name e.val A e.args.length c hbin W)
 have hlt:=hbd.lt
 unfold WrP at HW ⊢
 unfold Ret at HP
 have HPR:Hid (parB lim (precE e,wrE e)=if precE e<lim then 40::(wrE e++[41]) else wrE e):=Lib.hid rfl
 change Hid (∀ W,Calls Tryz.prog 114 #[.agg #[.int .i64 e.kind,.int .i64 e.op,.string e.name,.int .i64 e.val,.slice A e.args.length c]] W fun e' W'=>e'=.returned (.int .i64 (precE e:Nat))∧Below W.heap.size W W') at HP
 generalize parB lim (precE e,wrE e)=T at HPR hlen ⊢
 generalize precE e=pr at HP HPR
 rw [e1] at HW ⊢
 have hO:=one_new w #[.int .i64 e.kind,.int .i64 e.op,.string e.name,.int .i64 e.val,.slice A e.args.length c] 38
 generalize e.kind=k at HP HW hO ⊢
 generalize e.op=o at HP HW hO ⊢
 generalize e.name=n at HP HW hO ⊢
 generalize e.val=v at HP HW hO ⊢
 generalize e.args.length=m at HP HW hO ⊢
 generalize wrE e=t at HW HPR
 clear hW h hbin e1 hg hT
 have HBD:=Lib.hid hbd
 have HBS:Hid (B≤w.heap.size):=Lib.hid hB
 clear hbd
 by_cases hpr:pr<lim
 ·have g1:decide ((pr:Int)<(lim:Int))=true:=decide_eq_true (by omega)
  have g2:decide (pr<lim)=true:=decide_eq_true hpr
  have HV:Hid (T=40::(t++[41])):=Lib.hid (by rw [HPR.out,if_pos hpr])
  have HL:Hid (l.length+(t.length+2)≤140737488355328):=Lib.hid (by rw [HV.out] at hlen; simp at hlen; omega)
  clear hpr HPR hlen
  go_enter_defers Tryz.func70,Tryz.ntmps70
  go_upto_region 1 with fail
  have hz1:=hO.size
  generalize w.alloc _=w1 at hO hz1 ⊢
  obtain ⟨X,hX⟩:∃ X,X=w.heap.size:=⟨_,rfl⟩
  have HX:=Lib.hid hX
  have hbx:=hO.fst
  have HB1:=Lib.hid hO.below
  rw [← hX] at hbx hz1 ⊢
  clear hX hO
  have HBX:=Lib.hid hbx
  obtain ⟨d0,d1,d2,d3,d4⟩:=bx5 hbx
  clear hbx
  have HCA:Hid (∀ W2,Below w1.heap.size w1 W2→Bld B b l W2∧Apart b W2 X∧Below w.heap.size w W2∧Bx W2 X [.int .i64 k,.int .i64 o,.string n,.int .i64 v,.slice A m c]):=Lib.hid (fun W2 hb=>by
   have hb2:=HB1.out.trans (hb.mono HB1.out.size)
   exact ⟨HBD.out.old hb2,HBD.out.apart hb2 (by rw [HX.out]; exact Nat.le_refl _) (by have:=hb.size; omega),hb2,HBX.out.below hb (by omega)⟩)
  go_wp2_with (go_at_call 114; refine (HP.out _).mono ?_; rintro e' W2 ⟨rfl,hb2⟩)
  obtain ⟨hbd2,hap2,hbw2,hbx2⟩:=HCA.out W2 hb2
  have hb2s:B≤W2.heap.size:=Nat.le_trans HBS.out hbw2.size
  have HL1:Hid ((Lib.byteCells l).length+1≤140737488355328):=Lib.hid (by rw [byteCells_len]; have:=HL.out; omega)
  refine (wByte B b (Lib.byteCells l) 40 W2 hbd2 HL1.out hb2s).mono ?_
  rintro e2 W3 ⟨rfl,hbd3,hw3⟩
  have HB3:=Lib.hid (Bld.put (m:=[40]) hbd3 rfl)
  have hbx3:Bx W3 X [.int .i64 k,.int .i64 o,.string n,.int .i64 v,.slice A m c]:=fun j u hu=>(cell_block (hw3.apart X hap2).1).trans (hbx2 j u hu)
  obtain ⟨y0,y1,y2,y3,y4⟩:=bx5 hbx3
  have HW3:Hid (Wrote B b w W3):=Lib.hid ((Wrote.old hbw2 HBS.out hlt).trans hw3)
  clear d0 d1 d2 d3 d4 hbx2 hbx3 hbd2 hbd3 hap2 hb2 hbw2 hb2s hw3 HCA HL1
  have HL3:Hid ((l++[40]).length+t.length≤140737488355328):=Lib.hid (by rw [List.length_append]; have:=HL.out; show l.length+1+t.length≤_; omega)
  go_wp2_with (go_at_call 41; refine (HW.out W3 (l++[40]) HW3.out.below HB3.out HL3.out).mono ?_; rintro e3 W4 ⟨rfl,hbd4,hw4⟩)
  have hW4:=HW3.out.trans hw4
  refine leaves_cons (f:=115) (args:=#[.pointer (some ⟨b,0,none⟩),.int .u8 41]) (by simp) (by simp [go_sem]) ?_
  refine (wByteD B b (Lib.byteCells (l++[40]++t)) 41 .returning W4 hbd4 (by rw [byteCells_len]; have:=HL.out; simp; omega) (Nat.le_trans HBS.out hW4.below.size)).mono ?_
  rintro e4 u4 W5 ⟨rfl,rfl,hbd5,hw5⟩
  refine ⟨_,results_none rfl _ _ _,rfl,?_,hW4.trans hw5⟩
  have h5:=Bld.put (m:=[41]) hbd5 rfl
  rw [HV.out]
  have e5:l++40::(t++[41])=l++[40]++t++[41]:=by simp
  rw [e5]
  exact h5
 ·have g1:decide ((pr:Int)<(lim:Int))=false:=decide_eq_false (by omega)
  have g2:decide (pr<lim)=false:=decide_eq_false hpr
  have HV:Hid (T=t):=Lib.hid (by rw [HPR.out,if_neg hpr])
  have HL:Hid (l.length+t.length≤140737488355328):=Lib.hid (by rw [HV.out] at hlen; exact hlen)
  clear hpr HPR hlen
  go_enter_defers Tryz.func70,Tryz.ntmps70
  go_upto_region 1 with fail
  have hz1:=hO.size
  generalize w.alloc _=w1 at hO hz1 ⊢
  obtain ⟨X,hX⟩:∃ X,X=w.heap.size:=⟨_,rfl⟩
  have hbx:=hO.fst
  have HB1:=Lib.hid hO.below
  rw [← hX] at hbx hz1 ⊢
  clear hX hO
  have HBX:=Lib.hid hbx
  obtain ⟨d0,d1,d2,d3,d4⟩:=bx5 hbx
  clear hbx
  have HCA:Hid (∀ W2,Below w1.heap.size w1 W2→Bld B b l W2∧Below w.heap.size w W2∧Bx W2 X [.int .i64 k,.int .i64 o,.string n,.int .i64 v,.slice A m c]):=Lib.hid (fun W2 hb=>by
   have hb2:=HB1.out.trans (hb.mono HB1.out.size)
   exact ⟨HBD.out.old hb2,hb2,HBX.out.below hb (by omega)⟩)
  go_wp2_with (first | (go_at_call 114; refine (HP.out _).mono ?_; rintro e' W2 ⟨rfl,hb2⟩; have y0:=bx5 (HCA.out W2 hb2).2.2) | (go_at_call 41; refine (HW.out W2 l ((HCA.out W2 hb2).2.1.mono HBS.out) (HCA.out W2 hb2).1 HL.out).mono ?_; rintro e3 W4 ⟨rfl,hbd4,hw4⟩))
  refine ⟨_,results_none rfl _ _ _,rfl,by rw [HV.out]; exact hbd4,(Wrote.old (HCA.out W2 hb2).2.1 HBS.out hlt).trans hw4⟩
end Go.Proofs.YtmbffkemfepekaaGreatDoor

namespace Go.Proofs.YtmbffkemfepekaaGreatDoor
open Go.RowKit
set_option maxRecDepth 100000 in
theorem ltr_any (c:UInt8) (w:World):Calls Tryz.prog 47 #[.int .u8 (c.toNat:Nat)] w (RetP (.bool (letB c)) w):=by
 have HL:Hid (letB c=(decide (97≤c.toNat) && decide (c.toNat≤122))):=Lib.hid rfl
 generalize letB c=b at HL ⊢
 generalize c.toNat=n at HL ⊢
 unfold RetP
 by_cases h1:97≤n
 ·have e1:decide ((97:Int)≤(n:Int))=true:=decide_eq_true (by omega)
  have e1b:decide ((n:Int) ≥ (97:Int))=true:=decide_eq_true (by omega)
  have e2:decide (97≤n)=true:=decide_eq_true h1
  by_cases h2:n≤122
  ·have e3:decide ((n:Int)≤(122:Int))=true:=decide_eq_true (by omega)
   have e4:decide (n≤122)=true:=decide_eq_true h2
   have HV:Hid (b=true):=Lib.hid (by rw [HL.out,e2,e4]; rfl)
   clear h1 h2 HL
   go_enter Tryz.func47,Tryz.ntmps47
   go_wp2_with fail
   go_ret
   exact ⟨by rw [HV.out]; rfl,rfl⟩
  ·have e3:decide ((n:Int)≤(122:Int))=false:=decide_eq_false (by omega)
   have e4:decide (n≤122)=false:=decide_eq_false h2
   have HV:Hid (b=false):=Lib.hid (by rw [HL.out,e2,e4]; rfl)
   clear h1 h2 HL
   go_enter Tryz.func47,Tryz.ntmps47
   go_wp2_with fail
   go_ret
   exact ⟨by rw [HV.out]; rfl,rfl⟩
 ·have e1:decide ((97:Int)≤(n:Int))=false:=decide_eq_false (by omega)
  have e1b:decide ((n:Int) ≥ (97:Int))=false:=decide_eq_false (by omega)
  have e2:decide (97≤n)=false:=decide_eq_false h1
  have HV:Hid (b=false):=Lib.hid (by rw [HL.out,e2]; rfl)
  clear h1 HL
  go_enter Tryz.func47,Tryz.ntmps47
  go_wp2_with fail
  go_ret
  exact ⟨by rw [HV.out]; rfl,rfl⟩
set_option maxRecDepth 100000 in
theorem dig_any (c:UInt8) (w:World):Calls Tryz.prog 49 #[.int .u8 (c.toNat:Nat)] w (RetP (.bool (digB c)) w):=by
 have HL:Hid (digB c=(decide (48≤c.toNat) && decide (c.toNat≤57))):=Lib.hid rfl
 generalize digB c=b at HL ⊢
 generalize c.toNat=n at HL ⊢
 unfold RetP
 by_cases h1:48≤n
 ·have e1:decide ((48:Int)≤(n:Int))=true:=decide_eq_true (by omega)
  have e1b:decide ((n:Int) ≥ (48:Int))=true:=decide_eq_true (by omega)
  have e2:decide (48≤n)=true:=decide_eq_true h1
  by_cases h2:n≤57
  ·have e3:decide ((n:Int)≤(57:Int))=true:=decide_eq_true (by omega)
   have e4:decide (n≤57)=true:=decide_eq_true h2
   have HV:Hid (b=true):=Lib.hid (by rw [HL.out,e2,e4]; rfl)
   clear h1 h2 HL
   go_enter Tryz.func49,Tryz.ntmps49
   go_wp2_with fail
   go_ret
   exact ⟨by rw [HV.out]; rfl,rfl⟩
  ·have e3:decide ((n:Int)≤(57:Int))=false:=decide_eq_false (by omega)
   have e4:decide (n≤57)=false:=decide_eq_false h2
   have HV:Hid (b=false):=Lib.hid (by rw [HL.out,e2,e4]; rfl)
   clear h1 h2 HL
   go_enter Tryz.func49,Tryz.ntmps49
   go_wp2_with fail
   go_ret
   exact ⟨by rw [HV.out]; rfl,rfl⟩
 ·have e1:decide ((48:Int)≤(n:Int))=false:=decide_eq_false (by omega)
  have e1b:decide ((n:Int) ≥ (48:Int))=false:=decide_eq_false (by omega)
  have e2:decide (48≤n)=false:=decide_eq_false h1
  have HV:Hid (b=false):=Lib.hid (by rw [HL.out,e2]; rfl)
  clear h1 HL
  go_enter Tryz.func49,Tryz.ntmps49
  go_wp2_with fail
  go_ret
  exact ⟨by rw [HV.out]; rfl,rfl⟩
set_option maxRecDepth 100000 in
theorem in_any (c:UInt8) (w:World):Calls Tryz.prog 81 #[.int .u8 (c.toNat:Nat)] w (RetP (.bool (inB c)) w):=by
 have HI:Hid (inB c=(letB c || digB c || c.toNat == 95)):=Lib.hid rfl
 have HA:=Lib.hid (fun W=>ltr_any c W)
 have HB:=Lib.hid (fun W=>dig_any c W)
 generalize inB c=b at HI ⊢
 generalize letB c=l at HI HA
 generalize digB c=d at HI HB
 generalize c.toNat=n at HI HA HB ⊢
 unfold RetP at HA HB ⊢
 cases l with
 | true=>
  have HV:Hid (b=true):=Lib.hid (by rw [HI.out]; rfl)
  clear HI
  go_enter Tryz.func81,Tryz.ntmps81
  go_wp2_with (go_at_call 47; refine (HA.out _).mono ?_; rintro e W5 ⟨rfl,hw⟩; obtain rfl:w=W5:=hw.symm)
  go_ret
  exact ⟨by rw [HV.out]; rfl,rfl⟩
 | false=>
  cases d with
  | true=>
   have HV:Hid (b=true):=Lib.hid (by rw [HI.out]; rfl)
   clear HI
   go_enter Tryz.func81,Tryz.ntmps81
   go_wp2_with (first | (go_at_call 47; refine (HA.out _).mono ?_; rintro e W5 ⟨rfl,hw⟩; obtain rfl:w=W5:=hw.symm) | (go_at_call 49; refine (HB.out _).mono ?_; rintro e W5 ⟨rfl,hw⟩; obtain rfl:w=W5:=hw.symm))
   go_ret
   exact ⟨by rw [HV.out]; rfl,rfl⟩
  | false=>
   by_cases h95:n=95
   ·have e1:((n:Int) == 95)=true:=by simpa using (by omega:(n:Int)=95)
    have e2:(n == 95)=true:=by simpa using h95
    have HV:Hid (b=true):=Lib.hid (by rw [HI.out,e2]; rfl)
    clear HI h95
    go_enter Tryz.func81,Tryz.ntmps81
    go_wp2_with (first | (go_at_call 47; refine (HA.out _).mono ?_; rintro e W5 ⟨rfl,hw⟩; obtain rfl:w=W5:=hw.symm) | (go_at_call 49; refine (HB.out _).mono ?_; rintro e W5 ⟨rfl,hw⟩; obtain rfl:w=W5:=hw.symm))
    go_ret
    exact ⟨by rw [HV.out]; rfl,rfl⟩
   ·have e1:((n:Int) == 95)=false:=by simpa using (by omega:¬ (n:Int)=95)
    have e2:(n == 95)=false:=by simpa using h95
    have HV:Hid (b=false):=Lib.hid (by rw [HI.out,e2]; rfl)
    clear HI h95
    go_enter Tryz.func81,Tryz.ntmps81
    go_wp2_with (first | (go_at_call 47; refine (HA.out _).mono ?_; rintro e W5 ⟨rfl,hw⟩; obtain rfl:w=W5:=hw.symm) | (go_at_call 49; refine (HB.out _).mono ?_; rintro e W5 ⟨rfl,hw⟩; obtain rfl:w=W5:=hw.symm))
    go_ret
    exact ⟨by rw [HV.out]; rfl,rfl⟩
theorem run_at (s:ByteArray) (k:Nat) (h:k<s.size):s.data.toList.drop k=s[k]::s.data.toList.drop (k+1):=by
 have hl:k<s.data.toList.length:=by rw [Array.length_toList]; exact h
 rw [List.drop_eq_getElem_cons hl]
 rfl
set_option maxRecDepth 100000 in
set_option maxHeartbeats 1600000 in
theorem end_any (F:Nat) (p:UInt8→Bool) (eg:∀ (args:Array Value) (W:World),(callFunc F args).run Tryz.prog W=.ok (.enter F args) W) (hF:∀ c W,Calls Tryz.prog F #[.int .u8 ((c:UInt8).toNat:Nat)] W (RetP (.bool (p c)) W))
  (s:ByteArray) (at_:Nat) (ha:at_≤s.size) (hs:s.size≤140737488355328) (w:World) :
  Calls Tryz.prog 80 #[.string s,.int .i64 (at_:Nat),.func (.func F) #[] #[]] w (RetP (.int .i64 (at_+runN p (s.data.toList.drop at_):Nat)) w):=by
 obtain ⟨R,hR⟩:∃ R,R=at_+runN p (s.data.toList.drop at_):=⟨_,rfl⟩
 have HF:=Lib.hid hF
 have HR0:=Lib.hid hR
 rw [← hR]
 unfold RetP at HF ⊢
 clear hF hR
 go_enter Tryz.func80,Tryz.ntmps80
 go_wp2_with fail
 go_loopw [1] (fun i wr=>wr=w∧∃ k:Nat,i=.int .i64 (k:Nat)∧k≤s.size∧Hid (R=k+runN p (s.data.toList.drop k))) (fun i _=>s.size - (intOf i).toNat)
 case atStart=>exact ⟨rfl,at_,rfl,ha,HR0⟩
 case round=>
  obtain ⟨rfl,k,rfl,hk,hrn⟩:=hrel
  have hk0:(0:Int)≤(k:Int):=by omega
  have hwr1:IntKind.i64.wrap ((k:Int)+1)=(k:Int)+1:=by rw [IntKind.wrap_i64]; omega
  by_cases hlt:k<s.size
  ·have hd1:decide ((k:Int)<(s.size:Int))=true:=decide_eq_true (by omega)
   have hd2:decide (k<s.size)=true:=decide_eq_true hlt
   have hkl:(k:Int)<(s.size:Int):=by omega
   have HP:=Lib.hid (HF.out s[k])
   have HRN:Hid (R=k+(if p s[k] then runN p (s.data.toList.drop (k+1))+1 else 0)):=Lib.hid (by rw [hrn.out,run_at s k hlt,runN])
   generalize p s[k]=b at HP HRN
   clear hrn
   cases b with
   | true=>
    have HR2:Hid (R=(k+1)+runN p (s.data.toList.drop (k+1))):=Lib.hid (by rw [HRN.out,if_pos rfl]; omega)
    clear HRN
    go_wp2_with fail
    refine (HP.out _).mono ?_
    rintro e W5 ⟨rfl,hw⟩
    obtain rfl:wr=W5:=hw.symm
    go_wp2_with fail
    exact ⟨⟨by first | rfl | exact True.intro,k+1,by go_num,by omega,HR2⟩,by simp [intOf]; omega⟩
   | false=>
    have HR2:Hid (R=k):=Lib.hid (by rw [HRN.out]; simp)
    clear HRN
    go_wp2_with fail
    refine (HP.out _).mono ?_
    rintro e W5 ⟨rfl,hw⟩
    obtain rfl:wr=W5:=hw.symm
    go_wp2_with fail
    go_ret
    exact ⟨by rw [HR2.out]; rfl,rfl⟩
  ·have hd1:decide ((k:Int)<(s.size:Int))=false:=decide_eq_false (by omega)
   have hd2:decide (k<s.size)=false:=decide_eq_false hlt
   have HR2:Hid (R=k):=Lib.hid (by rw [hrn.out,List.drop_of_length_le (by rw [Array.length_toList]; show s.size≤k; omega)]; rfl)
   clear hrn
   go_wp2_with fail
   go_ret
   exact ⟨by rw [HR2.out]; rfl,rfl⟩
end Go.Proofs.YtmbffkemfepekaaGreatDoor
