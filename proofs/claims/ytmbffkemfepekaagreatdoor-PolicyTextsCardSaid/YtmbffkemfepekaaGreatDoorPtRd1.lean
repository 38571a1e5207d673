/- (*reader).operand, walked, given what it calls. Conditions: the reader's block lies above the tokens. -/
import Derived.Test.YtmbffkemfepekaaGreatDoorPtPrt
import Derived.BigRegion
namespace Go.Proofs.YtmbffkemfepekaaGreatDoor
open Go.RowKit
theorem blk_set5 {W:World} {E:Nat} {u0 u1 u2 u3 u4:Value} {T:TypeId} {fz:Nat × Nat} (h:W.heap[E]? = some (.cells #[u0,u1,u2,u3,u4] T fz)) (v0 v1 v2 v3 v4:Value) :
  (((((W.setCell ⟨E,0,none⟩ v0).setCell ⟨E,1,none⟩ v1).setCell ⟨E,2,none⟩ v2).setCell ⟨E,3,none⟩ v3).setCell ⟨E,4,none⟩ v4).heap[E]? = some (.cells #[v0,v1,v2,v3,v4] T fz):=by
 simp [World.setCell,Array.getElem?_modify,h]
theorem load5 {W:World} {E:Nat} {u0 u1 u2 u3 u4:Value} {T:TypeId} {fz:Nat × Nat} (h:W.heap[E]? = some (.cells #[u0,u1,u2,u3,u4] T fz)):(loadVar 38 ⟨E,0,none⟩).run Tryz.prog W=.ok (.agg #[u0,u1,u2,u3,u4]) W:=
 run_loadVar_row W E T 38 _ fz _ h Tryz.underlying38 rfl (by kernel_rfl)
def OpdC (A:Option Addr) (c:Nat) (ts:List Tk) (f:Nat):Prop:=∀ (B R k:Nat) (w:World),Rdr B R A c ts k w→pP ts f .opd k≠.out→Calls Tryz.prog 158 #[.pointer (some ⟨R,0,none⟩)] w (OpdR R A c ts (pP ts f .opd k) w)
def BinC (A:Option Addr) (c:Nat) (ts:List Tk) (f:Nat):Prop:=∀ (B R k p:Nat) (w:World),1≤p→p≤6→Rdr B R A c ts k w→pP ts f (.bin p) k≠.out→Calls Tryz.prog 136 #[.pointer (some ⟨R,0,none⟩),.int .i64 (p:Nat)] w (OpdR R A c ts (pP ts f (.bin p) k) w)
theorem blk5 {W:World} {E:Nat} {u0 u1 u2 u3 u4:Value} {T:TypeId} (h:W.heap[E]? = some (.cells #[u0,u1,u2,u3,u4] T (0,0))) :
  (W.cell? ⟨E,0,none⟩=some u0∧W.cell? ⟨E,1,none⟩=some u1∧W.cell? ⟨E,2,none⟩=some u2∧W.cell? ⟨E,3,none⟩=some u3∧W.cell? ⟨E,4,none⟩=some u4)∧∀ j:Nat,W.frozen? ⟨E,j,none⟩=false:=
 ⟨⟨cell_of_row W E 0 _ _ _ h,cell_of_row W E 1 _ _ _ h,cell_of_row W E 2 _ _ _ h,cell_of_row W E 3 _ _ _ h,cell_of_row W E 4 _ _ _ h⟩,fun j=>by unfold World.frozen?; rw [h]; simp⟩
theorem Turn.far {lo hi:Nat} {w W:World} (h:Turn lo hi w W) {a:Addr} (ha:w.heap.size≤a.block) (v:Value):Turn lo hi w (W.setCell a v):=
 ⟨h.os,h.tape,h.output,by simpa using h.size,fun k hk hr=>(heap_setCell_other _ _ _ _ (by omega)).trans (h.block k hk hr)⟩
theorem heap_set5 {W:World} {E k:Nat} (hne:k≠E) (v0 v1 v2 v3 v4:Value):(((((W.setCell ⟨E,0,none⟩ v0).setCell ⟨E,1,none⟩ v1).setCell ⟨E,2,none⟩ v2).setCell ⟨E,3,none⟩ v3).setCell ⟨E,4,none⟩ v4).heap[k]? = W.heap[k]?:=by
 rw [Below.heap_setCell _ _ _ _ hne,Below.heap_setCell _ _ _ _ hne,Below.heap_setCell _ _ _ _ hne,Below.heap_setCell _ _ _ _ hne,Below.heap_setCell _ _ _ _ hne]
/-- The five cells of an expression, as an array. -/
def cell5 (k o:Int) (n:ByteArray) (v:Int) (A:Option Addr) (m c:Nat):Array Value:=#[.int .i64 k,.int .i64 o,.string n,.int .i64 v,.slice A m c]
theorem blkA {W:World} {E:Nat} {o:Obj} (h:W.heap[E]? = some o) (ob:Obj):(W.alloc ob).heap[E]? = some o:=
 ((below_alloc W ob).block E (Array.getElem?_eq_some_iff.1 h).1).trans h
theorem blk5A {W:World} {E:Nat} {u0 u1 u2 u3 u4:Value} {T:TypeId} (h:W.heap[E]? = some (.cells #[u0,u1,u2,u3,u4] T (0,0))) (_:Array Value) :
  (∀ ob,(W.alloc ob).cell? ⟨E,0,none⟩=some u0∧(W.alloc ob).cell? ⟨E,1,none⟩=some u1∧(W.alloc ob).cell? ⟨E,2,none⟩=some u2∧(W.alloc ob).cell? ⟨E,3,none⟩=some u3∧(W.alloc ob).cell? ⟨E,4,none⟩=some u4)∧∀ (ob:Obj) (j:Nat),(W.alloc ob).frozen? ⟨E,j,none⟩=false:=
 ⟨fun ob=>(blk5 (blkA h ob)).1,fun ob=>(blk5 (blkA h ob)).2⟩
section
variable {B R c i:Nat} {A:Option Addr} {ts:List Tk} {w W:World}
theorem rdr_set5 (h:Rdr B R A c ts i W) (ht:Turn R (R+1) w W) {E:Nat} (hE:w.heap.size≤E) (hR:R<w.heap.size) (v0 v1 v2 v3 v4:Value) :
  Rdr B R A c ts i (((((W.setCell ⟨E,0,none⟩ v0).setCell ⟨E,1,none⟩ v1).setCell ⟨E,2,none⟩ v2).setCell ⟨E,3,none⟩ v3).setCell ⟨E,4,none⟩ v4)∧Turn R (R+1) w (((((W.setCell ⟨E,0,none⟩ v0).setCell ⟨E,1,none⟩ v1).setCell ⟨E,2,none⟩ v2).setCell ⟨E,3,none⟩ v3).setCell ⟨E,4,none⟩ v4):=by
 refine ⟨h.keep (set5_below (Below.refl _ _) (by have:=h.lo; omega) _ _ _ _ _) (heap_set5 (by omega) _ _ _ _ _),?_⟩
 exact ((((ht.far (a:=⟨E,0,none⟩) hE _).far (a:=⟨E,1,none⟩) hE _).far (a:=⟨E,2,none⟩) hE _).far (a:=⟨E,3,none⟩) hE _).far (a:=⟨E,4,none⟩) hE _
theorem opd_ok {v0 v1 v2 v3 v4:Value} {x:Ex} (h:Rdr B R A c ts i W) (ht:Turn R (R+1) w W) (hL:LiesE (mask (fun X=>decide (X<w.heap.size)) W) W.heap.size [v0,v1,v2,v3,v4] x):OpdR R A c ts (.ok x i) w (.returned (.agg #[v0,v1,v2,v3,v4])) W:=
 ⟨ht,[v0,v1,v2,v3,v4],rfl,hL,h.blk,h.le⟩
theorem opd_bad (ht:Turn R (R+1) w W):OpdR R A c ts (.bad i) w (.panicked [{ v:=.iface 175 (.int .i64 (i:Nat)),recovered:=false }]) W:=⟨ht,rfl⟩
end
/-- The end of a unary operator: a row of one for its argument, and the result's five cells. -/
theorem un_end {B R c i:Nat} {A:Option Addr} {ts:List Tk} {w W4 W:World} {a:Ex} {A1:Option Addr} {c1 E:Nat} {o:Int} {T:TypeId} {u0 u1 u2 u3 u4:Value} (h:Rdr B R A c ts i W) (ht:Turn R (R+1) w W)
  (hL:LiesE (mask (fun X=>decide (X<W4.heap.size)) W) W.heap.size (exC a.kind a.op a.name a.val A1 a.args.length c1) a) (hwE:w.heap.size≤E) (hR:R<w.heap.size) (_:W.heap[E]? = some (.cells #[u0,u1,u2,u3,u4] T (0,0))) (_:R<E) (hEW:E<W4.heap.size) (h4:W4.heap.size≤W.heap.size) (ho:I64 o) :
  Rdr B R A c ts i ((((((W.alloc (.cells #[.int .i64 a.kind,.int .i64 a.op,.string a.name,.int .i64 a.val,.slice A1 a.args.length c1] 38)).setCell ⟨E,0,none⟩ (.int .i64 3)).setCell ⟨E,1,none⟩ (.int .i64 o)).setCell ⟨E,2,none⟩ (.string ⟨#[]⟩)).setCell ⟨E,3,none⟩ (.int .i64 0)).setCell ⟨E,4,none⟩ (.slice (some ⟨W.heap.size,0,none⟩) 1 1)) ∧
  Turn R (R+1) w ((((((W.alloc (.cells #[.int .i64 a.kind,.int .i64 a.op,.string a.name,.int .i64 a.val,.slice A1 a.args.length c1] 38)).setCell ⟨E,0,none⟩ (.int .i64 3)).setCell ⟨E,1,none⟩ (.int .i64 o)).setCell ⟨E,2,none⟩ (.string ⟨#[]⟩)).setCell ⟨E,3,none⟩ (.int .i64 0)).setCell ⟨E,4,none⟩ (.slice (some ⟨W.heap.size,0,none⟩) 1 1)) ∧
  LiesE (mask (fun X=>decide (X<w.heap.size)) ((((((W.alloc (.cells #[.int .i64 a.kind,.int .i64 a.op,.string a.name,.int .i64 a.val,.slice A1 a.args.length c1] 38)).setCell ⟨E,0,none⟩ (.int .i64 3)).setCell ⟨E,1,none⟩ (.int .i64 o)).setCell ⟨E,2,none⟩ (.string ⟨#[]⟩)).setCell ⟨E,3,none⟩ (.int .i64 0)).setCell ⟨E,4,none⟩ (.slice (some ⟨W.heap.size,0,none⟩) 1 1))) ((((((W.alloc (.cells #[.int .i64 a.kind,.int .i64 a.op,.string a.name,.int .i64 a.val,.slice A1 a.args.length c1] 38)).setCell ⟨E,0,none⟩ (.int .i64 3)).setCell ⟨E,1,none⟩ (.int .i64 o)).setCell ⟨E,2,none⟩ (.string ⟨#[]⟩)).setCell ⟨E,3,none⟩ (.int .i64 0)).setCell ⟨E,4,none⟩ (.slice (some ⟨W.heap.size,0,none⟩) 1 1)).heap.size
   [.int .i64 3,.int .i64 o,.string ⟨#[]⟩,.int .i64 0,.slice (some ⟨W.heap.size,0,none⟩) 1 1] (exUn o a):=by
 have hba:=below_alloc W (.cells #[.int .i64 a.kind,.int .i64 a.op,.string a.name,.int .i64 a.val,.slice A1 a.args.length c1] 38)
 have hbx:=bx_new W #[.int .i64 a.kind,.int .i64 a.op,.string a.name,.int .i64 a.val,.slice A1 a.args.length c1] 38
 have hz:(W.alloc (.cells #[.int .i64 a.kind,.int .i64 a.op,.string a.name,.int .i64 a.val,.slice A1 a.args.length c1] 38)).heap.size=W.heap.size+1:=by simp
 have hL1:=hL.turn (W:=W.alloc (.cells #[.int .i64 a.kind,.int .i64 a.op,.string a.name,.int .i64 a.val,.slice A1 a.args.length c1] 38)) (q:=fun X=>decide (X<W4.heap.size)) (fun X _ h=>h) hba.size (fun X hX _=>hba.block X hX)
 have h1:=h.next hba
 have ht1:=ht.trans (Turn.of_below (lo:=R) (hi:=R+1) hba)
 generalize W.alloc _=V at hba hbx hz hL1 h1 ht1 ⊢
 have hwW:=ht.size
 obtain ⟨h2,ht2⟩:=rdr_set5 h1 ht1 hwE hR (.int .i64 3) (.int .i64 o) (.string ⟨#[]⟩) (.int .i64 0) (.slice (some ⟨W.heap.size,0,none⟩) 1 1)
 refine ⟨h2,ht2,?_⟩
 rw [set5_size]
 have hL2:=hL1.turn (W:=(((((V.setCell ⟨E,0,none⟩ (.int .i64 3)).setCell ⟨E,1,none⟩ (.int .i64 o)).setCell ⟨E,2,none⟩ (.string ⟨#[]⟩)).setCell ⟨E,3,none⟩ (.int .i64 0)).setCell ⟨E,4,none⟩ (.slice (some ⟨W.heap.size,0,none⟩) 1 1))) (q:=fun X=>decide (X<w.heap.size)) (fun X _ h=>by have:=of_decide_eq_false h; exact decide_eq_false (by omega)) (Nat.le_refl _) (fun X _ hX=>heap_set5 (by have:=of_decide_eq_false hX; omega) _ _ _ _ _)
 refine LiesE.mk 3 o ByteArray.empty 0 (some ⟨W.heap.size,0,none⟩) 1 [a] (fun _=>exC a.kind a.op a.name a.val A1 a.args.length c1) ⟨by unfold I64; omega,ho,by unfold I64; omega,by decide,by simp,by simp⟩ (.inr ⟨W.heap.size,0,rfl,by omega,fun j hj q u hu=>?_⟩) (fun j hj=>?_)
 ·obtain rfl:j=0:=by simp at hj; omega
  rw [mask_far (decide_eq_false (by show ¬ W.heap.size<w.heap.size; omega))]
  rw [set5_far _ (by omega)]
  have:=hbx q u hu
  simpa using this
 ·obtain rfl:j=0:=by simp at hj; omega
  exact hL2
/-- What an operand at a token is. -/
def opdP (ts:List Tk) (f k:Nat) (t:Tk):PR:=if numK t then .ok (exNum t.val) (k+1)
   else if nameK t then .ok (exName t.text) (k+1)
   else if isS t [45] then (pP ts f .opd (k+1)).bind fun e i=>.ok (exUn 1 e) i
   else if isS t [33] then (pP ts f .opd (k+1)).bind fun e i=>.ok (exUn 2 e) i
   else if isS t [40] then (pP ts f (.bin 1) (k+1)).bind fun e i=>closeP ts e i
   else .bad k
set_option maxRecDepth 100000 in
set_option maxHeartbeats 12800000 in
theorem operand_of {A:Option Addr} {c:Nat} {ts:List Tk} {f:Nat} (HO:OpdC A c ts f) (HB:BinC A c ts f):OpdC A c ts (f+1):=by
 intro B R k w h hne
 rw [pP_o] at hne ⊢
 have hO:=one_new w #[.int .i64 0,.int .i64 0,.string ⟨#[]⟩,.int .i64 0,.slice none 0 0] 38
 have hz1:=hO.size
 have hRw:=h.lt
 have h1:=h.next hO.below
 have hE:(w.alloc (.cells #[.int .i64 0,.int .i64 0,.string ⟨#[]⟩,.int .i64 0,.slice none 0 0] 38)).heap[w.heap.size]? = some (.cells #[.int .i64 0,.int .i64 0,.string ⟨#[]⟩,.int .i64 0,.slice none 0 0] 38 (0,0)):=heap_alloc_new w _
 have ht1:=Turn.of_below (lo:=R) (hi:=R+1) hO.below
 clear hO
 cases hk:ts[k]? with
 | none=>
  rw [hk] at hne
  have hge:ts.length≤k:=List.getElem?_eq_none_iff.1 hk
  have hkl:k=ts.length:=by have:=h.le; omega
  subst hkl
  have g1:decide ((ts.length:Int) ≥ (ts.length:Int))=true:=decide_eq_true (by omega)
  have g2:decide (ts.length≤ts.length)=true:=decide_eq_true (by omega)
  clear hge hne h HO HB hk
  go_enter Tryz.func158,Tryz.ntmps158
  go_upto_region 1 with fail
  generalize w.alloc _=w1 at h1 hE ht1 hz1 ⊢
  obtain ⟨c0,c1,c2⟩:=h1.cells
  go_quiet (fail)
  go_wp2_with fail
  exact ⟨rfl,opd_bad (ht1.trans (Turn.of_below (below_drews _ _ _)))⟩
 | some t=>
  rw [hk] at hne
  change opdP ts f k t≠.out at hne
  show Calls _ _ _ w (OpdR R A c ts (opdP ts f k t) w)
  have HPR:Hid (opdP ts f k t=if numK t then .ok (exNum t.val) (k+1)
   else if nameK t then .ok (exName t.text) (k+1)
   else if isS t [45] then (pP ts f .opd (k+1)).bind fun e i=>.ok (exUn 1 e) i
   else if isS t [33] then (pP ts f .opd (k+1)).bind fun e i=>.ok (exUn 2 e) i
   else if isS t [40] then (pP ts f (.bin 1) (k+1)).bind fun e i=>closeP ts e i
   else .bad k):=Lib.hid rfl
  generalize opdP ts f k t=pr at hne HPR ⊢
  have hlt:k<ts.length:=(List.getElem?_eq_some_iff.1 hk).1
  have HTK:=Lib.hid (h.ok t (List.mem_of_getElem? hk))
  have h4k:=h.len
  obtain ⟨b,off,hA,hb,x0,x1,x2,x3⟩:=h1.at_ hk
  subst hA
  have g1:decide ((k:Int) ≥ (ts.length:Int))=false:=decide_eq_false (by omega)
  have g2:decide (ts.length≤k)=false:=decide_eq_false (by omega)
  have g3:(k:Int)<(ts.length:Int):=by omega
  have g4:(0:Int)≤(k:Int):=by omega
  have hwr1:IntKind.i64.wrap ((k:Int)+1)=(k:Int)+1:=by rw [IntKind.wrap_i64]; omega
  go_enter Tryz.func158,Tryz.ntmps158
  go_upto_region 1 with fail
  generalize w.alloc _=w1 at h1 hE ht1 hz1 x0 x1 x2 x3 ⊢
  obtain ⟨c0,c1,c2⟩:=h1.cells
  go_quiet (fail)
  rename_i nq
  have hbd:=below_drews w1.heap.size w1 nq
  have h2:=h1.next hbd
  have hE2:=(hbd.block w.heap.size (by omega)).trans hE
  have ht2:=ht1.trans (Turn.of_below (lo:=R) (hi:=R+1) hbd)
  have hz2:w.heap.size+1≤(w1.drewN nq).heap.size:=hz1
  generalize w1.drewN nq=w2 at h2 hE2 ht2 hz2 ⊢
  clear c0 c1 c2 x0 x1 x2 x3 hbd h1 hE ht1 hz1
  obtain ⟨b',off',hA,hb',x0,x1,x2,x3⟩:=h2.at_ hk
  obtain ⟨rfl,rfl⟩:b=b'∧off=off':=by
   injection hA with hA
   injection hA with hA1 hA2
   exact ⟨hA1,hA2⟩
  clear hA
  obtain ⟨c0,c1,c2⟩:=h2.cells
  have hR2:R<w2.heap.size:=h2.lt
  have hb2:b<w2.heap.size:=by have:=h2.lo; omega
  go_upto_region 3 with fail
  go_region
  have hba:Below w2.heap.size w2 (w2.alloc (.cells #[.int .i64 t.kind,.string t.text,.int .i64 t.val,.int .i64 (t.pos:Nat)] 69)).drew:=(below_alloc w2 _).trans (below_drews _ _ 1)
  have hT:Bx (w2.alloc (.cells #[.int .i64 t.kind,.string t.text,.int .i64 t.val,.int .i64 (t.pos:Nat)] 69)).drew w2.heap.size [.int .i64 t.kind,.string t.text,.int .i64 t.val,.int .i64 (t.pos:Nat)]:=bx_new w2 _ _
  have hz3:w2.heap.size+1≤(w2.alloc (.cells #[.int .i64 t.kind,.string t.text,.int .i64 t.val,.int .i64 (t.pos:Nat)] 69)).drew.heap.size:=by
   show _≤(w2.alloc (.cells #[.int .i64 t.kind,.string t.text,.int .i64 t.val,.int .i64 (t.pos:Nat)] 69)).heap.size
   simp
  have h3:=h2.next hba
  have hE3:=(hba.block w.heap.size (by omega)).trans hE2
  have ht3:=ht2.trans (Turn.of_below (lo:=R) (hi:=R+1) hba)
  generalize (w2.alloc _).drew=w3 at hT hz3 h3 hE3 ht3 ⊢
  obtain ⟨T,hTe⟩:∃ T,T=w2.heap.size:=⟨_,rfl⟩
  obtain ⟨E,hEe⟩:∃ E,E=w.heap.size:=⟨_,rfl⟩
  rw [← hTe] at hT hz3 ⊢
  rw [← hEe] at hE3 ⊢
  have hRE:R<E:=by omega
  have hET:E<T:=by omega
  have hwE:w.heap.size≤E:=by omega
  clear hba h2 hE2 ht2 hz2 x0 x1 x2 x3 c0 c1 c2 hR2 hb2 hTe hEe hb hb' g1 g2 g3
  obtain ⟨c0,c1,c2⟩:=h3.cells
  go_upto_region 5 with fail
  obtain ⟨h4,ht4⟩:=h3.step hlt
  have hT4:Bx (w3.setCell ⟨R,1,none⟩ (.int .i64 ((k:Int)+1))) T [.int .i64 t.kind,.string t.text,.int .i64 t.val,.int .i64 (t.pos:Nat)]:=fun j u hu=>(World.cell?_setCell_far _ _ _ _ (by show R≠T; omega)).trans (hT j u hu)
  have hE4:=(Below.heap_setCell w3 ⟨R,1,none⟩ (.int .i64 ((k:Int)+1)) E (by show E≠R; omega)).trans hE3
  have hz4:T<(w3.setCell ⟨R,1,none⟩ (.int .i64 ((k:Int)+1))).heap.size:=by simp; omega
  replace ht4:=ht3.trans ht4
  clear h3 ht3 hE3 hT hz3 c0 c1 c2 hwr1
  generalize w3.setCell _ _=w4 at h4 ht4 hT4 hE4 hz4 ⊢
  obtain ⟨x0,x1,x2,x3⟩:=bx4 hT4
  have hEz4:E<w4.heap.size:=by omega
  have HT4:=Lib.hid hT4
  have HE4:=Lib.hid hE4
  by_cases hk2:t.kind=2
  ·have n1:(t.kind == 1)=false:=by rw [hk2]; rfl
   have n2:(t.kind == 2)=true:=by rw [hk2]; rfl
   have n3:(t.kind == 3)=false:=by rw [hk2]; rfl
   have HI:=Lib.hid (isNum_any t w4 HTK.out.val (h4.env.more (by have:=h4.lo; omega)).tab)
   have hnm:nameK t=false:=by unfold nameK; rw [n1]; rfl
   have hi1:∀ s,isS t s=false:=fun s=>by unfold isS; rw [n3]; rfl
   have hpr:pr=if numB t then .ok (exNum t.val) (k+1) else .bad k:=by
    rw [HPR.out,numK_eq,n2,hnm,hi1,hi1,hi1]
    cases numB t <;> rfl
   unfold Ret at HI
   change Hid (Calls Tryz.prog 184 #[.agg #[.int .i64 t.kind,.string t.text,.int .i64 t.val,.int .i64 (t.pos:Nat)]] w4 _) at HI
   rw [hk2] at HI x0
   have HV:=Lib.hid HTK.out.val
   clear HPR HO HB hi1 hnm n1 n2 n3 hT4 hE4
   cases hnb:numB t with
   | true=>
    rw [hnb] at HI hpr
    simp only [if_true] at hpr
    subst hpr
    go_upto_region 6 with (go_at_call 184; refine HI.out.mono ?_; rintro e W5 ⟨rfl,hb5⟩; obtain ⟨y0,y1,y2,y3⟩:=bx4 (HT4.out.below hb5 hz4))
    have h5:=h4.next hb5
    have ht5:=ht4.trans (Turn.of_below (lo:=R) (hi:=R+1) hb5)
    have hE5:=(hb5.block E hEz4).trans HE4.out
    obtain ⟨⟨z0,z1,z2,z3,z4⟩,z5⟩:=blk5 hE5
    clear x0 x1 x2 x3 hb5
    go_wp2_with fail
    obtain ⟨h7,ht7⟩:=rdr_set5 h5 ht5 hwE hRw (.int .i64 1) (.int .i64 0) (.string ⟨#[]⟩) (.int .i64 t.val) (.slice none 0 0)
    try simp only [Exit.inBlock,Exit.then]
    refine bodyPost_ret (results_cell1 rfl rfl (load5 (blk_set5 hE5 _ _ _ _ _))) rfl ?_
    exact opd_ok h7 ht7 (lies_leaf _ _ 1 0 t.val ByteArray.empty ⟨by unfold I64; omega,by unfold I64; omega,HV.out,by decide⟩)
   | false=>
    rw [hnb] at HI hpr
    simp only [Bool.false_eq_true,if_false] at hpr
    subst hpr
    go_upto_region 19 with (go_at_call 184; refine HI.out.mono ?_; rintro e W5 ⟨rfl,hb5⟩; obtain ⟨y0,y1,y2,y3⟩:=bx4 (HT4.out.below hb5 hz4))
    have h5:=h4.next hb5
    have ht5:=ht4.trans (Turn.of_below (lo:=R) (hi:=R+1) hb5)
    obtain ⟨c0,c1,c2⟩:=h5.cells
    have hwr:IntKind.i64.wrap (((k+1:Nat):Int) - 1)=(k:Int):=by rw [IntKind.wrap_i64]; omega
    go_wp2_with fail
    exact ⟨rfl,opd_bad ht5⟩
  ·have HT2:Hid (numK t=false):=Lib.hid (by unfold numK; rw [show (t.kind == 2)=false from by simpa using hk2]; rfl)
   by_cases hk1:t.kind=1
   ·have n3:(t.kind == 3)=false:=by rw [hk1]; rfl
    have hi1:∀ s,isS t s=false:=fun s=>by unfold isS; rw [n3]; rfl
    have hpr:pr=if nameK t then .ok (exName t.text) (k+1) else .bad k:=by
     rw [HPR.out,HT2.out,hi1,hi1,hi1]
     cases nameK t <;> rfl
    have hnk:nameK t=(!kwB t.text && nmB t.text):=by unfold nameK; rw [hk1]; rfl
    rw [hnk] at hpr
    obtain ⟨m,hm⟩:=h4.env.max
    have HK:=Lib.hid (keyword_any t.text HTK.out.text w4 m hm)
    have HC:=Lib.hid (exCheck_any (w:=w4) (B:=0) (lies_leaf w4 0 2 0 0 t.text ⟨by unfold I64; omega,by unfold I64; omega,by unfold I64; omega,by have:=HTK.out.text; omega⟩) (Nat.zero_le _))
    have hce:=chkE_name (n:=t.text)
    unfold exName at hce
    rw [hce] at HC
    unfold RetP at HK
    unfold Ret at HC
    change Hid (Calls Tryz.prog 40 #[.agg #[.int .i64 2,.int .i64 0,.string t.text,.int .i64 0,.slice none 0 0]] w4 _) at HC
    rw [hk1] at x0
    have HTX:=Lib.hid HTK.out.text
    clear HPR HO HB hi1 hnk n3 hT4 hE4 hce hm HT2
    cases hkw:kwB t.text with
    | true=>
     rw [hkw] at HK hpr
     obtain rfl:pr=.bad k:=hpr
     go_upto_region 19 with (go_at_call 185; refine HK.out.mono ?_; rintro e W5 ⟨rfl,hw⟩; obtain rfl:w4=W5:=hw.symm)
     obtain ⟨c0,c1,c2⟩:=h4.cells
     have hwr:IntKind.i64.wrap (((k+1:Nat):Int) - 1)=(k:Int):=by rw [IntKind.wrap_i64]; omega
     go_wp2_with fail
     exact ⟨rfl,opd_bad ht4⟩
    | false=>
     rw [hkw] at HK hpr
     cases hnm:nmB t.text with
     | false=>
      rw [hnm] at HC hpr
      obtain rfl:pr=.bad k:=hpr
      go_upto_region 19 with (first
       | (go_at_call 185; refine HK.out.mono ?_; rintro e W5 ⟨rfl,hw⟩; obtain rfl:w4=W5:=hw.symm)
       | (go_at_call 40; refine HC.out.mono ?_; rintro e W5 ⟨rfl,hb5⟩; obtain ⟨y0,y1,y2,y3⟩:=bx4 (HT4.out.below hb5 hz4)))
      have h5:=h4.next hb5
      have ht5:=ht4.trans (Turn.of_below (lo:=R) (hi:=R+1) hb5)
      obtain ⟨c0,c1,c2⟩:=h5.cells
      have hwr:IntKind.i64.wrap (((k+1:Nat):Int) - 1)=(k:Int):=by rw [IntKind.wrap_i64]; omega
      go_wp2_with fail
      exact ⟨rfl,opd_bad ht5⟩
     | true=>
      rw [hnm] at HC hpr
      obtain rfl:pr=.ok (exName t.text) (k+1):=hpr
      go_upto_region 8 with (first
       | (go_at_call 185; refine HK.out.mono ?_; rintro e W5 ⟨rfl,hw⟩; obtain rfl:w4=W5:=hw.symm)
       | (go_at_call 40; refine HC.out.mono ?_; rintro e W5 ⟨rfl,hb5⟩; obtain ⟨y0,y1,y2,y3⟩:=bx4 (HT4.out.below hb5 hz4)))
      have h5:=h4.next hb5
      have ht5:=ht4.trans (Turn.of_below (lo:=R) (hi:=R+1) hb5)
      have hE5:=(hb5.block E hEz4).trans HE4.out
      obtain ⟨⟨z0,z1,z2,z3,z4⟩,z5⟩:=blk5 hE5
      clear x0 x1 x2 x3 hb5
      go_wp2_with fail
      obtain ⟨h7,ht7⟩:=rdr_set5 h5 ht5 hwE hRw (.int .i64 2) (.int .i64 0) (.string t.text) (.int .i64 0) (.slice none 0 0)
      try simp only [Exit.inBlock,Exit.then]
      refine bodyPost_ret (results_cell1 rfl rfl (load5 (blk_set5 hE5 _ _ _ _ _))) rfl ?_
      exact opd_ok h7 ht7 (lies_leaf _ _ 2 0 0 t.text ⟨by unfold I64; omega,by unfold I64; omega,by unfold I64; omega,by have:=HTX.out; omega⟩)
   ·have HT1:Hid (nameK t=false):=Lib.hid (by unfold nameK; rw [show (t.kind == 1)=false from by simpa using hk1]; rfl)
    by_cases hk3:t.kind=3
    rotate_left
    ·have n3:(t.kind == 3)=false:=by simpa using hk3
     have n1:(t.kind == 1)=false:=by simpa using hk1
     have n2:(t.kind == 2)=false:=by simpa using hk2
     have hi1:∀ s,isS t s=false:=fun s=>by unfold isS; rw [n3]; rfl
     obtain rfl:pr=.bad k:=by rw [HPR.out,HT2.out,HT1.out,hi1,hi1,hi1]; rfl
     clear HPR HO HB hi1 HT1 HT2 hT4 hE4 hk1 hk2 hk3
     go_upto_region 19 with fail
     obtain ⟨c0,c1,c2⟩:=h4.cells
     have hwr:IntKind.i64.wrap (((k+1:Nat):Int) - 1)=(k:Int):=by rw [IntKind.wrap_i64]; omega
     go_wp2_with fail
     exact ⟨rfl,opd_bad ht4⟩
    ·rw [hk3] at x0
     have hiS:∀ s,isS t s=(t.text.data.toList == s):=fun s=>by unfold isS; rw [hk3]; rfl
     have HPR2:=Lib.hid HPR.out
     rw [HT2.out,HT1.out,hiS,hiS,hiS] at HPR2
     generalize t.text=tx at HPR2 x1
     clear HPR hiS HT1 HT2 hk1 hk2 hk3 HTK hT4 hE4
     -- SIGNS
     rw [← Lib.toList_data] at HPR2
     have HT4b:=HT4
     cases e45:tx.toList == [45] with
     | false=>
      rw [e45] at HPR2
      cases e33:tx.toList == [33] with
      | false=>
       rw [e33] at HPR2
       cases e40:tx.toList == [40] with
       | false=>
        rw [e40] at HPR2
        obtain rfl:pr=.bad k:=HPR2.out
        clear HO HB HPR2
        go_upto_region 19 with fail
        obtain ⟨c0,c1,c2⟩:=h4.cells
        have hwr:IntKind.i64.wrap (((k+1:Nat):Int) - 1)=(k:Int):=by rw [IntKind.wrap_i64]; omega
        go_wp2_with fail
        exact ⟨rfl,opd_bad ht4⟩
       | true=>
        rw [e40] at HPR2
        have hpr:pr=(pP ts f (.bin 1) (k+1)).bind fun e i=>closeP ts e i:=HPR2.out
        have h4s:=h4.lt
        cases hr:pP ts f (.bin 1) (k+1) with
        | out=>
         rw [hr] at hpr
         exact absurd hpr hne
        | bad i=>
         rw [hr] at hpr
         obtain rfl:pr=.bad i:=hpr
         have HI:=Lib.hid (HB B R (k+1) 1 w4 (by omega) (by omega) h4 (by rw [hr]; intro h; cases h))
         rw [hr] at HI
         unfold OpdR at HI
         change Hid (Calls Tryz.prog 136 #[.pointer (some ⟨R,0,none⟩),.int .i64 1] w4 _) at HI
         clear HO HB hr hne HPR2
         go_wp2_with (go_at_call 136; refine HI.out.mono ?_; rintro e W6 ⟨ht6,rfl⟩)
         exact ⟨rfl,opd_bad (ht4.trans ht6)⟩
        | ok a i=>
         rw [hr] at hpr
         replace hpr:pr=closeP ts a i:=hpr
         have HI:=Lib.hid (HB B R (k+1) 1 w4 (by omega) (by omega) h4 (by rw [hr]; intro h; cases h))
         rw [hr] at HI
         unfold OpdR at HI
         change Hid (Calls Tryz.prog 136 #[.pointer (some ⟨R,0,none⟩),.int .i64 1] w4 _) at HI
         have HR4:=Lib.hid h4
         clear HO HB hr hne HPR2
         go_upto_region 15 with (go_at_call 136; refine HI.out.mono ?_; rintro e W6 ⟨ht6,vs,rfl,hL6,hb6,hi6⟩; obtain ⟨A1,c1,row,rfl,-,-⟩:=hL6.form; have hE6:=(ht6.block E hEz4 (.inr (by omega))).trans HE4.out; unfold exC)
         have h6:=HR4.out.turn ht6 hb6 hi6
         have ht46:=ht4.trans ht6
         have hz6:=ht6.size
         have hba:=below_alloc W6 (.cells (cell5 a.kind a.op a.name a.val A1 a.args.length c1) 38)
         have h7:=h6.next hba
         have ht7:=ht46.trans (Turn.of_below (lo:=R) (hi:=R+1) hba)
         have hE7:=(hba.block E (by omega)).trans hE6
         have hN7:=bx_new W6 (cell5 a.kind a.op a.name a.val A1 a.args.length c1) 38
         have hL7:LiesE (mask (fun X=>decide (X<w4.heap.size)) (W6.alloc (.cells (cell5 a.kind a.op a.name a.val A1 a.args.length c1) 38))) (W6.alloc (.cells (cell5 a.kind a.op a.name a.val A1 a.args.length c1) 38)).heap.size _ a:=hL6.turn (fun X _ h=>h) hba.size (fun X hX _=>hba.block X hX)
         have hz7:(W6.alloc (.cells (cell5 a.kind a.op a.name a.val A1 a.args.length c1) 38)).heap.size=W6.heap.size+1:=by simp
         unfold cell5 at hba h7 ht7 hE7 hN7 hL7 hz7
         generalize W6.alloc _=W7 at h7 ht7 hE7 hN7 hL7 hz7 ⊢
         obtain ⟨N,hN⟩:∃ N,N=W6.heap.size:=⟨_,rfl⟩
         rw [← hN] at hN7 hz7 ⊢
         have hNR:R<N:=by omega
         have hNE:E<N:=by omega
         have hw4N:w4.heap.size≤N:=by omega
         clear hba hN h6 ht46 hE6 hL6 hb6 hz6 x0 x1 x2 x3
         have HIS:=Lib.hid (is_any ⟨#[41]⟩ h7)
         unfold Ret at HIS
         unfold closeP at hpr
         have hib:isB ts i [41]=(match ts[i]? with | none=>false | some u=>isS u [41]):=rfl
         change Hid (Calls _ _ _ W7 fun e w'=>e=.returned (.bool (isB ts i [41]))∧Below W7.heap.size W7 w') at HIS
         cases hcl:isB ts i [41] with
         | false=>
          have hpr2:pr=.bad i:=by
           rw [hpr]
           cases hu:ts[i]? with
           | none=>rfl
           | some u=>rw [hu] at hib; simp only at hib; simp only [← hib,hcl]; rfl
          subst hpr2
          rw [hcl] at HIS
          clear hpr hib
          go_upto_region 16 with (go_at_call 186; refine HIS.out.mono ?_; rintro e W8 ⟨rfl,hb8⟩)
          have h8:=h7.next hb8
          obtain ⟨c0,c1',c2⟩:=h8.cells
          go_wp2_with fail
          exact ⟨rfl,opd_bad (ht7.trans (Turn.of_below (lo:=R) (hi:=R+1) hb8))⟩
         | true=>
          have hpr2:pr=.ok a (i+1):=by
           rw [hpr]
           cases hu:ts[i]? with
           | none=>rw [hu] at hib; simp only at hib; rw [hib] at hcl; cases hcl
           | some u=>rw [hu] at hib; simp only at hib; simp only [← hib,hcl]; rfl
          have hil:i<ts.length:=by
           rcases Nat.lt_or_ge i ts.length with h9 | h9
           ·exact h9
           ·rw [List.getElem?_eq_none h9] at hib; simp only at hib; rw [hib] at hcl; cases hcl
          subst hpr2
          rw [hcl] at HIS
          clear hpr hib
          go_upto_region 17 with (go_at_call 186; refine HIS.out.mono ?_; rintro e W8 ⟨rfl,hb8⟩)
          have h8:=h7.next hb8
          have ht8:=ht7.trans (Turn.of_below (lo:=R) (hi:=R+1) hb8)
          have hE8:=(hb8.block E (by omega)).trans hE7
          have hN8:=hN7.below hb8 (by omega)
          have hL8:=hL7.turn (W:=W8) (q:=fun X=>decide (X<w4.heap.size)) (fun X _ h=>h) hb8.size (fun X hX _=>hb8.block X hX)
          have hz8:=hb8.size
          obtain ⟨c0,c1',c2⟩:=h8.cells
          have hwr:IntKind.i64.wrap ((i:Int)+1)=(i:Int)+1:=by rw [IntKind.wrap_i64]; omega
          clear h7 ht7 hE7 hN7 hL7 hb8
          go_upto_region 18 with fail
          obtain ⟨h9,ht9⟩:=h8.step hil
          have hE9:=(Below.heap_setCell W8 ⟨R,1,none⟩ (.int .i64 ((i:Int)+1)) E (by show E≠R; omega)).trans hE8
          have hN9:Bx (W8.setCell ⟨R,1,none⟩ (.int .i64 ((i:Int)+1))) N _:=fun j u hu=>(World.cell?_setCell_far _ _ _ _ (by show R≠N; omega)).trans (hN8 j u hu)
          have hL9:=hL8.turn (W:=W8.setCell ⟨R,1,none⟩ (.int .i64 ((i:Int)+1))) (q:=fun X=>decide (X<w4.heap.size)) (fun X _ h=>h) (Nat.le_refl _) (fun X _ hX=>Below.heap_setCell W8 ⟨R,1,none⟩ _ X (by have:=of_decide_eq_false hX; show X≠R; omega))
          replace ht9:=ht8.trans ht9
          have hz9:(W8.setCell ⟨R,1,none⟩ (.int .i64 ((i:Int)+1))).heap.size=W8.heap.size:=by simp
          rw [← hz9] at hL9
          clear h8 ht8 hE8 hN8 hL8 c0 c1' c2 hwr
          generalize W8.setCell _ _=W9 at h9 ht9 hE9 hN9 hL9 hz9 ⊢
          obtain ⟨y0,y1,y2,y3,y4⟩:=bx5 hN9
          obtain ⟨⟨z0,z1,z2,z3,z4⟩,z5⟩:=blk5 hE9
          go_wp2_with fail
          obtain ⟨h10,ht10⟩:=rdr_set5 h9 ht9 hwE hRw (.int .i64 a.kind) (.int .i64 a.op) (.string a.name) (.int .i64 a.val) (.slice A1 a.args.length c1)
          have hL10:=hL9.turn (W:=(((((W9.setCell ⟨E,0,none⟩ (.int .i64 a.kind)).setCell ⟨E,1,none⟩ (.int .i64 a.op)).setCell ⟨E,2,none⟩ (.string a.name)).setCell ⟨E,3,none⟩ (.int .i64 a.val)).setCell ⟨E,4,none⟩ (.slice A1 a.args.length c1))) (q:=fun X=>decide (X<w.heap.size)) (fun X _ h=>by have:=of_decide_eq_false h; exact decide_eq_false (by omega)) (Nat.le_refl _) (fun X _ hX=>heap_set5 (by have:=of_decide_eq_false hX; omega) _ _ _ _ _)
          rw [← set5_size W9 E (.int .i64 a.kind) (.int .i64 a.op) (.string a.name) (.int .i64 a.val) (.slice A1 a.args.length c1)] at hL10
          try simp only [Exit.inBlock,Exit.then]
          refine bodyPost_ret (results_cell1 rfl rfl (load5 (blk_set5 hE9 _ _ _ _ _))) rfl ?_
          exact opd_ok h10 ht10 hL10
      | true=>
       rw [e33] at HPR2
       have hpr:pr=(pP ts f .opd (k+1)).bind fun e i=>.ok (exUn 2 e) i:=HPR2.out
       have h4s:=h4.lt
       cases hr:pP ts f .opd (k+1) with
       | out=>
        rw [hr] at hpr
        exact absurd hpr hne
       | bad i=>
        rw [hr] at hpr
        obtain rfl:pr=.bad i:=hpr
        have HI:=Lib.hid (HO B R (k+1) w4 h4 (by rw [hr]; intro h; cases h))
        rw [hr] at HI
        unfold OpdR at HI
        clear HO HB hr hne HPR2
        go_wp2_with (go_at_call 158; refine HI.out.mono ?_; rintro e W6 ⟨ht6,rfl⟩)
        exact ⟨rfl,opd_bad (ht4.trans ht6)⟩
       | ok a i=>
        rw [hr] at hpr
        obtain rfl:pr=.ok (exUn 2 a) i:=hpr
        have HI:=Lib.hid (HO B R (k+1) w4 h4 (by rw [hr]; intro h; cases h))
        rw [hr] at HI
        unfold OpdR at HI
        have HR4:=Lib.hid h4
        clear HO HB hr hne HPR2
        go_wp2_with (go_at_call 158; refine HI.out.mono ?_; rintro e W6 ⟨ht6,vs,rfl,hL6,hb6,hi6⟩; obtain ⟨A1,c1,row,rfl,-,-⟩:=hL6.form; have hE6:=(ht6.block E hEz4 (.inr (by omega))).trans HE4.out; have hq6:=blk5A hE6 (cell5 a.kind a.op a.name a.val A1 a.args.length c1); unfold exC)
        have h6:=HR4.out.turn ht6 hb6 hi6
        obtain ⟨h7,ht7,hL7⟩:=un_end (o:=2) h6 (ht4.trans ht6) hL6 hwE hRw hE6 hRE (by have:=ht6.size; omega) ht6.size (by unfold I64; omega)
        try simp only [Exit.inBlock,Exit.then]
        refine bodyPost_ret (results_cell1 rfl rfl (load5 (blk_set5 (blkA hE6 _) _ _ _ _ _))) rfl ?_
        exact opd_ok h7 ht7 hL7
     | true=>
      rw [e45] at HPR2
      have hpr:pr=(pP ts f .opd (k+1)).bind fun e i=>.ok (exUn 1 e) i:=HPR2.out
      have h4s:=h4.lt
      cases hr:pP ts f .opd (k+1) with
      | out=>
       rw [hr] at hpr
       exact absurd hpr hne
      | bad i=>
       rw [hr] at hpr
       obtain rfl:pr=.bad i:=hpr
       have HI:=Lib.hid (HO B R (k+1) w4 h4 (by rw [hr]; intro h; cases h))
       rw [hr] at HI
       unfold OpdR at HI
       clear HO HB hr hne HPR2
       go_wp2_with (go_at_call 158; refine HI.out.mono ?_; rintro e W6 ⟨ht6,rfl⟩)
       exact ⟨rfl,opd_bad (ht4.trans ht6)⟩
      | ok a i=>
       rw [hr] at hpr
       obtain rfl:pr=.ok (exUn 1 a) i:=hpr
       have HI:=Lib.hid (HO B R (k+1) w4 h4 (by rw [hr]; intro h; cases h))
       rw [hr] at HI
       unfold OpdR at HI
       have HR4:=Lib.hid h4
       clear HO HB hr hne HPR2
       go_wp2_with (go_at_call 158; refine HI.out.mono ?_; rintro e W6 ⟨ht6,vs,rfl,hL6,hb6,hi6⟩; obtain ⟨A1,c1,row,rfl,-,-⟩:=hL6.form; have hE6:=(ht6.block E hEz4 (.inr (by omega))).trans HE4.out; have hq6:=blk5A hE6 (cell5 a.kind a.op a.name a.val A1 a.args.length c1); unfold exC)
       have h6:=HR4.out.turn ht6 hb6 hi6
       obtain ⟨h7,ht7,hL7⟩:=un_end (o:=1) h6 (ht4.trans ht6) hL6 hwE hRw hE6 hRE (by have:=ht6.size; omega) ht6.size (by unfold I64; omega)
       try simp only [Exit.inBlock,Exit.then]
       refine bodyPost_ret (results_cell1 rfl rfl (load5 (blk_set5 (blkA hE6 _) _ _ _ _ _))) rfl ?_
       exact opd_ok h7 ht7 hL7
end Go.Proofs.YtmbffkemfepekaaGreatDoor
