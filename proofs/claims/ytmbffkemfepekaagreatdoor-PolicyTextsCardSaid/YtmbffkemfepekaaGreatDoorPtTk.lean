/- The reference parser: what operand and expression give, and operand walked, given what it calls. Conditions: the tokens lie in memory. -/
import Derived.Test.YtmbffkemfepekaaGreatDoorPtRfb
import Derived.Test.YtmbffkemfepekaaGreatDoorPtTj
import Derived.Test.YtmbffkemfepekaaGreatDoorPtOps
import Derived.Test.YtmbffkemfepekaaGreatDoorPtRdm
import Derived.Deep.Cut
import Derived.Deep.DeepCutAuto
namespace Go.Proofs.YtmbffkemfepekaaGreatDoor
open Go.RowKit
theorem set5_blk {W:World} {E:Nat} {u0 u1 u2 u3 u4:Value} {T:TypeId} {fz:Nat × Nat} (h:W.heap[E]? = some (.cells #[u0,u1,u2,u3,u4] T fz)) (v0 v1 v2 v3 v4:Value) :
  (((((W.setCell ⟨E,0,none⟩ v0).setCell ⟨E,1,none⟩ v1).setCell ⟨E,2,none⟩ v2).setCell ⟨E,3,none⟩ v3).setCell ⟨E,4,none⟩ v4).heap[E]? = some (.cells #[v0,v1,v2,v3,v4] T fz):=by
 simp [World.setCell,Array.getElem?_modify,h]
theorem ld5 {W:World} {E:Nat} {u0 u1 u2 u3 u4:Value} {T:TypeId} {fz:Nat × Nat} (h:W.heap[E]? = some (.cells #[u0,u1,u2,u3,u4] T fz)):(loadVar 38 ⟨E,0,none⟩).run Tryz.prog W=.ok (.agg #[u0,u1,u2,u3,u4]) W:=
 run_loadVar_row W E T 38 _ fz _ h Tryz.underlying38 rfl (by kernel_rfl)
theorem set5_oth {W:World} {E k:Nat} (hne:k≠E) (v0 v1 v2 v3 v4:Value):(((((W.setCell ⟨E,0,none⟩ v0).setCell ⟨E,1,none⟩ v1).setCell ⟨E,2,none⟩ v2).setCell ⟨E,3,none⟩ v3).setCell ⟨E,4,none⟩ v4).heap[k]? = W.heap[k]?:=by
 rw [Below.heap_setCell _ _ _ _ hne,Below.heap_setCell _ _ _ _ hne,Below.heap_setCell _ _ _ _ hne,Below.heap_setCell _ _ _ _ hne,Below.heap_setCell _ _ _ _ hne]
theorem row5 {W:World} {E:Nat} {u0 u1 u2 u3 u4:Value} {T:TypeId} (h:W.heap[E]? = some (.cells #[u0,u1,u2,u3,u4] T (0,0))) :
  (W.cell? ⟨E,0,none⟩=some u0∧W.cell? ⟨E,1,none⟩=some u1∧W.cell? ⟨E,2,none⟩=some u2∧W.cell? ⟨E,3,none⟩=some u3∧W.cell? ⟨E,4,none⟩=some u4)∧∀ j:Nat,W.frozen? ⟨E,j,none⟩=false:=
 ⟨⟨cell_of_row W E 0 _ _ _ h,cell_of_row W E 1 _ _ _ h,cell_of_row W E 2 _ _ _ h,cell_of_row W E 3 _ _ _ h,cell_of_row W E 4 _ _ _ h⟩,fun j=>by unfold World.frozen?; rw [h]; simp⟩
theorem row4 {W:World} {E:Nat} {u0 u1 u2 u3:Value} {T:TypeId} (h:W.heap[E]? = some (.cells #[u0,u1,u2,u3] T (0,0))) :
  W.cell? ⟨E,0,none⟩=some u0∧W.cell? ⟨E,1,none⟩=some u1∧W.cell? ⟨E,2,none⟩=some u2∧W.cell? ⟨E,3,none⟩=some u3:=
 ⟨cell_of_row W E 0 _ _ _ h,cell_of_row W E 1 _ _ _ h,cell_of_row W E 2 _ _ _ h,cell_of_row W E 3 _ _ _ h⟩
theorem heap_next {W W':World} {k:Nat} {o:Obj} (h:W.heap[k]? = some o) (hb:Below W.heap.size W W'):W'.heap[k]? = some o:=(hb.block k (Array.getElem?_eq_some_iff.1 h).1).trans h
theorem heap_lt {W:World} {k:Nat} {o:Obj} (h:W.heap[k]? = some o):k<W.heap.size:=(Array.getElem?_eq_some_iff.1 h).1
theorem leaf_lies (w:World) (B:Nat) (k o v:Int) (n:ByteArray) (h:I64 k∧I64 o∧I64 v∧n.size≤9223372036854775807):LiesE w B (exC k o n v none 0 0) (.mk k o n v []):=
 LiesE.mk k o n v none 0 [] (fun _=>[]) ⟨h.1,h.2.1,h.2.2.1,h.2.2.2,by simp,by simp⟩ (.inl rfl) (fun i hi=>by simp at hi)
/-- The tokens in memory. -/
structure TkW (A:Option Addr) (B:Nat) (ts:List Tk) (W:World):Prop where
 tok:Rd W B 4 A ts.length (tkCs ts)
 lo:B≤W.heap.size
theorem TkW.next {A:Option Addr} {B:Nat} {ts:List Tk} {W W':World} (h:TkW A B ts W) (hb:Below W.heap.size W W'):TkW A B ts W':=⟨h.tok.below' hb h.lo,Nat.le_trans h.lo hb.size⟩
/-- Tokens that are not too long, and not too many. -/
structure TkLim (ts:List Tk):Prop where
 len:ts.length≤4611686018427387904
 txt:∀ t∈ts,t.text.size≤140737488355328
theorem TkLim.nx {ts:List Tk} (h:TkLim ts) (k:Nat):(nxT ts k).text.size≤140737488355328:=by
 cases e:ts[k]? with
 | none=>rw [nxT_none e]; decide
 | some t=>rw [nxT_some e]; exact h.txt t (List.mem_of_getElem? e)
theorem nx_lt {ts:List Tk} {k:Nat} (h:(nxT ts k).kind≠0):k<ts.length:=by
 refine Decidable.byContradiction fun hk=>h ?_
 rw [nxT_none (List.getElem?_eq_none_iff.2 (Nat.le_of_not_lt hk))]
theorem isS_lt {ts:List Tk} {k:Nat} {g:List UInt8} (h:isS (nxT ts k) g=true):k<ts.length:=by
 refine nx_lt fun e=>?_
 unfold isS at h
 rw [e] at h
 simp at h
theorem isS_two {t:Tk} (h:isS t [45]=true):isS t [33]=false:=by
 unfold isS at h ⊢
 rw [Bool.and_eq_true] at h
 have h2:t.text.data.toList=[45]:=by simpa using h.2
 rw [h2,h.1]
 rfl
/-- What operand and expression give. -/
def OpR (r:PR) (w:World):Ending→World→Prop:=fun e W=>Below w.heap.size w W∧match r with
 | .ok x i=>∃ vs,e=.returned (.tuple #[.agg vs.toArray,.int .i64 (i:Nat),.bool true])∧LiesE (mask (fun X=>decide (X<w.heap.size)) W) W.heap.size vs x
 | .bad i=>e=.returned (.tuple #[.agg #[.int .i64 0,.int .i64 0,.string ⟨#[]⟩,.int .i64 0,.slice none 0 0],.int .i64 (i:Nat),.bool false])
 | .out=>True
def RopC (A:Option Addr) (c B:Nat) (ts:List Tk) (f:Nat):Prop:=∀ (k:Nat) (w:World),TkW A B ts w→k≤ts.length→pP ts f .opd k≠.out→Calls Tryz.prog 160 #[.slice A ts.length c,.int .i64 (k:Nat)] w (OpR (pP ts f .opd k) w)
def RexC (A:Option Addr) (c B:Nat) (ts:List Tk) (f:Nat):Prop:=∀ (k p:Nat) (w:World),TkW A B ts w→k≤ts.length→1≤p→p≤6→pP ts f (.bin p) k≠.out→Calls Tryz.prog 137 #[.slice A ts.length c,.int .i64 (k:Nat),.int .i64 (p:Nat)] w (OpR (pP ts f (.bin p) k) w)
theorem closeP_nx (ts:List Tk) (e:Ex) (i:Nat):closeP ts e i=if isS (nxT ts i) [41] then .ok e (i+1) else .bad i:=by
 unfold closeP
 cases h:ts[i]? with
 | none=>rw [nxT_none h]; rfl
 | some u=>rw [nxT_some h]
theorem pP_onx (ts:List Tk) (f k:Nat):pP ts (f+1) .opd k=(if (nxT ts k).kind == 2 && dgB (nxT ts k) then .ok (exNum (nxT ts k).val) (k+1)
   else if (nxT ts k).kind == 1 && (nmB (nxT ts k).text && !kwB (nxT ts k).text) then .ok (exName (nxT ts k).text) (k+1)
   else if isS (nxT ts k) [45] then (pP ts f .opd (k+1)).bind fun e i=>.ok (exUn 1 e) i
   else if isS (nxT ts k) [33] then (pP ts f .opd (k+1)).bind fun e i=>.ok (exUn 2 e) i
   else if isS (nxT ts k) [40] then (pP ts f (.bin 1) (k+1)).bind fun e i=>closeP ts e i
   else .bad k):=by
 rw [pP_o]
 cases h:ts[k]? with
 | none=>rw [nxT_none h]; rfl
 | some t=>
  rw [nxT_some h]
  have h1:nameK t=(t.kind == 1 && (nmB t.text && !kwB t.text)):=by
   unfold nameK
   cases t.kind == 1 <;> cases kwB t.text <;> cases nmB t.text <;> rfl
  simp only [numK_dg,h1]
/-- The end of a unary operator: a row of one for its argument, and the result's five cells. -/
theorem un_fin {w W:World} {s5 E:Nat} {a:Ex} {A1:Option Addr} {c1:Nat} {o:Int} (hW:Below w.heap.size w W)
  (hL:LiesE (mask (fun X=>decide (X<s5)) W) W.heap.size (exC a.kind a.op a.name a.val A1 a.args.length c1) a) (hwE:w.heap.size≤E) (hEs:E<s5) (hs:s5≤W.heap.size) (ho:I64 o) :
  Below w.heap.size w ((((((W.alloc (.cells #[.int .i64 a.kind,.int .i64 a.op,.string a.name,.int .i64 a.val,.slice A1 a.args.length c1] 38)).setCell ⟨E,0,none⟩ (.int .i64 3)).setCell ⟨E,1,none⟩ (.int .i64 o)).setCell ⟨E,2,none⟩ (.string ⟨#[]⟩)).setCell ⟨E,3,none⟩ (.int .i64 0)).setCell ⟨E,4,none⟩ (.slice (some ⟨W.heap.size,0,none⟩) 1 1))∧LiesE (mask (fun X=>decide (X<w.heap.size)) ((((((W.alloc (.cells #[.int .i64 a.kind,.int .i64 a.op,.string a.name,.int .i64 a.val,.slice A1 a.args.length c1] 38)).setCell ⟨E,0,none⟩ (.int .i64 3)).setCell ⟨E,1,none⟩ (.int .i64 o)).setCell ⟨E,2,none⟩ (.string ⟨#[]⟩)).setCell ⟨E,3,none⟩ (.int .i64 0)).setCell ⟨E,4,none⟩ (.slice (some ⟨W.heap.size,0,none⟩) 1 1))) ((((((W.alloc (.cells #[.int .i64 a.kind,.int .i64 a.op,.string a.name,.int .i64 a.val,.slice A1 a.args.length c1] 38)).setCell ⟨E,0,none⟩ (.int .i64 3)).setCell ⟨E,1,none⟩ (.int .i64 o)).setCell ⟨E,2,none⟩ (.string ⟨#[]⟩)).setCell ⟨E,3,none⟩ (.int .i64 0)).setCell ⟨E,4,none⟩ (.slice (some ⟨W.heap.size,0,none⟩) 1 1)).heap.size [.int .i64 3,.int .i64 o,.string ⟨#[]⟩,.int .i64 0,.slice (some ⟨W.heap.size,0,none⟩) 1 1] (exUn o a):=by
 have hba:=below_alloc W (.cells #[.int .i64 a.kind,.int .i64 a.op,.string a.name,.int .i64 a.val,.slice A1 a.args.length c1] 38)
 have hbx:=bx_new W #[.int .i64 a.kind,.int .i64 a.op,.string a.name,.int .i64 a.val,.slice A1 a.args.length c1] 38
 have hz:(W.alloc (.cells #[.int .i64 a.kind,.int .i64 a.op,.string a.name,.int .i64 a.val,.slice A1 a.args.length c1] 38)).heap.size=W.heap.size+1:=by simp
 have hL1:=hL.turn (W:=W.alloc (.cells #[.int .i64 a.kind,.int .i64 a.op,.string a.name,.int .i64 a.val,.slice A1 a.args.length c1] 38)) (q:=fun X=>decide (X<s5)) (fun X _ h=>h) hba.size (fun X hX _=>hba.block X hX)
 have hW1:=hW.trans (hba.mono hW.size)
 generalize W.alloc _=V at hba hbx hz hL1 hW1 ⊢
 have hwW:=hW.size
 refine ⟨set5_below hW1 hwE _ _ _ _ _,?_⟩
 rw [set5_size]
 have hL2:=hL1.turn (W:=(((((V.setCell ⟨E,0,none⟩ (.int .i64 3)).setCell ⟨E,1,none⟩ (.int .i64 o)).setCell ⟨E,2,none⟩ (.string ⟨#[]⟩)).setCell ⟨E,3,none⟩ (.int .i64 0)).setCell ⟨E,4,none⟩ (.slice (some ⟨W.heap.size,0,none⟩) 1 1))) (q:=fun X=>decide (X<w.heap.size)) (fun X _ h=>by have:=of_decide_eq_false h; exact decide_eq_false (by omega)) (Nat.le_refl _) (fun X _ hX=>set5_oth (by have:=of_decide_eq_false hX; omega) _ _ _ _ _)
 refine LiesE.mk 3 o ByteArray.empty 0 (some ⟨W.heap.size,0,none⟩) 1 [a] (fun _=>exC a.kind a.op a.name a.val A1 a.args.length c1) ⟨by unfold I64; omega,ho,by unfold I64; omega,by decide,by simp,by simp⟩ (.inr ⟨W.heap.size,0,rfl,by omega,fun j hj q u hu=>?_⟩) (fun j hj=>?_)
 ·obtain rfl:j=0:=by simp at hj; omega
  rw [mask_far (decide_eq_false (by show ¬ W.heap.size<w.heap.size; omega))]
  rw [set5_far _ (by omega)]
  have:=hbx q u hu
  simpa using this
 ·obtain rfl:j=0:=by simp at hj; omega
  exact hL2
/-- An expression copied into the result's box. -/
theorem copy_fin {w W:World} {s5:Nat} {vs:List Value} {x:Ex} (hL:LiesE (mask (fun X=>decide (X<s5)) W) W.heap.size vs x) (_:w.heap.size≤W.heap.size) (hEs:w.heap.size<s5) (v0 v1 v2 v3 v4:Value) :
  LiesE (mask (fun X=>decide (X<w.heap.size)) (((((W.setCell ⟨w.heap.size,0,none⟩ v0).setCell ⟨w.heap.size,1,none⟩ v1).setCell ⟨w.heap.size,2,none⟩ v2).setCell ⟨w.heap.size,3,none⟩ v3).setCell ⟨w.heap.size,4,none⟩ v4)) (((((W.setCell ⟨w.heap.size,0,none⟩ v0).setCell ⟨w.heap.size,1,none⟩ v1).setCell ⟨w.heap.size,2,none⟩ v2).setCell ⟨w.heap.size,3,none⟩ v3).setCell ⟨w.heap.size,4,none⟩ v4).heap.size vs x:=by
 rw [set5_size]
 exact hL.turn (fun X _ h=>by have:=of_decide_eq_false h; exact decide_eq_false (by omega)) (Nat.le_refl _) (fun X _ hX=>set5_oth (by have:=of_decide_eq_false hX; omega) _ _ _ _ _)
set_option maxRecDepth 100000 in
set_option maxHeartbeats 12800000 in
theorem opd_of {A:Option Addr} {c B:Nat} {ts:List Tk} {f:Nat} (hok:TkLim ts) (HO:RopC A c B ts f) (HX:RexC A c B ts f):RopC A c B ts (f+1):=by
 intro k w hK hkl hne
 rw [pP_onx] at hne ⊢
 obtain ⟨k1,hk1⟩:∃ k1,k1=k+1:=⟨_,rfl⟩
 rw [← hk1] at hne ⊢
 have hk0:(0:Int)≤(k:Int):=by omega
 have hlen:=hok.len
 have hwr1:IntKind.i64.wrap ((k:Int)+1)=(k1:Int):=by rw [IntKind.wrap_i64]; omega
 have HNX:=Lib.hid (fun (W:World) (h:TkW A B ts W) (i:Nat)=>rnext_any A c B ts i W h.tok h.lo)
 have HDG:=Lib.hid (fun W=>rdigits_any (nxT ts k) (hok.nx k) W)
 have HNM:=Lib.hid (fun W=>rname2_any (nxT ts k).text (by have:=hok.nx k; omega) W)
 have HKW:=Lib.hid (fun W=>rkw_any (nxT ts k).text W)
 have H45:=Lib.hid (fun W=>ris_any (nxT ts k) ⟨#[45]⟩ W)
 have H33:=Lib.hid (fun W=>ris_any (nxT ts k) ⟨#[33]⟩ W)
 have H40:=Lib.hid (fun W=>ris_any (nxT ts k) ⟨#[40]⟩ W)
 have H41:=Lib.hid (fun (i:Nat) W=>ris_any (nxT ts i) ⟨#[41]⟩ W)
 have L45:Hid (isS (nxT ts k) [45]=true→k1≤ts.length):=Lib.hid (fun h=>by have:=isS_lt h; omega)
 have L33:Hid (isS (nxT ts k) [33]=true→k1≤ts.length):=Lib.hid (fun h=>by have:=isS_lt h; omega)
 have L40:Hid (isS (nxT ts k) [40]=true→k1≤ts.length):=Lib.hid (fun h=>by have:=isS_lt h; omega)
 have HCL:=Lib.hid (fun (e:Ex) (i:Nat)=>closeP_nx ts e i)
 have HIL:Hid (∀ (x:Ex) (i:Nat),k1≤ts.length→pP ts f (.bin 1) k1=.ok x i→i≤ts.length):=Lib.hid (fun x i hk h=>(pP_step ts f (.bin 1) k1 x i h hk).2.1)
 have HO1:=Lib.hid (fun (W:World) (h:TkW A B ts W) (h1:k1≤ts.length) (h2:pP ts f .opd k1≠.out)=>HO k1 W h h1 h2)
 have HX1:=Lib.hid (fun (W:World) (h:TkW A B ts W) (h1:k1≤ts.length) (h2:pP ts f (.bin 1) k1≠.out)=>HX k1 1 W h h1 (by omega) (by omega) h2)
 have H453:Hid (isS (nxT ts k) [45]=true→isS (nxT ts k) [33]=false):=Lib.hid isS_two
 have HN0:=Lib.hid (HNX.out)
 clear HNX HO HX
 have HNXK:=Lib.hid (fun (W:World) (h:TkW A B ts W)=>HN0.out W h k)
 change Hid (∀ W,Calls _ _ _ W (Ret (.bool (isS (nxT ts k) [45])) W)) at H45
 change Hid (∀ W,Calls _ _ _ W (Ret (.bool (isS (nxT ts k) [33])) W)) at H33
 change Hid (∀ W,Calls _ _ _ W (Ret (.bool (isS (nxT ts k) [40])) W)) at H40
 change Hid (∀ i W,Calls _ _ _ W (Ret (.bool (isS (nxT ts i) [41])) W)) at H41
 obtain ⟨R,hR⟩:∃ R,R=(if (nxT ts k).kind == 2 && dgB (nxT ts k) then PR.ok (exNum (nxT ts k).val) k1
   else if (nxT ts k).kind == 1 && (nmB (nxT ts k).text && !kwB (nxT ts k).text) then .ok (exName (nxT ts k).text) k1
   else if isS (nxT ts k) [45] then (pP ts f .opd k1).bind fun e i=>.ok (exUn 1 e) i
   else if isS (nxT ts k) [33] then (pP ts f .opd k1).bind fun e i=>.ok (exUn 2 e) i
   else if isS (nxT ts k) [40] then (pP ts f (.bin 1) k1).bind fun e i=>closeP ts e i
   else .bad k):=⟨_,rfl⟩
 have HR:=Lib.hid hR
 rw [← hR] at hne ⊢
 have HNE:=Lib.hid hne
 have HVB:Hid (dgB (nxT ts k)=true→I64 (nxT ts k).val):=Lib.hid (fun h=>by
  unfold dgB at h
  simp only [Bool.and_eq_true,decide_eq_true_eq] at h
  unfold I64; omega)
 have HTB:=Lib.hid (hok.nx k)
 clear hR hne hk1
 generalize pP ts f .opd k1=P1 at HR HO1
 generalize pP ts f (.bin 1) k1=P2 at HR HX1 HIL
 generalize isS (nxT ts k) [45]=m45 at HR H45 L45 H453
 generalize isS (nxT ts k) [33]=m33 at HR H33 L33 H453
 generalize isS (nxT ts k) [40]=m40 at HR H40 L40
 generalize dgB (nxT ts k)=dg at HR HDG HVB
 generalize nxT ts k=t at HR HDG HNM HKW H45 H33 H40 HNXK HVB HTB
 obtain ⟨kd,tx,vl,ps⟩:=t
 unfold tkV at HDG H45 H33 H40 HNXK
 unfold RetP at HNM
 unfold Ret at HDG HKW H45 H33 H40 H41 HNXK
 unfold OpR at HO1 HX1
 simp only at HDG HNM HKW H45 H33 H40 HNXK HR HVB HTB
 generalize nmB tx=nm at HNM HR
 generalize kwB tx=kw at HKW HR
 obtain ⟨N1,hN1⟩:∃ N1,N1=(kd == 2 && dg):=⟨_,rfl⟩
 obtain ⟨N2,hN2⟩:∃ N2,N2=(kd == 1 && (nm && !kw)):=⟨_,rfl⟩
 rw [← hN1,← hN2] at HR
 have HN1:=Lib.hid hN1
 have HN2:=Lib.hid hN2
 clear hN1 hN2
 have hO:=one_new w #[.int .i64 0,.int .i64 0,.string ⟨#[]⟩,.int .i64 0,.slice none 0 0] 38
 have hE0:(w.alloc (.cells #[.int .i64 0,.int .i64 0,.string ⟨#[]⟩,.int .i64 0,.slice none 0 0] 38)).heap[w.heap.size]? = some (.cells #[.int .i64 0,.int .i64 0,.string ⟨#[]⟩,.int .i64 0,.slice none 0 0] 38 (0,0)):=heap_alloc_new w _
 have hB0:=below_alloc w (.cells #[.int .i64 0,.int .i64 0,.string ⟨#[]⟩,.int .i64 0,.slice none 0 0] 38)
 have hK0:=hK.next hB0
 have hsz0:(w.alloc (.cells #[.int .i64 0,.int .i64 0,.string ⟨#[]⟩,.int .i64 0,.slice none 0 0] 38)).heap.size=w.heap.size+1:=by simp
 clear hO hK
 go_enter Tryz.func160,Tryz.ntmps160
 go_upto_region 1 with fail
 generalize w.alloc _=w1 at hE0 hB0 hK0 hsz0 ⊢
 go_upto_region 2 with (go_at_call 162; refine (HNXK.out w1 hK0).mono ?_; rintro e W2 ⟨rfl,hb2⟩)
 have hb3:=hb2.trans (below_alloc2 hb2.size (.cells #[.int .i64 kd,.string tx,.int .i64 vl,.int .i64 (ps:Nat)] 69))
 have hT:(W2.alloc (.cells #[.int .i64 kd,.string tx,.int .i64 vl,.int .i64 (ps:Nat)] 69)).heap[W2.heap.size]? = some (.cells #[.int .i64 kd,.string tx,.int .i64 vl,.int .i64 (ps:Nat)] 69 (0,0)):=heap_alloc_new W2 _
 have hB:=hB0.trans (hb3.mono hB0.size)
 have hE:=heap_next hE0 hb3
 have hK:=hK0.next hb3
 have hET:w.heap.size<W2.heap.size:=by have:=hb2.size; omega
 generalize W2.alloc _=W at hb3 hT hB hE hK ⊢
 generalize W2.heap.size=T at hT hET ⊢
 clear hb2 hb3 hE0 hB0 hK0 hsz0 HNXK
 go_cut [24] (fun b wx=>b=.bool N1∧Below w.heap.size w wx∧wx.heap[w.heap.size]? = some (.cells #[.int .i64 0,.int .i64 0,.string ⟨#[]⟩,.int .i64 0,.slice none 0 0] 38 (0,0))∧wx.heap[T]? = some (.cells #[.int .i64 kd,.string tx,.int .i64 vl,.int .i64 (ps:Nat)] 69 (0,0))∧TkW A B ts wx)
 case first=>
  obtain ⟨t0,t1,t2,t3⟩:=row4 hT
  by_cases h2:kd=2
  ·have e1:(kd == 2)=true:=by simpa using h2
   have HV:Hid (N1=dg):=Lib.hid (by rw [HN1.out,e1]; rfl)
   subst h2
   clear e1
   go_wp2_with fail
   refine (HDG.out _).mono ?_
   rintro e W5 ⟨rfl,hb5⟩
   replace hB:=hB.trans (hb5.mono hB.size)
   replace hE:=heap_next hE hb5
   replace hT:=heap_next hT hb5
   replace hK:=hK.next hb5
   clear hb5
   clear t0 t1 t2 t3
   go_wp2_with fail
   go_meet
   case rel=>exact ⟨by rw [HV.out],hB,hE,hT,hK⟩
  ·have e1:(kd == 2)=false:=by simpa using h2
   have HV:Hid (N1=false):=Lib.hid (by rw [HN1.out,e1]; rfl)
   go_wp2_with fail
   go_meet
   case rel=>exact ⟨by rw [HV.out],hB,hE,hT,hK⟩
 case rest=>
  clear hB hE hT hK
  obtain ⟨rfl,hB,hE,hT,hK⟩:=hcut
  cases N1 with
  | true=>
   have HD1:Hid (dg=true):=Lib.hid (by have:=HN1.out.symm; rw [Bool.and_eq_true] at this; exact this.2)
   have HV:Hid (R=.ok (exNum vl) k1):=Lib.hid (by rw [HR.out]; rfl)
   have HI:=Lib.hid (HVB.out HD1.out)
   obtain ⟨⟨z0,z1,z2,z3,z4⟩,z5⟩:=row5 hE
   have z50:=z5 0
   have z51:=z5 1
   have z52:=z5 2
   have z53:=z5 3
   have z54:=z5 4
   obtain ⟨t0,t1,t2,t3⟩:=row4 hT
   go_wp2_with fail
   refine bodyPost_ret (v:=.tuple #[.agg #[.int .i64 1,.int .i64 0,.string ⟨#[]⟩,.int .i64 vl,.slice none 0 0],.int .i64 (k1:Nat),.bool true]) (results_c2t rfl rfl (ld5 (set5_blk hE _ _ _ _ _)) rfl rfl) rfl ?_
   unfold OpR
   rw [HV.out]
   exact ⟨set5_below hB (Nat.le_refl _) _ _ _ _ _,[.int .i64 1,.int .i64 0,.string ⟨#[]⟩,.int .i64 vl,.slice none 0 0],rfl,leaf_lies _ _ 1 0 vl ByteArray.empty ⟨by unfold I64; omega,by unfold I64; omega,HI.out,by decide⟩⟩
  | false=>
   have HR2:Hid (R=(if N2 then PR.ok (exName tx) k1 else if m45 then P1.bind fun e i=>.ok (exUn 1 e) i else if m33 then P1.bind fun e i=>.ok (exUn 2 e) i else if m40 then P2.bind fun e i=>closeP ts e i else .bad k)):=Lib.hid (by rw [HR.out]; rfl)
   clear HR HN1 HDG HVB
   obtain ⟨t0,t1,t2,t3⟩:=row4 hT
   go_upto_region 4 with fail
   clear t0 t1 t2 t3
   go_cut [43] (fun b wx=>b=.bool N2∧Below w.heap.size w wx∧wx.heap[w.heap.size]? = some (.cells #[.int .i64 0,.int .i64 0,.string ⟨#[]⟩,.int .i64 0,.slice none 0 0] 38 (0,0))∧wx.heap[T]? = some (.cells #[.int .i64 kd,.string tx,.int .i64 vl,.int .i64 (ps:Nat)] 69 (0,0))∧TkW A B ts wx)
   case first=>
    rename_i wcx
    obtain ⟨t0,t1,t2,t3⟩:=row4 hT
    by_cases h1:kd=1
    ·have e1:(kd == 1)=true:=by simpa using h1
     go_wp2_with fail
     refine (HNM.out _).mono ?_
     rintro e W5 ⟨rfl,hw5⟩
     obtain rfl:=hw5.symm
     cases nm with
     | true=>
      have HV:Hid (N2 = !kw):=Lib.hid (by rw [HN2.out,e1]; rfl)
      go_wp2_with fail
      refine (HKW.out _).mono ?_
      rintro e W6 ⟨rfl,hb6⟩
      replace hB:=hB.trans (hb6.mono hB.size)
      replace hE:=heap_next hE hb6
      replace hT:=heap_next hT hb6
      replace hK:=hK.next hb6
      clear hb6
      clear t0 t1 t2 t3
      go_wp2_with fail
      go_meet
      case rel=>exact ⟨by rw [HV.out],hB,hE,hT,hK⟩
     | false=>
      have HV:Hid (N2=false):=Lib.hid (by rw [HN2.out,e1]; rfl)
      go_wp2_with fail
      go_meet
      case rel=>exact ⟨by rw [HV.out],hB,hE,hT,hK⟩
    ·have e1:(kd == 1)=false:=by simpa using h1
     have HV:Hid (N2=false):=Lib.hid (by rw [HN2.out,e1]; rfl)
     go_wp2_with fail
     go_meet
     case rel=>exact ⟨by rw [HV.out],hB,hE,hT,hK⟩
   case rest=>
    clear hB hE hT hK
    obtain ⟨rfl,hB,hE,hT,hK⟩:=hcut
    cases N2 with
    | true=>
     have HV:Hid (R=.ok (exName tx) k1):=Lib.hid (by rw [HR2.out]; rfl)
     obtain ⟨⟨z0,z1,z2,z3,z4⟩,z5⟩:=row5 hE
     have z50:=z5 0
     have z51:=z5 1
     have z52:=z5 2
     have z53:=z5 3
     have z54:=z5 4
     obtain ⟨t0,t1,t2,t3⟩:=row4 hT
     go_wp2_with fail
     refine bodyPost_ret (v:=.tuple #[.agg #[.int .i64 2,.int .i64 0,.string tx,.int .i64 0,.slice none 0 0],.int .i64 (k1:Nat),.bool true]) (results_c2t rfl rfl (ld5 (set5_blk hE _ _ _ _ _)) rfl rfl) rfl ?_
     unfold OpR
     rw [HV.out]
     exact ⟨set5_below hB (Nat.le_refl _) _ _ _ _ _,[.int .i64 2,.int .i64 0,.string tx,.int .i64 0,.slice none 0 0],rfl,leaf_lies _ _ 2 0 0 tx ⟨by unfold I64; omega,by unfold I64; omega,by unfold I64; omega,by have:=HTB.out; omega⟩⟩
    | false=>
     have HR3:Hid (R=(if m45 then P1.bind fun e i=>PR.ok (exUn 1 e) i else if m33 then P1.bind fun e i=>.ok (exUn 2 e) i else if m40 then P2.bind fun e i=>closeP ts e i else .bad k)):=Lib.hid (by rw [HR2.out]; rfl)
     clear HR2 HN2 HNM HKW
     obtain ⟨t0,t1,t2,t3⟩:=row4 hT
     go_upto_region 6 with fail
     clear t0 t1 t2 t3
     go_cut [54] (fun b wx=>b=.bool (m45 || m33)∧Below w.heap.size w wx∧wx.heap[w.heap.size]? = some (.cells #[.int .i64 0,.int .i64 0,.string ⟨#[]⟩,.int .i64 0,.slice none 0 0] 38 (0,0))∧wx.heap[T]? = some (.cells #[.int .i64 kd,.string tx,.int .i64 vl,.int .i64 (ps:Nat)] 69 (0,0))∧TkW A B ts wx)
     case first=>
      obtain ⟨t0,t1,t2,t3⟩:=row4 hT
      go_wp2_with fail
      refine (H45.out _).mono ?_
      rintro e W5 ⟨rfl,hb5⟩
      replace hB:=hB.trans (hb5.mono hB.size)
      replace hE:=heap_next hE hb5
      replace hT:=heap_next hT hb5
      replace hK:=hK.next hb5
      clear hb5
      clear t0 t1 t2 t3
      obtain ⟨t0,t1,t2,t3⟩:=row4 hT
      cases m45 with
      | true=>
       go_wp2_with fail
       go_meet
       case rel=>exact ⟨rfl,hB,hE,hT,hK⟩
      | false=>
       go_wp2_with fail
       refine (H33.out _).mono ?_
       rintro e W6 ⟨rfl,hb6⟩
       replace hB:=hB.trans (hb6.mono hB.size)
       replace hE:=heap_next hE hb6
       replace hT:=heap_next hT hb6
       replace hK:=hK.next hb6
       clear hb6
       clear t0 t1 t2 t3
       go_wp2_with fail
       go_meet
       case rel=>exact ⟨by cases m33 <;> rfl,hB,hE,hT,hK⟩
     case rest=>
      clear hB hE hT hK
      obtain ⟨rfl,hB,hE,hT,hK⟩:=hcut
      cases hm:(m45 || m33) with
      | true=>
       have hk1:k1≤ts.length:=by
        rw [Bool.or_eq_true] at hm
        rcases hm with h | h
        ·exact L45.out h
        ·exact L33.out h
       have HR4:Hid (R=P1.bind fun e i=>PR.ok (exUn (if m45 then 1 else 2) e) i):=Lib.hid (by
        rw [HR3.out]
        cases m45 with
        | true=>rfl
        | false=>rw [Bool.false_or] at hm; rw [hm]; rfl)
       clear HR3 HX1
       have hn1:P1≠.out:=fun e=>HNE.out (by rw [HR4.out,e]; rfl)
       have HM:=Lib.hid hm
       clear hm
       have HP1:=Lib.hid (fun (W:World) (h:TkW A B ts W)=>HO1.out W h hk1 hn1)
       cases P1 with
       | out=>exact absurd rfl hn1
       | bad i=>
        have HV:Hid (R=.bad i):=Lib.hid (by rw [HR4.out]; rfl)
        have HP2:Hid (∀ W,TkW A B ts W→Calls Tryz.prog 160 #[.slice A ts.length c,.int .i64 (k1:Nat)] W (fun e W'=>Below W.heap.size W W'∧e=.returned (.tuple #[.agg #[.int .i64 0,.int .i64 0,.string ⟨#[]⟩,.int .i64 0,.slice none 0 0],.int .i64 (i:Nat),.bool false]))):=Lib.hid HP1.out
        clear HP1 HO1 hn1 HR4
        go_wp2_with fail
        refine (HP2.out _ hK).mono ?_
        rintro e W5 ⟨hb5,rfl⟩
        replace hb5:=hb5.trans (below_alloc2 hb5.size (.cells #[.int .i64 0,.int .i64 0,.string ⟨#[]⟩,.int .i64 0,.slice none 0 0] 38))
        go_upto_region 9 with fail
        generalize W5.alloc _=W6 at hb5 ⊢
        replace hB:=hB.trans (hb5.mono hB.size)
        replace hE:=heap_next hE hb5
        replace hT:=heap_next hT hb5
        replace hK:=hK.next hb5
        clear hb5
        obtain ⟨⟨z0,z1,z2,z3,z4⟩,z5⟩:=row5 hE
        have z50:=z5 0
        have z51:=z5 1
        have z52:=z5 2
        have z53:=z5 3
        have z54:=z5 4
        go_wp2_with fail
        refine bodyPost_ret (v:=.tuple #[.agg #[.int .i64 0,.int .i64 0,.string ⟨#[]⟩,.int .i64 0,.slice none 0 0],.int .i64 (i:Nat),.bool false]) (results_c2t rfl rfl (ld5 (set5_blk hE _ _ _ _ _)) rfl rfl) rfl ?_
        unfold OpR
        rw [HV.out]
        exact ⟨set5_below hB (Nat.le_refl _) _ _ _ _ _,rfl⟩
       | ok x i=>
        have HP2:Hid (∀ W,TkW A B ts W→Calls Tryz.prog 160 #[.slice A ts.length c,.int .i64 (k1:Nat)] W (fun e W'=>Below W.heap.size W W'∧∃ vs,e=.returned (.tuple #[.agg vs.toArray,.int .i64 (i:Nat),.bool true])∧LiesE (mask (fun X=>decide (X<W.heap.size)) W') W'.heap.size vs x)):=Lib.hid HP1.out
        clear HP1 HO1 hn1
        have HV:Hid (R=.ok (exUn (if m45 then 1 else 2) x) i):=Lib.hid (by rw [HR4.out]; rfl)
        clear HR4
        go_wp2_with fail
        refine (HP2.out _ hK).mono ?_
        rintro e W5 ⟨hb5,vs,rfl,hL5⟩
        obtain ⟨A1,c1,row,rfl,-,-⟩:=hL5.form
        have hEs:=heap_lt hE
        have hb6:=hb5.trans (below_alloc2 hb5.size (.cells #[.int .i64 x.kind,.int .i64 x.op,.string x.name,.int .i64 x.val,.slice A1 x.args.length c1] 38))
        have hG:(W5.alloc (.cells #[.int .i64 x.kind,.int .i64 x.op,.string x.name,.int .i64 x.val,.slice A1 x.args.length c1] 38)).heap[W5.heap.size]? = some (.cells #[.int .i64 x.kind,.int .i64 x.op,.string x.name,.int .i64 x.val,.slice A1 x.args.length c1] 38 (0,0)):=heap_alloc_new W5 _
        have hba:=below_alloc W5 (.cells #[.int .i64 x.kind,.int .i64 x.op,.string x.name,.int .i64 x.val,.slice A1 x.args.length c1] 38)
        have hL6:=hL5.turn (W:=W5.alloc (.cells #[.int .i64 x.kind,.int .i64 x.op,.string x.name,.int .i64 x.val,.slice A1 x.args.length c1] 38)) (q:=fun X=>decide (X<wc.heap.size)) (fun X _ h=>h) hba.size (fun X hX _=>hba.block X hX)
        have hs6:wc.heap.size≤(W5.alloc (.cells #[.int .i64 x.kind,.int .i64 x.op,.string x.name,.int .i64 x.val,.slice A1 x.args.length c1] 38)).heap.size:=hb6.size
        unfold exC at *
        go_upto_region 10 with fail
        generalize W5.alloc _=W6 at hb6 hG hL6 hs6 hba ⊢
        generalize W5.heap.size=G at hG ⊢
        clear hb5 hL5 hba
        replace hB:=hB.trans (hb6.mono hB.size)
        replace hE:=heap_next hE hb6
        replace hT:=heap_next hT hb6
        clear hb6 hK
        obtain ⟨t0,t1,t2,t3⟩:=row4 hT
        go_wp2_with fail
        refine (H33.out _).mono ?_
        rintro e W7 ⟨rfl,hb7⟩
        replace hB:=hB.trans (hb7.mono hB.size)
        replace hE:=heap_next hE hb7
        replace hG:=heap_next hG hb7
        have hL7:=hL6.turn (W:=W7) (q:=fun X=>decide (X<wc.heap.size)) (fun X _ h=>h) hb7.size (fun X hX _=>hb7.block X hX)
        have hs7:=Nat.le_trans hs6 hb7.size
        clear hb7 hL6 hs6 t0 t1 t2 t3 hT
        obtain ⟨⟨g0,g1,g2,g3,g4⟩,-⟩:=row5 hG
        have hE8:=heap_next hE (below_alloc W7 (.cells #[.int .i64 x.kind,.int .i64 x.op,.string x.name,.int .i64 x.val,.slice A1 x.args.length c1] 38))
        obtain ⟨⟨z0,z1,z2,z3,z4⟩,z5⟩:=row5 hE8
        have z50:=z5 0
        have z51:=z5 1
        have z52:=z5 2
        have z53:=z5 3
        have z54:=z5 4
        cases m33 with
        | true=>
         have HO:Hid ((if m45 then (1:Int) else 2)=2):=Lib.hid (by
          cases m45 with
          | true=>have:=H453.out rfl; cases this
          | false=>rfl)
         rw [HO.out] at HV
         obtain ⟨u1,u2⟩:=un_fin (o:=2) hB hL7 (Nat.le_refl _) hEs hs7 (by unfold I64; omega)
         go_wp2_with fail
         refine bodyPost_ret (v:=.tuple #[.agg #[.int .i64 3,.int .i64 2,.string ⟨#[]⟩,.int .i64 0,.slice (some ⟨W7.heap.size,0,none⟩) 1 1],.int .i64 (i:Nat),.bool true]) (results_c2t rfl rfl (ld5 (set5_blk hE8 _ _ _ _ _)) rfl rfl) rfl ?_
         unfold OpR
         rw [HV.out]
         exact ⟨u1,_,rfl,u2⟩
        | false=>
         have HO:Hid ((if m45 then (1:Int) else 2)=1):=Lib.hid (by
          have:=HM.out
          rw [Bool.or_false] at this
          rw [this]; rfl)
         rw [HO.out] at HV
         obtain ⟨u1,u2⟩:=un_fin (o:=1) hB hL7 (Nat.le_refl _) hEs hs7 (by unfold I64; omega)
         go_wp2_with fail
         refine bodyPost_ret (v:=.tuple #[.agg #[.int .i64 3,.int .i64 1,.string ⟨#[]⟩,.int .i64 0,.slice (some ⟨W7.heap.size,0,none⟩) 1 1],.int .i64 (i:Nat),.bool true]) (results_c2t rfl rfl (ld5 (set5_blk hE8 _ _ _ _ _)) rfl rfl) rfl ?_
         unfold OpR
         rw [HV.out]
         exact ⟨u1,_,rfl,u2⟩
      | false=>
       obtain ⟨rfl,rfl⟩:m45=false∧m33=false:=by simpa using hm
       have HR4:Hid (R=(if m40 then P2.bind fun e i=>closeP ts e i else .bad k)):=Lib.hid (by rw [HR3.out]; rfl)
       clear HR3 hm HO1
       cases m40 with
       | false=>
        have HV:Hid (R=.bad k):=Lib.hid (by rw [HR4.out]; rfl)
        obtain ⟨t0,t1,t2,t3⟩:=row4 hT
        go_wp2_with fail
        refine (H40.out _).mono ?_
        rintro e W5 ⟨rfl,hb5⟩
        replace hB:=hB.trans (hb5.mono hB.size)
        replace hE:=heap_next hE hb5
        replace hT:=heap_next hT hb5
        replace hK:=hK.next hb5
        clear hb5
        clear t0 t1 t2 t3
        obtain ⟨⟨z0,z1,z2,z3,z4⟩,z5⟩:=row5 hE
        have z50:=z5 0
        have z51:=z5 1
        have z52:=z5 2
        have z53:=z5 3
        have z54:=z5 4
        go_wp2_with fail
        refine bodyPost_ret (v:=.tuple #[.agg #[.int .i64 0,.int .i64 0,.string ⟨#[]⟩,.int .i64 0,.slice none 0 0],.int .i64 (k:Nat),.bool false]) (results_c2t rfl rfl (ld5 (set5_blk hE _ _ _ _ _)) rfl rfl) rfl ?_
        unfold OpR
        rw [HV.out]
        exact ⟨set5_below hB (Nat.le_refl _) _ _ _ _ _,rfl⟩
       | true=>
        have hk1:k1≤ts.length:=L40.out rfl
        have HR6:Hid (R=P2.bind fun e i=>closeP ts e i):=Lib.hid (by rw [HR4.out]; rfl)
        have hn1:P2≠.out:=fun e=>HNE.out (by rw [HR6.out,e]; rfl)
        clear HR4
        have HR4:=Lib.hid HR6.out
        clear HR6
        obtain ⟨t0,t1,t2,t3⟩:=row4 hT
        go_wp2_with fail
        refine (H40.out _).mono ?_
        rintro e wc ⟨rfl,hb5⟩
        replace hB:=hB.trans (hb5.mono hB.size)
        replace hE:=heap_next hE hb5
        replace hT:=heap_next hT hb5
        replace hK:=hK.next hb5
        clear hb5
        clear t0 t1 t2 t3
        have HP1:=Lib.hid (fun (W:World) (h:TkW A B ts W)=>HX1.out W h hk1 hn1)
        cases P2 with
        | out=>exact absurd rfl hn1
        | bad i=>
         have HV:Hid (R=.bad i):=Lib.hid (by rw [HR4.out]; rfl)
         have HP2:Hid (∀ W,TkW A B ts W→Calls Tryz.prog 137 #[.slice A ts.length c,.int .i64 (k1:Nat),.int .i64 ((1:Nat):Int)] W (fun e W'=>Below W.heap.size W W'∧e=.returned (.tuple #[.agg #[.int .i64 0,.int .i64 0,.string ⟨#[]⟩,.int .i64 0,.slice none 0 0],.int .i64 (i:Nat),.bool false]))):=Lib.hid HP1.out
         clear HP1 HX1 hn1 HR4
         go_wp2_with fail
         refine (HP2.out _ hK).mono ?_
         rintro e W5 ⟨hb5,rfl⟩
         replace hb5:=hb5.trans (below_alloc2 hb5.size (.cells #[.int .i64 0,.int .i64 0,.string ⟨#[]⟩,.int .i64 0,.slice none 0 0] 38))
         go_upto_region 18 with fail
         generalize W5.alloc _=W6 at hb5 ⊢
         replace hB:=hB.trans (hb5.mono hB.size)
         replace hE:=heap_next hE hb5
         replace hT:=heap_next hT hb5
         replace hK:=hK.next hb5
         clear hb5
         obtain ⟨⟨z0,z1,z2,z3,z4⟩,z5⟩:=row5 hE
         have z50:=z5 0
         have z51:=z5 1
         have z52:=z5 2
         have z53:=z5 3
         have z54:=z5 4
         go_wp2_with fail
         refine bodyPost_ret (v:=.tuple #[.agg #[.int .i64 0,.int .i64 0,.string ⟨#[]⟩,.int .i64 0,.slice none 0 0],.int .i64 (i:Nat),.bool false]) (results_c2t rfl rfl (ld5 (set5_blk hE _ _ _ _ _)) rfl rfl) rfl ?_
         unfold OpR
         rw [HV.out]
         exact ⟨set5_below hB (Nat.le_refl _) _ _ _ _ _,rfl⟩
        | ok x i=>
         have HP2:Hid (∀ W,TkW A B ts W→Calls Tryz.prog 137 #[.slice A ts.length c,.int .i64 (k1:Nat),.int .i64 ((1:Nat):Int)] W (fun e W'=>Below W.heap.size W W'∧∃ vs,e=.returned (.tuple #[.agg vs.toArray,.int .i64 (i:Nat),.bool true])∧LiesE (mask (fun X=>decide (X<W.heap.size)) W') W'.heap.size vs x)):=Lib.hid HP1.out
         clear HP1 HX1 hn1
         have hil:=HIL.out x i hk1 rfl
         have HR5:Hid (R=if isS (nxT ts i) [41] then .ok x (i+1) else .bad i):=Lib.hid (by rw [HR4.out]; exact HCL.out x i)
         clear HR4 HIL
         obtain ⟨i1,hi1⟩:∃ i1,i1=i+1:=⟨_,rfl⟩
         rw [← hi1] at HR5
         have hwi1:IntKind.i64.wrap ((i:Int)+1)=(i1:Int):=by rw [IntKind.wrap_i64]; omega
         have H41i:=Lib.hid (fun W=>H41.out i W)
         have HNXI:=Lib.hid (fun (W:World) (h:TkW A B ts W)=>HN0.out W h i)
         unfold Ret at HNXI
         generalize isS (nxT ts i) [41]=m41 at HR5 H41i
         generalize nxT ts i=u at H41i HNXI
         obtain ⟨kd2,tx2,vl2,ps2⟩:=u
         unfold tkV at H41i HNXI
         simp only at H41i HNXI
         clear hi1 hil H41 HN0 HCL
         go_wp2_with fail
         refine (HP2.out _ hK).mono ?_
         rintro e W5 ⟨hb5,vs,rfl,hL5⟩
         obtain ⟨A1,c1,row,rfl,-,-⟩:=hL5.form
         have hEs:=heap_lt hE
         have hb6:=hb5.trans (below_alloc2 hb5.size (.cells #[.int .i64 x.kind,.int .i64 x.op,.string x.name,.int .i64 x.val,.slice A1 x.args.length c1] 38))
         have hG:(W5.alloc (.cells #[.int .i64 x.kind,.int .i64 x.op,.string x.name,.int .i64 x.val,.slice A1 x.args.length c1] 38)).heap[W5.heap.size]? = some (.cells #[.int .i64 x.kind,.int .i64 x.op,.string x.name,.int .i64 x.val,.slice A1 x.args.length c1] 38 (0,0)):=heap_alloc_new W5 _
         have hba:=below_alloc W5 (.cells #[.int .i64 x.kind,.int .i64 x.op,.string x.name,.int .i64 x.val,.slice A1 x.args.length c1] 38)
         have hL6:=hL5.turn (W:=W5.alloc (.cells #[.int .i64 x.kind,.int .i64 x.op,.string x.name,.int .i64 x.val,.slice A1 x.args.length c1] 38)) (q:=fun X=>decide (X<wc.heap.size)) (fun X _ h=>h) hba.size (fun X hX _=>hba.block X hX)
         have hs6:wc.heap.size≤(W5.alloc (.cells #[.int .i64 x.kind,.int .i64 x.op,.string x.name,.int .i64 x.val,.slice A1 x.args.length c1] 38)).heap.size:=hb6.size
         unfold exC at *
         go_upto_region 19 with fail
         generalize W5.alloc _=W6 at hb6 hG hL6 hs6 hba ⊢
         generalize W5.heap.size=G at hG ⊢
         clear hb5 hL5 hba
         replace hB:=hB.trans (hb6.mono hB.size)
         replace hE:=heap_next hE hb6
         replace hK:=hK.next hb6
         clear hb6 hT
         go_wp2_with fail
         refine (HNXI.out _ hK).mono ?_
         rintro e W7 ⟨rfl,hb7⟩
         go_wp2_with fail
         refine (H41i.out _).mono ?_
         rintro e W8 ⟨rfl,hb8⟩
         replace hb7:=hb7.trans (hb8.mono hb7.size)
         replace hB:=hB.trans (hb7.mono hB.size)
         replace hE:=heap_next hE hb7
         replace hG:=heap_next hG hb7
         have hL7:=hL6.turn (W:=W8) (q:=fun X=>decide (X<wc.heap.size)) (fun X _ h=>h) hb7.size (fun X hX _=>hb7.block X hX)
         have hs7:=Nat.le_trans hs6 hb7.size
         clear hb7 hb8 hL6 hs6 hK
         cases m41 with
         | false=>
          have HV:Hid (R=.bad i):=Lib.hid (by rw [HR5.out]; rfl)
          obtain ⟨⟨z0,z1,z2,z3,z4⟩,z5⟩:=row5 hE
          have z50:=z5 0
          have z51:=z5 1
          have z52:=z5 2
          have z53:=z5 3
          have z54:=z5 4
          go_wp2_with fail
          refine bodyPost_ret (v:=.tuple #[.agg #[.int .i64 0,.int .i64 0,.string ⟨#[]⟩,.int .i64 0,.slice none 0 0],.int .i64 (i:Nat),.bool false]) (results_c2t rfl rfl (ld5 (set5_blk hE _ _ _ _ _)) rfl rfl) rfl ?_
          unfold OpR
          rw [HV.out]
          exact ⟨set5_below hB (Nat.le_refl _) _ _ _ _ _,rfl⟩
         | true=>
          have HV:Hid (R=.ok x i1):=Lib.hid (by rw [HR5.out]; rfl)
          obtain ⟨⟨g0,g1,g2,g3,g4⟩,-⟩:=row5 hG
          obtain ⟨⟨z0,z1,z2,z3,z4⟩,z5⟩:=row5 hE
          have z50:=z5 0
          have z51:=z5 1
          have z52:=z5 2
          have z53:=z5 3
          have z54:=z5 4
          have u2:=copy_fin hL7 hB.size hEs (.int .i64 x.kind) (.int .i64 x.op) (.string x.name) (.int .i64 x.val) (.slice A1 x.args.length c1)
          go_wp2_with fail
          refine bodyPost_ret (v:=.tuple #[.agg #[.int .i64 x.kind,.int .i64 x.op,.string x.name,.int .i64 x.val,.slice A1 x.args.length c1],.int .i64 (i1:Nat),.bool true]) (results_c2t rfl rfl (ld5 (set5_blk hE _ _ _ _ _)) rfl rfl) rfl ?_
          unfold OpR
          rw [HV.out]
          exact ⟨set5_below hB (Nat.le_refl _) _ _ _ _ _,_,rfl,u2⟩
end Go.Proofs.YtmbffkemfepekaaGreatDoor
