/- lexer.Expr, walked. Conditions: the tokens lie in memory, at most 4001 of them. -/
import Derived.Test.YtmbffkemfepekaaGreatDoorPtRd3
import Derived.Test.YtmbffkemfepekaaGreatDoorPtPrM
namespace Go.Proofs.YtmbffkemfepekaaGreatDoor
open Go.RowKit
theorem results_ctt {fn:Func} {a b d:Tmp} {t:TypeId} (h:fn.results=#[.cell a t,.tmp b,.tmp d]) {tmps:Array Value} {P:Program} {w:World} {pa:Addr} {va:Value}
  (ha:tmps.getD a undef=.pointer (some pa)) (hva:(loadVar t pa).run P w=.ok va w):(results fn tmps).run P w=.ok (.tuple #[va,tmps.getD b undef,tmps.getD d undef]) w:=by
 have hx:(asAddr (.pointer (some pa))).run P w=.ok pa w:=rfl
 have hp:∀ {α:Type} (x:α) (w:World),(pure x:Sem α).run P w=.ok x w:=fun _ _=>rfl
 unfold results
 rw [h]
 simp only [List.mapM_toArray,List.mapM_cons,List.mapM_nil,Sem.run_bind,run_map',ha,hx,hva,Result.andThen,hp]
 rfl
/-- What Expr gives. -/
def ExprR (ts:List Tk) (w:World):Ending→World→Prop:=fun e W=>Below w.heap.size w W∧∃ vs,e=.returned (.tuple #[.agg vs.toArray,.int .i64 ((exprR ts).2.1:Nat),.int .i64 ((exprR ts).2.2:Nat)])∧LiesE (mask (fun X=>decide (X<w.heap.size)) W) W.heap.size vs (exprR ts).1∧(exprR ts).2.1≤ts.length
/-- The end of Expr: the result's box is written to. -/
theorem expr_end {w W:World} {E:Nat} {v0 v1 v2 v3 v4:Value} {x:Ex} (hb:Below w.heap.size w W) (hE:w.heap.size≤E) (hL:LiesE (mask (fun X=>decide (X≤E)) W) W.heap.size [v0,v1,v2,v3,v4] x) :
  Below w.heap.size w (((((W.setCell ⟨E,0,none⟩ v0).setCell ⟨E,1,none⟩ v1).setCell ⟨E,2,none⟩ v2).setCell ⟨E,3,none⟩ v3).setCell ⟨E,4,none⟩ v4) ∧
  LiesE (mask (fun X=>decide (X<w.heap.size)) (((((W.setCell ⟨E,0,none⟩ v0).setCell ⟨E,1,none⟩ v1).setCell ⟨E,2,none⟩ v2).setCell ⟨E,3,none⟩ v3).setCell ⟨E,4,none⟩ v4)) (((((W.setCell ⟨E,0,none⟩ v0).setCell ⟨E,1,none⟩ v1).setCell ⟨E,2,none⟩ v2).setCell ⟨E,3,none⟩ v3).setCell ⟨E,4,none⟩ v4).heap.size [v0,v1,v2,v3,v4] x:=by
 refine ⟨set5_below hb hE _ _ _ _ _,?_⟩
 rw [set5_size]
 exact hL.turn (fun X _ h=>by have:=of_decide_eq_false h; exact decide_eq_false (by omega)) (Nat.le_refl _) (fun X _ hX=>heap_set5 (by have:=of_decide_eq_false hX; omega) _ _ _ _ _)
theorem lies_zero (w:World) (B:Nat):LiesE w B zEx.toList ex0:=lies_leaf w B 0 0 0 ByteArray.empty ⟨by unfold I64; omega,by unfold I64; omega,by unfold I64; omega,by decide⟩
theorem blk_new (w:World) (o:Obj):(w.alloc o).heap[w.heap.size]? = some o:=heap_alloc_new w o
set_option maxRecDepth 100000 in
set_option maxHeartbeats 6400000 in
theorem expr_any {B:Nat} {A:Option Addr} {c:Nat} {ts:List Tk} (w:World) (hR:Rd w B 4 A ts.length (tkCs ts)) (hB:B≤w.heap.size) (hen:Env B w) (hlen:ts.length≤4001) (hok:∀ t∈ts,TkOk t) :
  Calls Tryz.prog 51 #[.slice A ts.length c] w (ExprR ts w):=by
 have HRD:=Lib.hid (fun (W:World) (hb:Below w.heap.size w W)=>read_any (c:=c) W (hR.below' hb hB) (Nat.le_trans hB hb.size) (hen.next (hb.mono hB)) hlen hok)
 have HX:Hid (exprR ts=match readP ts with | .ok e n=>if chkE e=0 then (e,n,0) else (ex0,0,chkE e) | .bad n=>(ex0,n,3) | .out=>(ex0,0,3)):=Lib.hid rfl
 have hne:=readP_ne ts
 unfold ExprR
 generalize exprR ts=xr at HX ⊢
 generalize hpr:readP ts=pr at HRD HX hne
 unfold readP at hpr
 unfold ReadR at HRD
 have g1:decide ((ts.length:Int) > 4001)=false:=decide_eq_false (by omega)
 have g2:decide (4001<ts.length)=false:=decide_eq_false (by omega)
 have hE:=blk_new w (.cells zEx 38)
 have hb1:=below_alloc w (.cells zEx 38)
 have hz1:w.heap.size<(w.alloc (.cells zEx 38)).heap.size:=by simp
 clear hR hen hlen hok
 unfold zEx at hE hb1 hz1
 cases pr with
 | out=>exact absurd rfl hne
 | bad n=>
  have hnl:n≤ts.length:=pP_bad ts _ _ _ _ hpr (Nat.zero_le _)
  clear hpr
  obtain rfl:xr=(ex0,n,3):=HX.out
  go_enter Tryz.func51,Tryz.ntmps51
  go_upto_region 1 with fail
  generalize w.alloc _=w1 at hE hb1 hz1 ⊢
  clear HX
  go_upto_region 5 with (go_at_call 82; refine (HRD.out w1 hb1).mono ?_; rintro e W2 ⟨hb2,rfl⟩; unfold zEx)
  have hba:=hb2.trans ((below_alloc W2 (.cells #[.int .i64 0,.int .i64 0,.string ⟨#[]⟩,.int .i64 0,.slice none 0 0] 38)).mono hb2.size)
  have hE3:=(hba.block w.heap.size hz1).trans hE
  have hb3:=hb1.trans (hba.mono hb1.size)
  clear hba hE hb1 hb2 hz1
  generalize W2.alloc _=w3 at hE3 hb3 ⊢
  obtain ⟨⟨y0,y1,y2,y3,y4⟩,y5⟩:=blk5 hE3
  go_wp2_with fail
  obtain ⟨hb4,hL4⟩:=expr_end (w:=w) (W:=w3) (E:=w.heap.size) hb3 (Nat.le_refl _) (lies_zero _ _)
  try simp only [Exit.inBlock,Exit.then]
  refine bodyPost_ret (results_ctt rfl rfl (load5 (blk_set5 hE3 _ _ _ _ _))) rfl ?_
  exact ⟨hb4,_,rfl,hL4,hnl⟩
 | ok x n=>
  have HCK:=Lib.hid (fun (W:World) (B:Nat) (vs:List Value) (h:LiesE W B vs x) (hB:B≤W.heap.size)=>exCheck_any h hB)
  unfold Ret at HCK
  replace HX:Hid (xr=if chkE x=0 then (x,n,0) else (ex0,0,chkE x)):=HX
  clear hpr
  generalize chkE x=ce at HX HCK
  go_enter Tryz.func51,Tryz.ntmps51
  go_upto_region 1 with fail
  generalize w.alloc _=w1 at hE hb1 hz1 ⊢
  go_upto_region 6 with (go_at_call 82; refine (HRD.out w1 hb1).mono ?_; rintro e W2 ⟨hb2,vs,rfl,hL2,hn2⟩; obtain ⟨A1,c1,row,rfl,-,-⟩:=hL2.form; unfold exC)
  have hba:=below_alloc W2 (.cells #[.int .i64 x.kind,.int .i64 x.op,.string x.name,.int .i64 x.val,.slice A1 x.args.length c1] 38)
  have hT3:=bx_new W2 #[.int .i64 x.kind,.int .i64 x.op,.string x.name,.int .i64 x.val,.slice A1 x.args.length c1] 38
  have hE3:=(hba.block w.heap.size (Nat.lt_of_lt_of_le hz1 hb2.size)).trans ((hb2.block w.heap.size hz1).trans hE)
  have hb3:=(hb1.trans (hb2.mono hb1.size)).trans (hba.mono (Nat.le_trans hb1.size hb2.size))
  have hL3:=hL2.turn (W:=W2.alloc (.cells #[.int .i64 x.kind,.int .i64 x.op,.string x.name,.int .i64 x.val,.slice A1 x.args.length c1] 38)) (q:=fun X=>decide (X≤w.heap.size)) (fun X _ h=>by have:=of_decide_eq_false h; exact decide_eq_false (by omega)) hba.size (fun X hX _=>hba.block X hX)
  have hz3:W2.heap.size<(W2.alloc (.cells #[.int .i64 x.kind,.int .i64 x.op,.string x.name,.int .i64 x.val,.slice A1 x.args.length c1] 38)).heap.size:=by simp
  have hz23:=hb2.size
  clear hba hL2 hE hb2 hb1 HRD
  generalize W2.alloc _=w3 at hT3 hE3 hb3 hL3 hz3 ⊢
  obtain ⟨T,hT⟩:∃ T,T=W2.heap.size:=⟨_,rfl⟩
  rw [← hT] at hT3 hz3 hz23 ⊢
  clear hT
  have HC:=Lib.hid (HCK.out w3 w3.heap.size _ hL3.unmask (Nat.le_refl _))
  unfold exC at HC
  have HT3:=Lib.hid hT3
  obtain ⟨t0,t1,t2,t3,t4⟩:=bx5 hT3
  clear HCK hT3
  have hwT:w.heap.size<T:=by omega
  by_cases hce:ce=0
  ·subst hce
   obtain rfl:xr=(x,n,0):=HX.out
   clear HX
   go_upto_region 9 with (go_at_call 40; refine HC.out.mono ?_; rintro e W4 ⟨rfl,hb4⟩)
   have hE4:=(hb4.block w.heap.size (by omega)).trans hE3
   obtain ⟨⟨y0,y1,y2,y3,y4⟩,y5⟩:=blk5 hE4
   obtain ⟨q0,q1,q2,q3,q4⟩:=bx5 (HT3.out.below hb4 hz3)
   have hL4:=hL3.turn (W:=W4) (q:=fun X=>decide (X≤w.heap.size)) (fun X _ h=>h) hb4.size (fun X hX _=>hb4.block X hX)
   have hbw4:=hb3.trans (hb4.mono hb3.size)
   clear t0 t1 t2 t3 t4
   go_wp2_with fail
   obtain ⟨hb5,hL5⟩:=expr_end (w:=w) (W:=W4) (E:=w.heap.size) hbw4 (Nat.le_refl _) hL4
   try simp only [Exit.inBlock,Exit.then]
   refine bodyPost_ret (results_ctt rfl rfl (load5 (blk_set5 hE4 _ _ _ _ _))) rfl ?_
   exact ⟨hb5,_,rfl,hL5⟩
  ·obtain rfl:xr=(ex0,0,ce):=by rw [HX.out,if_neg hce]
   have n0:((ce:Nat):Int)≠0:=by omega
   have n1:(((ce:Nat):Int) != 0)=true:=by simpa using hce
   have n2:(ce != 0)=true:=by simpa using hce
   clear HX
   go_upto_region 8 with (go_at_call 40; refine HC.out.mono ?_; rintro e W4 ⟨rfl,hb4⟩)
   have hE4:=(hb4.block w.heap.size (by omega)).trans hE3
   obtain ⟨⟨y0,y1,y2,y3,y4⟩,y5⟩:=blk5 hE4
   have hbw4:=hb3.trans (hb4.mono hb3.size)
   clear t0 t1 t2 t3 t4
   go_wp2_with fail
   obtain ⟨hb5,hL5⟩:=expr_end (w:=w) (W:=W4) (E:=w.heap.size) hbw4 (Nat.le_refl _) (lies_zero _ _)
   try simp only [Exit.inBlock,Exit.then]
   refine bodyPost_ret (results_ctt rfl rfl (load5 (blk_set5 hE4 _ _ _ _ _))) rfl ?_
   exact ⟨hb5,_,rfl,hL5⟩
end Go.Proofs.YtmbffkemfepekaaGreatDoor

namespace Go.Proofs.YtmbffkemfepekaaGreatDoor
open Go.RowKit
def pdB (A:Option Addr) (n c k f:Nat):Obj:=.cells #[.slice A n c,.int .i64 (k:Nat),.int .i64 (f:Nat)] 67 (0,0)
/-- Tokens as a policy's reader has them. -/
structure TksOk (ts:List Tk):Prop where
 pos:0<ts.length
 len:ts.length≤4001
 ok:∀ t∈ts,TkOk t
 last:∀ t,ts[ts.length - 1]? = some t→t.kind=0
/-- Block P is a policy's reader. -/
structure Prd (B P:Nat) (A:Option Addr) (c:Nat) (ts:List Tk) (s:PSt) (w:World):Prop where
 blk:w.heap[P]? = some (pdB A ts.length c s.k s.err)
 tok:Rd w B 4 A ts.length (tkCs ts)
 env:Env B w
 lo:B≤P
 lt:s.k<ts.length
 cap:ts.length≤c
 tks:TksOk ts
section
variable {B P c:Nat} {A:Option Addr} {ts:List Tk} {s:PSt} {w W:World}
theorem Prd.ltw (h:Prd B P A c ts s w):P<w.heap.size:=(Array.getElem?_eq_some_iff.1 h.blk).1
theorem Prd.turn (h:Prd B P A c ts s w) (ht:Turn P (P+1) w W) {s':PSt} (hk:W.heap[P]? = some (pdB A ts.length c s'.k s'.err)) (hi:s'.k<ts.length):Prd B P A c ts s' W:=by
 have hb:Below B w W:=(ht.below (Nat.le_of_lt h.ltw)).mono h.lo
 exact ⟨hk,h.tok.below hb,h.env.next hb,h.lo,hi,h.cap,h.tks⟩
theorem Prd.keep (h:Prd B P A c ts s w) (hb:Below B w W) (hk:W.heap[P]? = w.heap[P]?):Prd B P A c ts s W:=
 ⟨hk.trans h.blk,h.tok.below hb,h.env.next hb,h.lo,h.lt,h.cap,h.tks⟩
theorem Prd.next (h:Prd B P A c ts s w) (hb:Below w.heap.size w W):Prd B P A c ts s W:=
 h.turn (Turn.of_below hb) ((hb.block P h.ltw).trans h.blk) h.lt
theorem Prd.cells (h:Prd B P A c ts s w):w.cell? ⟨P,0,none⟩=some (.slice A ts.length c)∧w.cell? ⟨P,1,none⟩=some (.int .i64 (s.k:Nat))∧w.cell? ⟨P,2,none⟩=some (.int .i64 (s.err:Nat))∧w.frozen? ⟨P,1,none⟩=false∧w.frozen? ⟨P,2,none⟩=false:=
 ⟨cell_of_row _ P 0 _ _ (0,0) h.blk,cell_of_row _ P 1 _ _ (0,0) h.blk,cell_of_row _ P 2 _ _ (0,0) h.blk,by unfold World.frozen?; rw [h.blk]; simp [pdB],by unfold World.frozen?; rw [h.blk]; simp [pdB]⟩
theorem rd_tk {j:Nat} (h:Rd w B 4 A ts.length (tkCs ts)) {t:Tk} (ht:ts[j]? = some t):∃ b off:Nat,A=some ⟨b,off,none⟩∧b<B∧w.cell? ⟨b,off+j * 4,none⟩=some (.int .i64 t.kind)∧w.cell? ⟨b,off+j * 4+1,none⟩=some (.string t.text)∧w.cell? ⟨b,off+j * 4+2,none⟩=some (.int .i64 t.val)∧w.cell? ⟨b,off+j * 4+3,none⟩=some (.int .i64 (t.pos:Nat)):=by
 obtain ⟨hj,e⟩:=List.getElem?_eq_some_iff.1 ht
 obtain ⟨b,off,hA,hb,hc⟩:=h.addr (by omega)
 have hs:∀ x:Tk,(tkC x).length=4:=fun _=>rfl
 have g (q:Nat) (hq:q<4):(tkCs ts)[j * 4+q]? = (tkC t)[q]?:=by rw [← e]; exact flat_at hs ts j hj q hq
 refine ⟨b,off,hA,hb,?_,?_,?_,?_⟩
 ·have:=hc (j * 4+0) _ ((g 0 (by omega)).trans rfl)
  simpa using this
 ·have:=hc (j * 4+1) _ ((g 1 (by omega)).trans rfl)
  simpa [Nat.add_assoc] using this
 ·have:=hc (j * 4+2) _ ((g 2 (by omega)).trans rfl)
  simpa [Nat.add_assoc] using this
 ·have:=hc (j * 4+3) _ ((g 3 (by omega)).trans rfl)
  simpa [Nat.add_assoc] using this
end
/-- What need gives. -/
def NeedR (P:Nat) (A:Option Addr) (c:Nat) (ts:List Tk) (s:PSt) (w:World):Ending→World→Prop:=fun e W=>e=.returned (.tuple #[])∧Turn P (P+1) w W∧W.heap[P]? = some (pdB A ts.length c s.k s.err)
set_option maxRecDepth 100000 in
set_option maxHeartbeats 6400000 in
theorem need_any {B P c:Nat} {A:Option Addr} {ts:List Tk} {s:PSt} {w:World} (h:Prd B P A c ts s w) (kind:Int) (text:ByteArray):Calls Tryz.prog 22 #[.pointer (some ⟨P,0,none⟩),.int .i64 kind,.string text] w (NeedR P A c ts (needP ts kind text.data.toList s) w):=by
 obtain ⟨c0,c1,c2,c3,c4⟩:=h.cells
 have hPw:=h.ltw
 obtain ⟨k,f⟩:=s
 dsimp only at c1 c2
 have hN:Hid (needP ts kind text.data.toList ⟨k,f⟩=if f≠0 then ⟨k,f⟩ else (match ts[k]? with | none=>⟨k,f⟩ | some t=>if t.kind=kind∧t.text.data.toList=text.data.toList then ⟨k+1,0⟩ else ⟨k,3⟩)):=Lib.hid rfl
 generalize needP ts kind text.data.toList ⟨k,f⟩=s' at hN ⊢
 unfold NeedR
 by_cases hf:f=0
 rotate_left
 ·obtain rfl:s'=⟨k,f⟩:=by rw [hN.out,if_pos hf]
  have n0:((f:Nat):Int)≠0:=by omega
  have n1:(((f:Nat):Int) != 0)=true:=by simpa using hf
  have n2:(f != 0)=true:=by simpa using hf
  have HB:=Lib.hid h.blk
  clear hN h
  go_enter Tryz.func22,Tryz.ntmps22
  go_wp2_with fail
  refine bodyPost_ret (results_none rfl _ _ _) rfl ?_
  exact ⟨rfl,Turn.refl _ _ _,HB.out⟩
 ·subst hf
  have hlt:=h.lt
  dsimp only at hlt
  cases hk:ts[k]? with
  | none=>exact absurd (List.getElem?_eq_none_iff.1 hk) (by omega)
  | some t=>
   have hN2:Hid (s'=if t.kind=kind∧t.text.data.toList=text.data.toList then ⟨k+1,0⟩ else ⟨k,3⟩):=Lib.hid (by rw [hN.out,hk]; rfl)
   obtain ⟨b,off,hA,hb,x0,x1,x2,x3⟩:=rd_tk h.tok hk
   subst hA
   have hlo:=h.lo
   have hbw:b<w.heap.size:=by omega
   have h4k:=h.tks.len
   have g3:(k:Int)<(ts.length:Int):=by omega
   have g4:(0:Int)≤(k:Int):=by omega
   have hwr1:IntKind.i64.wrap ((k:Int)+1)=(k:Int)+1:=by rw [IntKind.wrap_i64]; omega
   have HP:=Lib.hid h
   clear hN h hk
   go_enter Tryz.func22,Tryz.ntmps22
   go_upto_region 1 with fail
   go_region
   have hba:Below w.heap.size w (w.alloc (.cells #[.int .i64 t.kind,.string t.text,.int .i64 t.val,.int .i64 (t.pos:Nat)] 69)).drew:=(below_alloc w _).trans (below_drews _ _ 1)
   have hT:Bx (w.alloc (.cells #[.int .i64 t.kind,.string t.text,.int .i64 t.val,.int .i64 (t.pos:Nat)] 69)).drew w.heap.size [.int .i64 t.kind,.string t.text,.int .i64 t.val,.int .i64 (t.pos:Nat)]:=bx_new w _ _
   have h1:=HP.out.next hba
   have ht1:=Turn.of_below (lo:=P) (hi:=P+1) hba
   clear hba x0 x1 x2 x3 c0 c1 c2 c3 c4 hPw hbw
   generalize (w.alloc _).drew=w1 at hT h1 ht1 ⊢
   obtain ⟨x0,x1,x2,x3⟩:=bx4 hT
   obtain ⟨c0,c1,c2,c3,c4⟩:=h1.cells
   dsimp only at c1 c2
   clear hT
   have hs3:(w1.setCell ⟨P,2,none⟩ (.int .i64 3)).heap[P]? = some (pdB (some ⟨b,off,none⟩) ts.length c k 3):=by
    have:=h1.blk
    simp [World.setCell,Array.getElem?_modify,this,pdB]
   have hs1:(w1.setCell ⟨P,1,none⟩ (.int .i64 ((k:Int)+1))).heap[P]? = some (pdB (some ⟨b,off,none⟩) ts.length c (k+1) 0):=by
    have:=h1.blk
    simp [World.setCell,Array.getElem?_modify,this,pdB]
   have HS3:=Lib.hid hs3
   have HS1:=Lib.hid hs1
   have HT1:=Lib.hid ht1
   clear hs3 hs1 HP h1 ht1
   generalize t.kind=tk at hN2 x0
   generalize t.text=tx at hN2 x1
   rw [← Lib.toList_data,← Lib.toList_data] at hN2
   by_cases hkd:tk=kind
   ·subst hkd
    have e1:(tk != tk)=false:=by simp
    by_cases htx:tx.toList=text.toList
    ·obtain rfl:s'=⟨k+1,0⟩:=by rw [hN2.out,if_pos ⟨rfl,htx⟩]
     have e2:(tx.toList != text.toList)=false:=by simpa using htx
     have e3:(tx.toList == text.toList)=true:=by simpa using htx
     clear hN2 htx
     go_wp2_with fail
     first | go_end0 | refine bodyPost_ret (results_none rfl _ _ _) rfl ?_
     exact ⟨rfl,HT1.out.setCell (a:=⟨P,1,none⟩) ⟨Nat.le_refl _,Nat.lt_succ_self _⟩ _,HS1.out⟩
    ·obtain rfl:s'=⟨k,3⟩:=by rw [hN2.out,if_neg (fun h=>htx h.2)]
     have e2:(tx.toList != text.toList)=true:=by simpa using htx
     have e3:(tx.toList == text.toList)=false:=by simpa using htx
     clear hN2 htx
     go_wp2_with fail
     first | go_end0 | refine bodyPost_ret (results_none rfl _ _ _) rfl ?_
     exact ⟨rfl,HT1.out.setCell (a:=⟨P,2,none⟩) ⟨Nat.le_refl _,Nat.lt_succ_self _⟩ _,HS3.out⟩
   ·obtain rfl:s'=⟨k,3⟩:=by rw [hN2.out,if_neg (fun h=>hkd h.1)]
    have e1:(tk != kind)=true:=by simpa using hkd
    have e2:(tk == kind)=false:=by simpa using hkd
    clear hN2
    go_wp2_with fail
    first | go_end0 | refine bodyPost_ret (results_none rfl _ _ _) rfl ?_
    exact ⟨rfl,HT1.out.setCell (a:=⟨P,2,none⟩) ⟨Nat.le_refl _,Nat.lt_succ_self _⟩ _,HS3.out⟩
/-- The place stays within the tokens. -/
theorem need_lt {ts:List Tk} (ht:TksOk ts) (kind:Int) (hk:kind≠0) (text:List UInt8) {s:PSt} (h:s.k<ts.length):(needP ts kind text s).k<ts.length:=by
 unfold needP
 split
 ·exact h
 ·cases hg:ts[s.k]? with
  | none=>exact h
  | some t=>
   dsimp only
   split
   ·next h2=>
    show s.k+1<ts.length
    rcases Nat.lt_or_ge (s.k+1) ts.length with h9 | h9
    ·exact h9
    ·have:s.k=ts.length - 1:=by omega
     rw [this] at hg
     exact absurd (h2.1.symm.trans (ht.last t hg)) hk
   ·exact h
theorem expr_lt {ts:List Tk} (ht:TksOk ts) {s:PSt} (h:s.k<ts.length):(exprP ts s).2.k<ts.length:=by
 have:=ht.pos
 unfold exprP
 split
 ·exact h
 ·unfold movP
  dsimp only
  split
  ·omega
  ·exact h
end Go.Proofs.YtmbffkemfepekaaGreatDoor
