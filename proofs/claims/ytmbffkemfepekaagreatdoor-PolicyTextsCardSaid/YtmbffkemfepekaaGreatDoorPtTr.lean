/- The reference's word and expr of a policy, walked; how far reading goes. Condition: the tokens lie in memory, the last one is of kind 0. -/
import Derived.Test.YtmbffkemfepekaaGreatDoorPtTl
import Derived.Test.YtmbffkemfepekaaGreatDoorPtPr2
import Derived.Deep.QuietTactic
import Derived.BigQuiet
import Derived.BigRegion
import Derived.Test.YtmbffkemfepekaaGreatDoorPtPs1
import Derived.Test.YtmbffkemfepekaaGreatDoorPtAwk
import Derived.Deep.CutBlock
import Derived.Deep.CutRange
import Derived.Deep.DeepCutAuto
namespace Go.Proofs.YtmbffkemfepekaaGreatDoor
open Go.RowKit
/-- No reading goes beyond L. -/
def PRle (L:Nat):PR→Prop
 | .ok _ i=>i≤L
 | .bad i=>i≤L
 | .out=>True
theorem PRle.bind {L:Nat} {r:PR} {g:Ex→Nat→PR} (h:PRle L r) (hg:∀ e i,i≤L→PRle L (g e i)):PRle L (r.bind g):=by
 cases r with
 | ok e i=>exact hg e i h
 | bad i=>exact h
 | out=>exact True.intro
theorem nx_go {ts:List Tk} {L k:Nat} (hL:∀ t,ts[L]? = some t→t.kind=0) (hk:k≤L) (h:(nxT ts k).kind≠0):k+1≤L:=by
 refine Decidable.byContradiction fun hn=>h ?_
 obtain rfl:k=L:=by omega
 cases e:ts[k]? with
 | none=>rw [nxT_none e]
 | some t=>rw [nxT_some e]; exact hL t e
theorem isS_kind {t:Tk} {g:List UInt8} (h:isS t g=true):t.kind≠0:=by
 intro e
 unfold isS at h
 rw [e] at h
 simp at h
theorem opT_kind {t:Tk} (h:(opT t).2≠0):t.kind≠0:=by
 intro e
 unfold opT at h
 rw [if_neg (by rw [e]; omega)] at h
 exact h rfl
theorem pP_last {ts:List Tk} {L:Nat} (hL:∀ t,ts[L]? = some t→t.kind=0):∀ f k,k≤L→PRle L (pP ts f .opd k)∧(∀ p,1≤p→PRle L (pP ts f (.bin p) k))∧∀ p e,1≤p→PRle L (pP ts f (.loop p e) k)
 | 0,k,_=>by simp only [pP,PRle,implies_true,and_self]
 | f+1,k,hk=>by
  have ih:=pP_last hL f
  refine ⟨?_,fun p hp=>?_,fun p e hp=>?_⟩
  ·rw [pP_onx]
   split
   ·next h=>
    rw [Bool.and_eq_true] at h
    exact nx_go hL hk (by have:=h.1; simp at this; omega)
   ·split
    ·next h=>
     rw [Bool.and_eq_true] at h
     exact nx_go hL hk (by have:=h.1; simp at this; omega)
    ·split
     ·next h=>exact (ih _ (nx_go hL hk (isS_kind h))).1.bind fun e i hi=>hi
     ·split
      ·next h=>exact (ih _ (nx_go hL hk (isS_kind h))).1.bind fun e i hi=>hi
      ·split
       ·next h=>
        refine ((ih _ (nx_go hL hk (isS_kind h))).2.1 1 (Nat.le_refl _)).bind fun e i hi=>?_
        rw [closeP_nx]
        split
        ·next h2=>exact nx_go hL hi (isS_kind h2)
        ·exact hi
       ·exact hk
  ·rw [pP_b]
   split
   ·exact (ih k hk).1
   ·exact ((ih k hk).2.1 (p+1) (by omega)).bind fun e i hi=>(ih i hi).2.2 p e hp
  ·rw [pP_lnx ts f p e k hp]
   split
   ·next h=>
    refine ((ih _ (nx_go hL hk (opT_kind (by omega)))).2.1 (p+1) (by omega)).bind fun e2 i hi=>?_
    split
    ·exact hi
    ·exact (ih i hi).2.2 p _ hp
   ·exact hk
theorem exprR_le {ts:List Tk} {L:Nat} (hL:∀ t,ts[L]? = some t→t.kind=0):(exprR ts).2.1≤L:=by
 have h:=(pP_last hL (8 * ts.length+8) 0 (Nat.zero_le _)).2.1 1 (Nat.le_refl _)
 change PRle L (readP ts) at h
 unfold exprR
 cases e:readP ts with
 | ok x n=>
  rw [e] at h
  dsimp only
  split
  ·exact h
  ·exact Nat.zero_le _
 | bad n=>rw [e] at h; exact h
 | out=>exact Nat.zero_le _
theorem exprR_er {ts:List Tk} (h:(exprR ts).2.2≠0):(exprR ts).1=ex0:=by
 unfold exprR at h ⊢
 cases e:readP ts with
 | ok x n=>
  rw [e] at h
  dsimp only at h ⊢
  split
  ·next h2=>rw [if_pos h2] at h; exact absurd rfl h
  ·rfl
 | bad n=>rfl
 | out=>rfl
theorem exprR_drop {ts:List Tk} (ht:TksOk ts) {k:Nat} (hk:k<ts.length):k+(exprR (ts.drop k)).2.1≤ts.length - 1:=by
 have:=exprR_le (ts:=ts.drop k) (L:=ts.length - 1 - k) (fun t h=>ht.last t (by rw [List.getElem?_drop,show k+(ts.length - 1 - k)=ts.length - 1 from by omega] at h; exact h))
 omega
/-- The offset of an error. -/
def offP (ts:List Tk) (s:PSt):Nat:=if s.err=3 then posAt ts s.k else 0
theorem results_c3t {fn:Func} {a b c d:Tmp} {t:TypeId} (h:fn.results=#[.cell a t,.tmp b,.tmp c,.tmp d]) {tmps:Array Value} {P:Program} {w:World} {pa:Addr} {va vb vc vd:Value}
  (ha:tmps.getD a undef=.pointer (some pa)) (hva:(loadVar t pa).run P w=.ok va w) (hb:tmps.getD b undef=vb) (hc:tmps.getD c undef=vc) (hd:tmps.getD d undef=vd):(results fn tmps).run P w=.ok (.tuple #[va,vb,vc,vd]) w:=by
 have hx:(asAddr (.pointer (some pa))).run P w=.ok pa w:=rfl
 have hp:∀ {α:Type} (x:α) (w:World),(pure x:Sem α).run P w=.ok x w:=fun _ _=>rfl
 unfold results
 rw [h]
 simp only [List.mapM_toArray,List.mapM_cons,List.mapM_nil,Sem.run_bind,run_mapT,ha,hb,hc,hd,hx,hva,Result.andThen,hp]
 rfl
/-- What word gives. -/
def sV (ts:List Tk) (s:PSt):Value:=.tuple #[.int .i64 (s.k:Nat),.int .i64 (offP ts s:Nat),.int .i64 (s.err:Nat)]
set_option maxRecDepth 100000 in
set_option maxHeartbeats 6400000 in
theorem rword_any {A:Option Addr} {c B:Nat} {ts:List Tk} (htk:TksOk ts) {k:Nat} (hlt:k<ts.length) (kind:Int) (text:ByteArray) (w:World) (hK:TkW A B ts w) :
  Calls Tryz.prog 53 #[.slice A ts.length c,.int .i64 (k:Nat),.int .i64 kind,.string text] w (Ret (sV ts (needP ts kind text.data.toList ⟨k,0⟩)) w):=by
 cases hk:ts[k]? with
 | none=>exact absurd (List.getElem?_eq_none_iff.1 hk) (by omega)
 | some t=>
  have hN2:Hid (needP ts kind text.data.toList ⟨k,0⟩=if t.kind=kind∧t.text.data.toList=text.data.toList then ⟨k+1,0⟩ else ⟨k,3⟩):=Lib.hid (by unfold needP; rw [if_neg (fun h=>h rfl)]; dsimp only; rw [hk])
  have HO3:Hid (offP ts ⟨k,3⟩=t.pos):=Lib.hid (by unfold offP posAt; dsimp only; rw [if_pos rfl,hk])
  generalize needP ts kind text.data.toList ⟨k,0⟩=s' at hN2 ⊢
  obtain ⟨b,off,hA,hb,x0,x1,x2,x3⟩:=tk_at hK.tok hk
  subst hA
  have hlo:=hK.lo
  have h4k:=htk.len
  obtain ⟨k1,hk1⟩:∃ k1,k1=k+1:=⟨_,rfl⟩
  have g3:(k:Int)<(ts.length:Int):=by omega
  have g4:(0:Int)≤(k:Int):=by omega
  have hwr1:IntKind.i64.wrap ((k:Int)+1)=(k1:Int):=by rw [IntKind.wrap_i64]; omega
  rw [← hk1] at hN2
  clear hk hk1 x2
  unfold Ret
  go_enter Tryz.func53,Tryz.ntmps53
  go_upto_region 1 with fail
  generalize t.kind=tk at hN2 x0
  generalize t.text=tx at hN2 x1
  rw [← Lib.toList_data,← Lib.toList_data] at hN2
  by_cases hkd:tk=kind
  ·subst hkd
   have e1:(tk != tk)=false:=by simp
   by_cases htx:tx.toList=text.toList
   ·have HV:Hid (s'=⟨k1,0⟩):=Lib.hid (by rw [hN2.out,if_pos ⟨rfl,htx⟩])
    have e2:(tx.toList != text.toList)=false:=by simpa using htx
    have e3:(tx.toList == text.toList)=true:=by simpa using htx
    clear hN2 htx
    go_wp2_with fail
    go_ret3
    exact ⟨by rw [HV.out]; rfl,Below.refl _ _⟩
   ·have HV:Hid (s'=⟨k,3⟩):=Lib.hid (by rw [hN2.out,if_neg (fun h=>htx h.2)])
    have e2:(tx.toList != text.toList)=true:=by simpa using htx
    have e3:(tx.toList == text.toList)=false:=by simpa using htx
    clear hN2 htx
    go_upto_region 2 with fail
    go_quiet (fail)
    rename_i nq
    go_wp2_with fail
    go_ret3
    exact ⟨by rw [HV.out]; unfold sV; rw [HO3.out]; rfl,below_drews _ _ _⟩
  ·have HV:Hid (s'=⟨k,3⟩):=Lib.hid (by rw [hN2.out,if_neg (fun h=>hkd h.1)])
   have e1:(tk != kind)=true:=by simpa using hkd
   have e2:(tk == kind)=false:=by simpa using hkd
   clear hN2
   go_upto_region 2 with fail
   go_quiet (fail)
   rename_i nq
   go_wp2_with fail
   go_ret3
   exact ⟨by rw [HV.out]; unfold sV; rw [HO3.out]; rfl,below_drews _ _ _⟩
/-- What the policy's expr gives. -/
def XpQ (x:Ex) (k f off:Nat) (w:World):Ending→World→Prop:=fun e W=>Below w.heap.size w W∧∃ (A:Option Addr) (c k':Nat),e=.returned (.tuple #[.agg (exC x.kind x.op x.name x.val A x.args.length c).toArray,.int .i64 (k':Nat),.int .i64 (off:Nat),.int .i64 (f:Nat)])∧(f=0→k'=k)∧LiesE (mask (fun X=>decide (X<w.heap.size)) W) W.heap.size (exC x.kind x.op x.name x.val A x.args.length c) x
def XpR (ts:List Tk) (r:Ex × PSt) (w:World):Ending→World→Prop:=XpQ r.1 r.2.k r.2.err (offP ts r.2) w
set_option maxRecDepth 100000 in
set_option maxHeartbeats 12800000 in
theorem rxpr_any {A:Option Addr} {c B:Nat} {ts:List Tk} (htk:TksOk ts) (hcap:ts.length≤c) {k:Nat} (hlt:k<ts.length) (w:World) (hK:TkW A B ts w) :
  Calls Tryz.prog 54 #[.slice A ts.length c,.int .i64 (k:Nat)] w (XpR ts (exprP ts ⟨k,0⟩) w):=by
 have hX0:exprP ts ⟨k,0⟩=((exprR (ts.drop k)).1,movP ts k (exprR (ts.drop k))):=rfl
 have hle:=exprR_drop htk hlt
 have hz:=exprR_er (ts:=ts.drop k)
 have h4k:=htk.len
 have HEX:=Lib.hid (fun (W:World) (hh:TkW A B ts W)=>by
  have hr:=Rd.drop hh.tok (k:=k) (cap:=c) (Nat.le_of_lt hlt) hcap
  rw [← tkCs_drop,← List.length_drop] at hr
  have hlim:=htk.lim
  exact rexpr88_any (c:=c - k) (ts:=ts.drop k) ⟨by rw [List.length_drop]; omega,fun t ht=>hlim.txt t (List.mem_of_mem_drop ht)⟩ (by rw [List.length_drop]; omega) W ⟨hr,hh.lo⟩)
 rw [List.length_drop,if_neg (by omega:¬ c=k)] at HEX
 generalize exprR (ts.drop k)=xr at HEX hX0 hle hz
 obtain ⟨x,n,f⟩:=xr
 dsimp only at hX0 hle hz
 unfold RxR at HEX
 dsimp only at HEX
 have hr1:(exprP ts ⟨k,0⟩).1=x:=by rw [hX0]
 have hr3:(exprP ts ⟨k,0⟩).2.err=f:=by rw [hX0]; rfl
 obtain ⟨kn,hkn⟩:∃ kn,kn=k+n:=⟨_,rfl⟩
 have hr2:f=0∨f=3→(exprP ts ⟨k,0⟩).2.k=kn:=fun h=>by
  rw [hX0]; unfold movP; dsimp only; rw [if_pos h,hkn]; omega
 have hof:offP ts (exprP ts ⟨k,0⟩).2=if f=3 then posAt ts kn else 0:=by
  unfold offP
  rw [hr3]
  split
  ·next h=>rw [hr2 (.inr h)]
  ·rfl
 clear hX0
 unfold XpR
 have HOF:=Lib.hid hof
 rw [hr1,hr3]
 generalize offP ts (exprP ts ⟨k,0⟩).2=OFF at HOF ⊢
 generalize (exprP ts ⟨k,0⟩).2.k=ke at hr2 ⊢
 clear hr1 hr3 hof
 have HK2:=Lib.hid hr2
 have HZ:=Lib.hid hz
 have hkl:kn<ts.length:=by omega
 have g3:(k:Int)<(ts.length:Int):=by omega
 have g4:(0:Int)≤(k:Int):=by omega
 have g5:(k:Int)≤(ts.length:Int):=by omega
 have g6:(ts.length:Int)≤(c:Int):=by omega
 have g7:(k:Int)≤(c:Int):=by omega
 have g8:(kn:Int)<(ts.length:Int):=by omega
 have g9:(0:Int)≤(kn:Int):=by omega
 have hwk:IntKind.i64.wrap ((k:Int)+(n:Int))=(kn:Int):=by rw [IntKind.wrap_i64]; omega
 have hE:(w.alloc (.cells #[.int .i64 0,.int .i64 0,.string ⟨#[]⟩,.int .i64 0,.slice none 0 0] 38)).heap[w.heap.size]? = some (.cells #[.int .i64 0,.int .i64 0,.string ⟨#[]⟩,.int .i64 0,.slice none 0 0] 38 (0,0)):=heap_alloc_new w _
 have hB:=below_alloc w (.cells #[.int .i64 0,.int .i64 0,.string ⟨#[]⟩,.int .i64 0,.slice none 0 0] 38)
 have hlo0:=hK.lo
 replace hK:=hK.next hB
 have hlo:=hK.lo
 clear hr2 hz hkn hle
 go_enter Tryz.func54,Tryz.ntmps54
 go_upto_region 1 with fail
 generalize w.alloc _=w1 at hE hB hK hlo ⊢
 go_wp2_with fail
 refine (HEX.out _ hK).mono ?_
 rintro e W5 ⟨hb5,A1,c1,rfl,hL5⟩
 have hEs:=heap_lt hE
 have hb6:=hb5.trans (below_alloc2 hb5.size (.cells #[.int .i64 x.kind,.int .i64 x.op,.string x.name,.int .i64 x.val,.slice A1 x.args.length c1] 38))
 have hG:(W5.alloc (.cells #[.int .i64 x.kind,.int .i64 x.op,.string x.name,.int .i64 x.val,.slice A1 x.args.length c1] 38)).heap[W5.heap.size]? = some (.cells #[.int .i64 x.kind,.int .i64 x.op,.string x.name,.int .i64 x.val,.slice A1 x.args.length c1] 38 (0,0)):=heap_alloc_new W5 _
 have hba:=below_alloc W5 (.cells #[.int .i64 x.kind,.int .i64 x.op,.string x.name,.int .i64 x.val,.slice A1 x.args.length c1] 38)
 have hL6:=hL5.turn (W:=W5.alloc (.cells #[.int .i64 x.kind,.int .i64 x.op,.string x.name,.int .i64 x.val,.slice A1 x.args.length c1] 38)) (q:=fun X=>decide (X<w1.heap.size)) (fun X _ h=>h) hba.size (fun X hX _=>hba.block X hX)
 unfold exC at *
 go_upto_region 2 with fail
 generalize W5.alloc _=W6 at hb6 hG hL6 hba ⊢
 generalize W5.heap.size=G at hG ⊢
 clear hb5 hL5 hba HEX
 replace hB:=hB.trans (hb6.mono hB.size)
 replace hE:=heap_next hE hb6
 replace hK:=hK.next hb6
 replace hlo:=hK.lo
 clear hb6
 by_cases hf3:f=3
 ·subst hf3
  obtain rfl:=HZ.out (by omega)
  cases hk:ts[kn]? with
  | none=>exact absurd (List.getElem?_eq_none_iff.1 hk) (by omega)
  | some t=>
  obtain ⟨b,off,hA,hb,x0,x1,x2,x3⟩:=tk_at hK.tok hk
  subst hA
  have HV:Hid (OFF=t.pos):=Lib.hid (by rw [HOF.out,if_pos rfl]; unfold posAt; rw [hk])
  obtain ⟨⟨z0,z1,z2,z3,z4⟩,z5⟩:=row5 hE
  have z50:=z5 0
  have z51:=z5 1
  have z52:=z5 2
  have z53:=z5 3
  have z54:=z5 4
  have hbw:b<W6.heap.size:=by omega
  have hne:b≠w.heap.size:=by have:=hlo0; omega
  go_wp2_with fail
  go_region
  go_wp2_with fail
  refine bodyPost_ret (v:=.tuple #[.agg #[.int .i64 0,.int .i64 0,.string ⟨#[]⟩,.int .i64 0,.slice none 0 0],.int .i64 (k:Nat),.int .i64 (t.pos:Nat),.int .i64 3]) (results_c3t rfl rfl (ld5 (set5_blk hE _ _ _ _ _)) rfl rfl rfl) rfl ?_
  unfold XpQ
  rw [HV.out]
  exact ⟨(set5_below hB (Nat.le_refl _) _ _ _ _ _).trans (below_drews _ _ 1),none,0,k,rfl,(fun h=>absurd h (by omega)),leaf_lies _ _ 0 0 0 _ ⟨by unfold I64; omega,by unfold I64; omega,by unfold I64; omega,by show ByteArray.empty.size≤9223372036854775807; decide⟩⟩
 ·have HV:Hid (OFF=0):=Lib.hid (by rw [HOF.out,if_neg hf3])
  have e1:((f:Int) == 3)=false:=by simpa using (by omega:¬ (f:Int)=3)
  have e2:(f == 3)=false:=by simpa using hf3
  have e0:¬ (f:Int)=3:=by omega
  obtain ⟨⟨z0,z1,z2,z3,z4⟩,z5⟩:=row5 hE
  have z50:=z5 0
  have z51:=z5 1
  have z52:=z5 2
  have z53:=z5 3
  have z54:=z5 4
  obtain ⟨⟨y0,y1,y2,y3,y4⟩,-⟩:=row5 hG
  by_cases hf:f=0
  ·subst hf
   have HKN:=Lib.hid (HK2.out (.inl rfl))
   have u2:=copy_fin hL6 hB.size hEs (.int .i64 x.kind) (.int .i64 x.op) (.string x.name) (.int .i64 x.val) (.slice A1 x.args.length c1)
   clear hf3 e0 e1 e2
   go_wp2_with fail
   refine bodyPost_ret (v:=.tuple #[.agg #[.int .i64 x.kind,.int .i64 x.op,.string x.name,.int .i64 x.val,.slice A1 x.args.length c1],.int .i64 (kn:Nat),.int .i64 0,.int .i64 0]) (results_c3t rfl rfl (ld5 (set5_blk hE _ _ _ _ _)) rfl rfl rfl) rfl ?_
   unfold XpQ
   rw [HV.out]
   exact ⟨set5_below hB (Nat.le_refl _) _ _ _ _ _,_,_,kn,rfl,fun _=>HKN.out.symm,u2⟩
  ·obtain rfl:=HZ.out hf
   have n0:((f:Nat):Int)≠0:=by omega
   have n1:(((f:Nat):Int) != 0)=true:=by simpa using hf
   have n2:(f != 0)=true:=by simpa using hf
   have HF:=Lib.hid hf
   clear hf3 hf
   go_wp2_with fail
   refine bodyPost_ret (v:=.tuple #[.agg #[.int .i64 0,.int .i64 0,.string ⟨#[]⟩,.int .i64 0,.slice none 0 0],.int .i64 (k:Nat),.int .i64 0,.int .i64 (f:Nat)]) (results_c3t rfl rfl (ld5 (set5_blk hE _ _ _ _ _)) rfl rfl rfl) rfl ?_
   unfold XpQ
   rw [HV.out]
   exact ⟨set5_below hB (Nat.le_refl _) _ _ _ _ _,none,0,k,rfl,fun h=>absurd h HF.out,leaf_lies _ _ 0 0 0 _ ⟨by unfold I64; omega,by unfold I64; omega,by unfold I64; omega,by show ByteArray.empty.size≤9223372036854775807; decide⟩⟩
end Go.Proofs.YtmbffkemfepekaaGreatDoor

namespace Go.Proofs.YtmbffkemfepekaaGreatDoor
open Go.RowKit
theorem set10_blk {W:World} {E:Nat} {u0 u1 u2 u3 u4 u5 u6 u7 u8 u9:Value} {T:TypeId} {fz:Nat × Nat} (h:W.heap[E]? = some (.cells #[u0,u1,u2,u3,u4,u5,u6,u7,u8,u9] T fz)) (v0 v1 v2 v3 v4 v5 v6 v7 v8 v9:Value) :
  ((((((((((W.setCell ⟨E,0,none⟩ v0).setCell ⟨E,1,none⟩ v1).setCell ⟨E,2,none⟩ v2).setCell ⟨E,3,none⟩ v3).setCell ⟨E,4,none⟩ v4).setCell ⟨E,5,none⟩ v5).setCell ⟨E,6,none⟩ v6).setCell ⟨E,7,none⟩ v7).setCell ⟨E,8,none⟩ v8).setCell ⟨E,9,none⟩ v9).heap[E]? = some (.cells #[v0,v1,v2,v3,v4,v5,v6,v7,v8,v9] T fz):=by
 simp [World.setCell,Array.getElem?_modify,h]
theorem set10_oth {W:World} {E k:Nat} (hne:k≠E) (v0 v1 v2 v3 v4 v5 v6 v7 v8 v9:Value):((((((((((W.setCell ⟨E,0,none⟩ v0).setCell ⟨E,1,none⟩ v1).setCell ⟨E,2,none⟩ v2).setCell ⟨E,3,none⟩ v3).setCell ⟨E,4,none⟩ v4).setCell ⟨E,5,none⟩ v5).setCell ⟨E,6,none⟩ v6).setCell ⟨E,7,none⟩ v7).setCell ⟨E,8,none⟩ v8).setCell ⟨E,9,none⟩ v9).heap[k]? = W.heap[k]?:=by
 rw [Below.heap_setCell _ _ _ _ hne,Below.heap_setCell _ _ _ _ hne,Below.heap_setCell _ _ _ _ hne,Below.heap_setCell _ _ _ _ hne,Below.heap_setCell _ _ _ _ hne,Below.heap_setCell _ _ _ _ hne,Below.heap_setCell _ _ _ _ hne,Below.heap_setCell _ _ _ _ hne,Below.heap_setCell _ _ _ _ hne,Below.heap_setCell _ _ _ _ hne]
theorem set10_size (W:World) (E:Nat) (v0 v1 v2 v3 v4 v5 v6 v7 v8 v9:Value):((((((((((W.setCell ⟨E,0,none⟩ v0).setCell ⟨E,1,none⟩ v1).setCell ⟨E,2,none⟩ v2).setCell ⟨E,3,none⟩ v3).setCell ⟨E,4,none⟩ v4).setCell ⟨E,5,none⟩ v5).setCell ⟨E,6,none⟩ v6).setCell ⟨E,7,none⟩ v7).setCell ⟨E,8,none⟩ v8).setCell ⟨E,9,none⟩ v9).heap.size=W.heap.size:=by simp
theorem ld10 {W:World} {E:Nat} {u0 u1 u2 u3 u4 u5 u6 u7 u8 u9:Value} {T:TypeId} {fz:Nat × Nat} (h:W.heap[E]? = some (.cells #[u0,u1,u2,u3,u4,u5,u6,u7,u8,u9] T fz)):(loadVar 40 ⟨E,0,none⟩).run Tryz.prog W=.ok (.agg #[u0,u1,u2,u3,u4,u5,u6,u7,u8,u9]) W:=
 run_loadVar_row W E T 40 _ fz _ h Tryz.underlying40 rfl (by kernel_rfl)
theorem zero_lies (w:World) (B:Nat):LiesE w B (exC ex0.kind ex0.op ex0.name ex0.val none ex0.args.length 0) ex0:=
 leaf_lies _ _ 0 0 0 _ ⟨by unfold I64; omega,by unfold I64; omega,by unfold I64; omega,by show ByteArray.empty.size≤9223372036854775807; decide⟩
/-- What rule gives. -/
def RuQ (x1 x2:Ex) (k f off:Nat) (w:World):Ending→World→Prop:=fun e W=>Below w.heap.size w W∧∃ (A1:Option Addr) (c1:Nat) (A2:Option Addr) (c2 k':Nat),e=.returned (.tuple #[.agg #[.int .i64 x1.kind,.int .i64 x1.op,.string x1.name,.int .i64 x1.val,.slice A1 x1.args.length c1,.int .i64 x2.kind,.int .i64 x2.op,.string x2.name,.int .i64 x2.val,.slice A2 x2.args.length c2],.int .i64 (k':Nat),.int .i64 (off:Nat),.int .i64 (f:Nat)])∧(f=0→k'=k) ∧
 LiesE (mask (fun X=>decide (X<w.heap.size)) W) W.heap.size (exC x1.kind x1.op x1.name x1.val A1 x1.args.length c1) x1∧LiesE (mask (fun X=>decide (X<w.heap.size)) W) W.heap.size (exC x2.kind x2.op x2.name x2.val A2 x2.args.length c2) x2
/-- The end: the rule is copied into the result's box. -/
theorem rule_fin {w W:World} {K:Nat} {x1 x2:Ex} {A1 A2:Option Addr} {c1 c2 k k' f off:Nat} (hB:Below w.heap.size w W) (hwK:w.heap.size<K) (hk:f=0→k'=k)
  (h1:LiesE (mask (fun X=>decide (X<K+1)) W) W.heap.size (exC x1.kind x1.op x1.name x1.val A1 x1.args.length c1) x1) (h2:LiesE (mask (fun X=>decide (X<K+1)) W) W.heap.size (exC x2.kind x2.op x2.name x2.val A2 x2.args.length c2) x2) (v0 v1 v2 v3 v4 v5 v6 v7 v8 v9:Value) :
  RuQ x1 x2 k f off w (.returned (.tuple #[.agg #[.int .i64 x1.kind,.int .i64 x1.op,.string x1.name,.int .i64 x1.val,.slice A1 x1.args.length c1,.int .i64 x2.kind,.int .i64 x2.op,.string x2.name,.int .i64 x2.val,.slice A2 x2.args.length c2],.int .i64 (k':Nat),.int .i64 (off:Nat),.int .i64 (f:Nat)])) ((((((((((W.setCell ⟨w.heap.size,0,none⟩ v0).setCell ⟨w.heap.size,1,none⟩ v1).setCell ⟨w.heap.size,2,none⟩ v2).setCell ⟨w.heap.size,3,none⟩ v3).setCell ⟨w.heap.size,4,none⟩ v4).setCell ⟨w.heap.size,5,none⟩ v5).setCell ⟨w.heap.size,6,none⟩ v6).setCell ⟨w.heap.size,7,none⟩ v7).setCell ⟨w.heap.size,8,none⟩ v8).setCell ⟨w.heap.size,9,none⟩ v9):=by
 refine ⟨((((((((((hB.setCell (p:=⟨w.heap.size,0,none⟩) (Nat.le_refl _) _).setCell (p:=⟨w.heap.size,1,none⟩) (Nat.le_refl _) _).setCell (p:=⟨w.heap.size,2,none⟩) (Nat.le_refl _) _).setCell (p:=⟨w.heap.size,3,none⟩) (Nat.le_refl _) _).setCell (p:=⟨w.heap.size,4,none⟩) (Nat.le_refl _) _).setCell (p:=⟨w.heap.size,5,none⟩) (Nat.le_refl _) _).setCell (p:=⟨w.heap.size,6,none⟩) (Nat.le_refl _) _).setCell (p:=⟨w.heap.size,7,none⟩) (Nat.le_refl _) _).setCell (p:=⟨w.heap.size,8,none⟩) (Nat.le_refl _) _).setCell (p:=⟨w.heap.size,9,none⟩) (Nat.le_refl _) _),A1,c1,A2,c2,k',rfl,hk,?_,?_⟩
 ·rw [set10_size]
  exact h1.turn (fun X _ h=>by have:=of_decide_eq_false h; exact decide_eq_false (by omega)) (Nat.le_refl _) (fun X _ hX=>set10_oth (by have:=of_decide_eq_false hX; omega) _ _ _ _ _ _ _ _ _ _)
 ·rw [set10_size]
  exact h2.turn (fun X _ h=>by have:=of_decide_eq_false h; exact decide_eq_false (by omega)) (Nat.le_refl _) (fun X _ hX=>set10_oth (by have:=of_decide_eq_false hX; omega) _ _ _ _ _ _ _ _ _ _)
theorem copy_lo {W:World} {s5 K:Nat} {vs:List Value} {x:Ex} (hL:LiesE (mask (fun X=>decide (X<s5)) W) W.heap.size vs x) (hK:K<s5) (v0 v1 v2 v3 v4:Value) :
  LiesE (mask (fun X=>decide (X<K+1)) (((((W.setCell ⟨K,0,none⟩ v0).setCell ⟨K,1,none⟩ v1).setCell ⟨K,2,none⟩ v2).setCell ⟨K,3,none⟩ v3).setCell ⟨K,4,none⟩ v4)) (((((W.setCell ⟨K,0,none⟩ v0).setCell ⟨K,1,none⟩ v1).setCell ⟨K,2,none⟩ v2).setCell ⟨K,3,none⟩ v3).setCell ⟨K,4,none⟩ v4).heap.size vs x:=by
 rw [set5_size]
 exact hL.turn (fun X _ h=>by have:=of_decide_eq_false h; exact decide_eq_false (by omega)) (Nat.le_refl _) (fun X _ hX=>set5_oth (by have:=of_decide_eq_false hX; omega) _ _ _ _ _)
theorem hi_size (W:World) (K:Nat) (v0 v1 v2 v3 v4:Value):(((((W.setCell ⟨K,5,none⟩ v0).setCell ⟨K,6,none⟩ v1).setCell ⟨K,7,none⟩ v2).setCell ⟨K,8,none⟩ v3).setCell ⟨K,9,none⟩ v4).heap.size=W.heap.size:=by simp
theorem copy_hi {W:World} {s5 K:Nat} {vs:List Value} {x:Ex} (hL:LiesE (mask (fun X=>decide (X<s5)) W) W.heap.size vs x) (hK:K<s5) (v0 v1 v2 v3 v4:Value) :
  LiesE (mask (fun X=>decide (X<K+1)) (((((W.setCell ⟨K,5,none⟩ v0).setCell ⟨K,6,none⟩ v1).setCell ⟨K,7,none⟩ v2).setCell ⟨K,8,none⟩ v3).setCell ⟨K,9,none⟩ v4)) (((((W.setCell ⟨K,5,none⟩ v0).setCell ⟨K,6,none⟩ v1).setCell ⟨K,7,none⟩ v2).setCell ⟨K,8,none⟩ v3).setCell ⟨K,9,none⟩ v4).heap.size vs x:=by
 rw [hi_size]
 exact hL.turn (fun X _ h=>by have:=of_decide_eq_false h; exact decide_eq_false (by omega)) (Nat.le_refl _) (fun X _ hX=>heap_hi (by have:=of_decide_eq_false hX; omega) _ _ _ _ _)
theorem need_skip {ts:List Tk} {kd:Int} {t:List UInt8} {s:PSt} (h:s.err≠0):needP ts kd t s=s:=by unfold needP; rw [if_pos h]
theorem expr_skip {ts:List Tk} {s:PSt} (h:s.err≠0):exprP ts s=(ex0,s):=by unfold exprP; rw [if_pos h]
set_option maxRecDepth 100000 in
set_option maxHeartbeats 25600000 in
theorem rrule_any {A:Option Addr} {c B:Nat} {ts:List Tk} (htk:TksOk ts) (hcap:ts.length≤c) {k:Nat} (hlt:k<ts.length) (w:World) (hT:TkW A B ts w) :
  Calls Tryz.prog 25 #[.slice A ts.length c,.int .i64 (k:Nat)] w (RuQ (r2P ts ⟨k,0⟩).1 (r4P ts ⟨k,0⟩).1 (r5P ts ⟨k,0⟩).k (r5P ts ⟨k,0⟩).err (offP ts (r5P ts ⟨k,0⟩)) w):=by
 have hlts:=rP_lt htk (s:=⟨k,0⟩) hlt
 have HT:=Lib.hid hT
 have HW1:=Lib.hid (fun W (h:TkW A B ts W)=>(show Calls _ _ _ W (Ret (sV ts (r1P ts ⟨k,0⟩)) W) from rword_any (c:=c) htk hlt 1 ⟨#[119,104,101,110]⟩ W h))
 have q2:r2P ts ⟨k,0⟩=exprP ts (r1P ts ⟨k,0⟩):=rfl
 have q3:r3P ts ⟨k,0⟩=needP ts 1 byL (r2P ts ⟨k,0⟩).2:=rfl
 have q4:r4P ts ⟨k,0⟩=exprP ts (r3P ts ⟨k,0⟩):=rfl
 have q5:r5P ts ⟨k,0⟩=needP ts 3 semL (r4P ts ⟨k,0⟩).2:=rfl
 generalize r5P ts ⟨k,0⟩=s5 at hlts q5 ⊢
 generalize r4P ts ⟨k,0⟩=x4 at hlts q4 q5 ⊢
 generalize r3P ts ⟨k,0⟩=s3 at hlts q3 q4
 generalize r2P ts ⟨k,0⟩=x2 at hlts q2 q3 ⊢
 generalize r1P ts ⟨k,0⟩=s1 at hlts q2 HW1
 obtain ⟨e1,k2,f2⟩:=x2
 obtain ⟨e2,k4,f4⟩:=x4
 obtain ⟨k1,f1⟩:=s1
 obtain ⟨k3,f3⟩:=s3
 obtain ⟨k5,f5⟩:=s5
 try dsimp only at hlts q3 q5 ⊢
 obtain ⟨l1,l2,l3,l4,l5⟩:=hlts
 have HX2:Hid (f1=0→∀ W,TkW A B ts W→Calls Tryz.prog 54 #[.slice A ts.length c,.int .i64 (k1:Nat)] W (XpQ e1 k2 f2 (offP ts ⟨k2,f2⟩) W)):=Lib.hid (fun h W hW=>by
  subst h
  have:=rxpr_any htk hcap l1 W hW
  rw [← q2] at this
  exact this)
 have HW3:Hid (f2=0→∀ W,TkW A B ts W→Calls Tryz.prog 53 #[.slice A ts.length c,.int .i64 (k2:Nat),.int .i64 1,.string ⟨#[98,121]⟩] W (Ret (sV ts ⟨k3,f3⟩) W)):=Lib.hid (fun h W hW=>by
  subst h
  have:Calls _ _ _ W (Ret (sV ts (needP ts 1 byL ⟨k2,0⟩)) W):=rword_any (c:=c) htk l2 1 ⟨#[98,121]⟩ W hW
  rw [← q3] at this
  exact this)
 have HX4:Hid (f3=0→∀ W,TkW A B ts W→Calls Tryz.prog 54 #[.slice A ts.length c,.int .i64 (k3:Nat)] W (XpQ e2 k4 f4 (offP ts ⟨k4,f4⟩) W)):=Lib.hid (fun h W hW=>by
  subst h
  have:=rxpr_any htk hcap l3 W hW
  rw [← q4] at this
  exact this)
 have HW5:Hid (f4=0→∀ W,TkW A B ts W→Calls Tryz.prog 53 #[.slice A ts.length c,.int .i64 (k4:Nat),.int .i64 3,.string ⟨#[59]⟩] W (Ret (sV ts ⟨k5,f5⟩) W)):=Lib.hid (fun h W hW=>by
  subst h
  have:Calls _ _ _ W (Ret (sV ts (needP ts 3 semL ⟨k4,0⟩)) W):=rword_any (c:=c) htk l4 3 ⟨#[59]⟩ W hW
  rw [← q5] at this
  exact this)
 have F4:f4≠0→k5=k4∧f5=f4∧offP ts ⟨k5,f5⟩=offP ts ⟨k4,f4⟩:=fun h=>by
  rw [need_skip (s:=⟨k4,f4⟩) h] at q5
  injection q5 with a b
  subst a b
  exact ⟨rfl,rfl,rfl⟩
 have F3:f3≠0→e2=ex0∧k5=k3∧f5=f3∧offP ts ⟨k5,f5⟩=offP ts ⟨k3,f3⟩:=fun h=>by
  rw [expr_skip (s:=⟨k3,f3⟩) h] at q4
  injection q4 with a b
  injection b with b1 b2
  subst a b1 b2
  exact ⟨rfl,F4 h⟩
 have F2:f2≠0→e2=ex0∧k5=k2∧f5=f2∧offP ts ⟨k5,f5⟩=offP ts ⟨k2,f2⟩:=fun h=>by
  rw [need_skip (s:=⟨k2,f2⟩) h] at q3
  injection q3 with a b
  subst a b
  exact F3 h
 have F1:f1≠0→e1=ex0∧e2=ex0∧k5=k1∧f5=f1∧offP ts ⟨k5,f5⟩=offP ts ⟨k1,f1⟩:=fun h=>by
  rw [expr_skip (s:=⟨k1,f1⟩) h] at q2
  injection q2 with a b
  injection b with b1 b2
  subst a b1 b2
  exact ⟨rfl,F2 h⟩
 unfold sV at HW1 HW3 HW5
 try dsimp only at HW1 HW3 HW5
 generalize offP ts ⟨k5,f5⟩=o5 at *
 generalize offP ts ⟨k4,f4⟩=o4 at *
 generalize offP ts ⟨k3,f3⟩=o3 at *
 generalize offP ts ⟨k2,f2⟩=o2 at *
 generalize offP ts ⟨k1,f1⟩=o1 at *
 have HF1:=Lib.hid F1
 have HF2:=Lib.hid F2
 have HF3:=Lib.hid F3
 have HF4:=Lib.hid F4
 clear F1 F2 F3 F4 q2 q3 q4 q5 l1 l2 l3 l4 l5 hlt hT htk
 unfold XpQ at HX2 HX4
 unfold Ret at HW1 HW3 HW5
 have hR:(w.alloc (.cells #[.int .i64 0,.int .i64 0,.string ⟨#[]⟩,.int .i64 0,.slice none 0 0,.int .i64 0,.int .i64 0,.string ⟨#[]⟩,.int .i64 0,.slice none 0 0] 40)).heap[w.heap.size]? = some (.cells #[.int .i64 0,.int .i64 0,.string ⟨#[]⟩,.int .i64 0,.slice none 0 0,.int .i64 0,.int .i64 0,.string ⟨#[]⟩,.int .i64 0,.slice none 0 0] 40 (0,0)):=heap_alloc_new w _
 have hB:=below_alloc w (.cells #[.int .i64 0,.int .i64 0,.string ⟨#[]⟩,.int .i64 0,.slice none 0 0,.int .i64 0,.int .i64 0,.string ⟨#[]⟩,.int .i64 0,.slice none 0 0] 40)
 have hz1:w.heap.size<(w.alloc (.cells #[.int .i64 0,.int .i64 0,.string ⟨#[]⟩,.int .i64 0,.slice none 0 0,.int .i64 0,.int .i64 0,.string ⟨#[]⟩,.int .i64 0,.slice none 0 0] 40)).heap.size:=by simp
 go_enter Tryz.func25,Tryz.ntmps25
 go_upto_region 1 with fail
 generalize w.alloc _=w1 at hR hB hz1 ⊢
 go_upto_region 2 with fail
 have hK:(w1.alloc (.cells #[.int .i64 0,.int .i64 0,.string ⟨#[]⟩,.int .i64 0,.slice none 0 0,.int .i64 0,.int .i64 0,.string ⟨#[]⟩,.int .i64 0,.slice none 0 0] 40)).heap[w1.heap.size]? = some (.cells #[.int .i64 0,.int .i64 0,.string ⟨#[]⟩,.int .i64 0,.slice none 0 0,.int .i64 0,.int .i64 0,.string ⟨#[]⟩,.int .i64 0,.slice none 0 0] 40 (0,0)):=heap_alloc_new w1 _
 have hba:=below_alloc w1 (.cells #[.int .i64 0,.int .i64 0,.string ⟨#[]⟩,.int .i64 0,.slice none 0 0,.int .i64 0,.int .i64 0,.string ⟨#[]⟩,.int .i64 0,.slice none 0 0] 40)
 replace hR:=heap_next hR hba
 replace hB:=hB.trans (hba.mono hB.size)
 clear hba
 generalize w1.alloc _=W2 at hR hB hK ⊢
 generalize w1.heap.size=K at hK hz1 ⊢
 go_wp2_with fail
 refine (HW1.out _ (HT.out.next hB)).mono ?_
 rintro e W3 ⟨rfl,hb⟩
 replace hB:=hB.trans (hb.mono hB.size)
 replace hR:=heap_next hR hb
 replace hK:=heap_next hK hb
 clear hb
 by_cases h:f1=0
 rotate_left
 ·obtain ⟨rfl,rfl,rfl,rfl,rfl⟩:=HF1.out h
  have HH:=Lib.hid h
  have n0:((f5:Nat):Int)≠0:=by omega
  have n1:(((f5:Nat):Int) == 0)=false:=by simpa using h
  have n2:(f5 == 0)=false:=by simpa using h
  clear h
  obtain ⟨⟨y0,y1,y2,y3,y4,y5,y6,y7,y8,y9⟩,-⟩:=blk10 hK
  obtain ⟨⟨z0,z1,z2,z3,z4,z5,z6,z7,z8,z9⟩,zf⟩:=blk10 hR
  have zf0:=zf 0
  have zf1:=zf 1
  have zf2:=zf 2
  have zf3:=zf 3
  have zf4:=zf 4
  have zf5:=zf 5
  have zf6:=zf 6
  have zf7:=zf 7
  have zf8:=zf 8
  have zf9:=zf 9
  go_wp2_with fail
  refine bodyPost_ret (v:=.tuple #[.agg #[.int .i64 0,.int .i64 0,.string ⟨#[]⟩,.int .i64 0,.slice none 0 0,.int .i64 0,.int .i64 0,.string ⟨#[]⟩,.int .i64 0,.slice none 0 0],.int .i64 (k5:Nat),.int .i64 (o5:Nat),.int .i64 (f5:Nat)]) (results_c3t rfl rfl (ld10 (set10_blk hR _ _ _ _ _ _ _ _ _ _)) rfl rfl rfl) rfl ?_
  exact rule_fin hB hz1 (fun _=>rfl) (zero_lies _ _) (zero_lies _ _) _ _ _ _ _ _ _ _ _ _
 replace HX2:=Lib.hid (HX2.out h)
 subst h
 clear HF1 HW1
 go_wp2_with fail
 refine (HX2.out _ (HT.out.next hB)).mono ?_
 rintro e W4 ⟨hb,A1,c1,k2',rfl,hk2,hL⟩
 unfold exC at hL
 have hKs:=heap_lt hK
 replace hB:=hB.trans (hb.mono hB.size)
 replace hR:=heap_next hR hb
 replace hK:=heap_next hK hb
 obtain ⟨⟨y0,y1,y2,y3,y4,y5,y6,y7,y8,y9⟩,yf⟩:=blk10 hK
 have yf0:=yf 0
 have yf1:=yf 1
 have yf2:=yf 2
 have yf3:=yf 3
 have yf4:=yf 4
 unfold exC
 go_upto_region 5 with fail
 clear y0 y1 y2 y3 y4 y5 y6 y7 y8 y9 yf yf0 yf1 yf2 yf3 yf4 hb HX2
 replace hR:=(set5_oth (E:=K) (k:=w.heap.size) (by omega) (.int .i64 e1.kind) (.int .i64 e1.op) (.string e1.name) (.int .i64 e1.val) (.slice A1 e1.args.length c1)).trans hR
 replace hB:=set5_below hB (Nat.le_of_lt hz1) (.int .i64 e1.kind) (.int .i64 e1.op) (.string e1.name) (.int .i64 e1.val) (.slice A1 e1.args.length c1)
 have hL1:=copy_lo hL hKs (.int .i64 e1.kind) (.int .i64 e1.op) (.string e1.name) (.int .i64 e1.val) (.slice A1 e1.args.length c1)
 replace hK:=blk10_lo hK (.int .i64 e1.kind) (.int .i64 e1.op) (.string e1.name) (.int .i64 e1.val) (.slice A1 e1.args.length c1)
 clear hL hKs
 generalize (((((W4.setCell ⟨K,0,none⟩ (.int .i64 e1.kind)).setCell ⟨K,1,none⟩ (.int .i64 e1.op)).setCell ⟨K,2,none⟩ (.string e1.name)).setCell ⟨K,3,none⟩ (.int .i64 e1.val)).setCell ⟨K,4,none⟩ (.slice A1 e1.args.length c1))=W5 at hR hB hL1 hK ⊢
 by_cases h:f2=0
 rotate_left
 ·obtain ⟨rfl,rfl,rfl,rfl⟩:=HF2.out h
  have HH:=Lib.hid h
  have n0:((f5:Nat):Int)≠0:=by omega
  have n1:(((f5:Nat):Int) == 0)=false:=by simpa using h
  have n2:(f5 == 0)=false:=by simpa using h
  clear h
  obtain ⟨⟨y0,y1,y2,y3,y4,y5,y6,y7,y8,y9⟩,-⟩:=blk10 hK
  obtain ⟨⟨z0,z1,z2,z3,z4,z5,z6,z7,z8,z9⟩,zf⟩:=blk10 hR
  have zf0:=zf 0
  have zf1:=zf 1
  have zf2:=zf 2
  have zf3:=zf 3
  have zf4:=zf 4
  have zf5:=zf 5
  have zf6:=zf 6
  have zf7:=zf 7
  have zf8:=zf 8
  have zf9:=zf 9
  go_wp2_with fail
  refine bodyPost_ret (v:=.tuple #[.agg #[.int .i64 e1.kind,.int .i64 e1.op,.string e1.name,.int .i64 e1.val,.slice A1 e1.args.length c1,.int .i64 0,.int .i64 0,.string ⟨#[]⟩,.int .i64 0,.slice none 0 0],.int .i64 (k2':Nat),.int .i64 (o5:Nat),.int .i64 (f5:Nat)]) (results_c3t rfl rfl (ld10 (set10_blk hR _ _ _ _ _ _ _ _ _ _)) rfl rfl rfl) rfl ?_
  exact rule_fin hB hz1 hk2 hL1 (zero_lies _ _) _ _ _ _ _ _ _ _ _ _
 obtain rfl:=hk2 h
 replace HW3:=Lib.hid (HW3.out h)
 subst h
 clear HF2 hk2
 go_wp2_with fail
 refine (HW3.out _ (HT.out.next hB)).mono ?_
 rintro e W6 ⟨rfl,hb⟩
 replace hB:=hB.trans (hb.mono hB.size)
 replace hR:=heap_next hR hb
 replace hK:=heap_next hK hb
 replace hL1:=hL1.turn (W:=W6) (q:=fun X=>decide (X<K+1)) (fun X _ h=>h) hb.size (fun X hX _=>hb.block X hX)
 clear hb HW3
 by_cases h:f3=0
 rotate_left
 ·obtain ⟨rfl,rfl,rfl,rfl⟩:=HF3.out h
  have HH:=Lib.hid h
  have n0:((f5:Nat):Int)≠0:=by omega
  have n1:(((f5:Nat):Int) == 0)=false:=by simpa using h
  have n2:(f5 == 0)=false:=by simpa using h
  clear h
  obtain ⟨⟨y0,y1,y2,y3,y4,y5,y6,y7,y8,y9⟩,-⟩:=blk10 hK
  obtain ⟨⟨z0,z1,z2,z3,z4,z5,z6,z7,z8,z9⟩,zf⟩:=blk10 hR
  have zf0:=zf 0
  have zf1:=zf 1
  have zf2:=zf 2
  have zf3:=zf 3
  have zf4:=zf 4
  have zf5:=zf 5
  have zf6:=zf 6
  have zf7:=zf 7
  have zf8:=zf 8
  have zf9:=zf 9
  go_wp2_with fail
  refine bodyPost_ret (v:=.tuple #[.agg #[.int .i64 e1.kind,.int .i64 e1.op,.string e1.name,.int .i64 e1.val,.slice A1 e1.args.length c1,.int .i64 0,.int .i64 0,.string ⟨#[]⟩,.int .i64 0,.slice none 0 0],.int .i64 (k5:Nat),.int .i64 (o5:Nat),.int .i64 (f5:Nat)]) (results_c3t rfl rfl (ld10 (set10_blk hR _ _ _ _ _ _ _ _ _ _)) rfl rfl rfl) rfl ?_
  exact rule_fin hB hz1 (fun _=>rfl) hL1 (zero_lies _ _) _ _ _ _ _ _ _ _ _ _
 replace HX4:=Lib.hid (HX4.out h)
 subst h
 clear HF3
 go_wp2_with fail
 refine (HX4.out _ (HT.out.next hB)).mono ?_
 rintro e W7 ⟨hb,A2,c2,k4',rfl,hk4,hL⟩
 unfold exC at hL
 have hKs:=heap_lt hK
 replace hB:=hB.trans (hb.mono hB.size)
 replace hR:=heap_next hR hb
 replace hK:=heap_next hK hb
 replace hL1:=hL1.turn (W:=W7) (q:=fun X=>decide (X<K+1)) (fun X _ h=>h) hb.size (fun X hX _=>hb.block X hX)
 obtain ⟨⟨y0,y1,y2,y3,y4,y5,y6,y7,y8,y9⟩,yf⟩:=blk10 hK
 have yf5:=yf 5
 have yf6:=yf 6
 have yf7:=yf 7
 have yf8:=yf 8
 have yf9:=yf 9
 unfold exC
 go_upto_region 9 with fail
 clear y0 y1 y2 y3 y4 y5 y6 y7 y8 y9 yf yf5 yf6 yf7 yf8 yf9 hb HX4
 replace hR:=(heap_hi (K:=K) (k:=w.heap.size) (by omega) (.int .i64 e2.kind) (.int .i64 e2.op) (.string e2.name) (.int .i64 e2.val) (.slice A2 e2.args.length c2)).trans hR
 replace hB:=(((((hB.setCell (p:=⟨K,5,none⟩) (Nat.le_of_lt hz1) (.int .i64 e2.kind)).setCell (p:=⟨K,6,none⟩) (Nat.le_of_lt hz1) (.int .i64 e2.op)).setCell (p:=⟨K,7,none⟩) (Nat.le_of_lt hz1) (.string e2.name)).setCell (p:=⟨K,8,none⟩) (Nat.le_of_lt hz1) (.int .i64 e2.val)).setCell (p:=⟨K,9,none⟩) (Nat.le_of_lt hz1) (.slice A2 e2.args.length c2))
 have hL2:=copy_hi hL hKs (.int .i64 e2.kind) (.int .i64 e2.op) (.string e2.name) (.int .i64 e2.val) (.slice A2 e2.args.length c2)
 replace hL1:=copy_hi hL1 (Nat.lt_succ_self K) (.int .i64 e2.kind) (.int .i64 e2.op) (.string e2.name) (.int .i64 e2.val) (.slice A2 e2.args.length c2)
 replace hK:=blk10_hi hK (.int .i64 e2.kind) (.int .i64 e2.op) (.string e2.name) (.int .i64 e2.val) (.slice A2 e2.args.length c2)
 clear hL hKs
 generalize (((((W7.setCell ⟨K,5,none⟩ (.int .i64 e2.kind)).setCell ⟨K,6,none⟩ (.int .i64 e2.op)).setCell ⟨K,7,none⟩ (.string e2.name)).setCell ⟨K,8,none⟩ (.int .i64 e2.val)).setCell ⟨K,9,none⟩ (.slice A2 e2.args.length c2))=W8 at hR hB hL1 hL2 hK ⊢
 by_cases h:f4=0
 rotate_left
 ·obtain ⟨rfl,rfl,rfl⟩:=HF4.out h
  have HH:=Lib.hid h
  have n0:((f5:Nat):Int)≠0:=by omega
  have n1:(((f5:Nat):Int) == 0)=false:=by simpa using h
  have n2:(f5 == 0)=false:=by simpa using h
  clear h
  obtain ⟨⟨y0,y1,y2,y3,y4,y5,y6,y7,y8,y9⟩,-⟩:=blk10 hK
  obtain ⟨⟨z0,z1,z2,z3,z4,z5,z6,z7,z8,z9⟩,zf⟩:=blk10 hR
  have zf0:=zf 0
  have zf1:=zf 1
  have zf2:=zf 2
  have zf3:=zf 3
  have zf4:=zf 4
  have zf5:=zf 5
  have zf6:=zf 6
  have zf7:=zf 7
  have zf8:=zf 8
  have zf9:=zf 9
  go_wp2_with fail
  refine bodyPost_ret (v:=.tuple #[.agg #[.int .i64 e1.kind,.int .i64 e1.op,.string e1.name,.int .i64 e1.val,.slice A1 e1.args.length c1,.int .i64 e2.kind,.int .i64 e2.op,.string e2.name,.int .i64 e2.val,.slice A2 e2.args.length c2],.int .i64 (k4':Nat),.int .i64 (o5:Nat),.int .i64 (f5:Nat)]) (results_c3t rfl rfl (ld10 (set10_blk hR _ _ _ _ _ _ _ _ _ _)) rfl rfl rfl) rfl ?_
  exact rule_fin hB hz1 hk4 hL1 hL2 _ _ _ _ _ _ _ _ _ _
 obtain rfl:=hk4 h
 replace HW5:=Lib.hid (HW5.out h)
 subst h
 clear HF4 hk4
 go_wp2_with fail
 refine (HW5.out _ (HT.out.next hB)).mono ?_
 rintro e W9 ⟨rfl,hb⟩
 replace hB:=hB.trans (hb.mono hB.size)
 replace hR:=heap_next hR hb
 replace hK:=heap_next hK hb
 replace hL1:=hL1.turn (W:=W9) (q:=fun X=>decide (X<K+1)) (fun X _ h=>h) hb.size (fun X hX _=>hb.block X hX)
 replace hL2:=hL2.turn (W:=W9) (q:=fun X=>decide (X<K+1)) (fun X _ h=>h) hb.size (fun X hX _=>hb.block X hX)
 clear hb HW5
 obtain ⟨⟨y0,y1,y2,y3,y4,y5,y6,y7,y8,y9⟩,-⟩:=blk10 hK
 obtain ⟨⟨z0,z1,z2,z3,z4,z5,z6,z7,z8,z9⟩,zf⟩:=blk10 hR
 have zf0:=zf 0
 have zf1:=zf 1
 have zf2:=zf 2
 have zf3:=zf 3
 have zf4:=zf 4
 have zf5:=zf 5
 have zf6:=zf 6
 have zf7:=zf 7
 have zf8:=zf 8
 have zf9:=zf 9
 go_wp2_with fail
 refine bodyPost_ret (v:=.tuple #[.agg #[.int .i64 e1.kind,.int .i64 e1.op,.string e1.name,.int .i64 e1.val,.slice A1 e1.args.length c1,.int .i64 e2.kind,.int .i64 e2.op,.string e2.name,.int .i64 e2.val,.slice A2 e2.args.length c2],.int .i64 (k5:Nat),.int .i64 (o5:Nat),.int .i64 (f5:Nat)]) (results_c3t rfl rfl (ld10 (set10_blk hR _ _ _ _ _ _ _ _ _ _)) rfl rfl rfl) rfl ?_
 exact rule_fin hB hz1 (fun _=>rfl) hL1 hL2 _ _ _ _ _ _ _ _ _ _
end Go.Proofs.YtmbffkemfepekaaGreatDoor

namespace Go.Proofs.YtmbffkemfepekaaGreatDoor
open Go.RowKit
set_option maxRecDepth 100000 in
set_option maxHeartbeats 6400000 in
theorem rone_name (s:ByteArray) (i:Nat) (hi:i<s.size) (hs:s.size≤140737488355328) (w:World) (hl:letB s[i]=true):Calls Tryz.prog 52 #[.string s,.int .i64 (i:Nat)] w (Ret (tokV s i (nameT (s.data.toList.drop i))) w):=by
 have HL:=Lib.hid (fun W=>rltr_any s[i] W)
 rw [hl] at HL
 have hle:=runN_le inB (s.data.toList.drop i)
 rw [List.length_drop,Array.length_toList] at hle
 have hsz:s.size=s.data.size:=rfl
 have hX:=ext_sub s i (runN inB (s.data.toList.drop i))
 have HR:Hid (nameT (s.data.toList.drop i)=if 30<runN inB (s.data.toList.drop i) then .er 5 else .ok 1 (runN inB (s.data.toList.drop i)) 0):=Lib.hid rfl
 have HK0:Hid (i+runN inB (s.data.toList.drop i)=i+runN inB (s.data.toList.drop i)):=Lib.hid rfl
 generalize nameT (s.data.toList.drop i)=R at HR ⊢
 obtain ⟨k,hk⟩:∃ k,k=i+runN inB (s.data.toList.drop i):=⟨_,rfl⟩
 have HK:=Lib.hid hk
 generalize runN inB (s.data.toList.drop i)=r at hle hX HR hk
 rw [← hk] at hX
 have HX:=Lib.hid hX
 have hik:(i:Int)≤(k:Int):=by omega
 have hks:(k:Int)≤(s.size:Int):=by omega
 have hw:IntKind.i64.wrap ((k:Int) - (i:Int))=(k:Int) - (i:Int):=by rw [IntKind.wrap_i64]; omega
 have hsl:=fun W=>str_slice s i k (by omega) (by omega) W
 unfold RetP at HL
 unfold Ret
 have hi0:(0:Int)≤(i:Int):=by omega
 have his:(i:Int)<(s.size:Int):=by omega
 have hO:=one_new w #[.int .i64 0,.string ⟨#[]⟩,.int .i64 0,.int .i64 0] 69
 have hF:∀ j,(w.alloc (.cells #[.int .i64 0,.string ⟨#[]⟩,.int .i64 0,.int .i64 0] 69)).frozen? ⟨w.heap.size,j,none⟩=false:=fun j=>by simp
 clear hX hl HK0 hsz
 go_enter Tryz.func52,Tryz.ntmps52
 go_upto_region 1 with fail
 generalize w.alloc _=w1 at hO hF ⊢
 have HO:=Lib.hid hO
 have HF:=Lib.hid hF
 clear hO hF
 go_upto_block 0 with ((go_at_call 83; refine (HL.out _).mono ?_; rintro e W5 ⟨rfl,hw⟩; obtain rfl:w1=W5:=hw.symm))
 go_cut [6] (fun kv wx=>kv=.int .i64 (k:Nat)∧wx=w1)
 case first=>
  go_wp2_with fail
  go_loopw [6] (fun kv wr=>wr=w1∧∃ q:Nat,kv=.int .i64 (q:Nat)∧q≤s.size∧Hid (k=q+runN inB (s.data.toList.drop q))) (fun kv _=>s.size - (intOf kv).toNat)
  case atStart=>exact ⟨rfl,i,rfl,by omega,HK⟩
  case round=>
   obtain ⟨rfl,q,rfl,hq,HQ⟩:=hrel
   have hq0:(0:Int)≤(q:Int):=by omega
   have hwr1:IntKind.i64.wrap ((q:Int)+1)=(q:Int)+1:=by rw [IntKind.wrap_i64]; omega
   by_cases hlt:q<s.size
   ·have hd1:decide ((q:Int)<(s.size:Int))=true:=decide_eq_true (by omega)
    have hd2:decide (q<s.size)=true:=decide_eq_true hlt
    have hql:(q:Int)<(s.size:Int):=by omega
    have HP:=Lib.hid (fun W=>rin_any s[q] W)
    have HRN:Hid (k=q+(if inB s[q] then runN inB (s.data.toList.drop (q+1))+1 else 0)):=Lib.hid (by rw [HQ.out,run_at s q hlt,runN])
    unfold RetP at HP
    generalize inB s[q]=b at HP HRN
    clear HQ
    cases b with
    | true=>
     have HR2:Hid (k=(q+1)+runN inB (s.data.toList.drop (q+1))):=Lib.hid (by rw [HRN.out,if_pos rfl]; omega)
     clear HRN
     go_wp2_with fail
     refine (HP.out _).mono ?_
     rintro e W5 ⟨rfl,hw⟩
     obtain rfl:wr=W5:=hw.symm
     go_wp2_with fail
     exact ⟨⟨by first | rfl | exact True.intro,q+1,by go_num,by omega,HR2⟩,by simp [intOf]; omega⟩
    | false=>
     have HR2:Hid (k=q):=Lib.hid (by rw [HRN.out]; simp)
     clear HRN
     go_wp2_with fail
     refine (HP.out _).mono ?_
     rintro e W5 ⟨rfl,hw⟩
     obtain rfl:wr=W5:=hw.symm
     go_wp2_with fail
     go_meet
     case rel=>exact ⟨by rw [HR2.out],rfl⟩
   ·have hd1:decide ((q:Int)<(s.size:Int))=false:=decide_eq_false (by omega)
    have hd2:decide (q<s.size)=false:=decide_eq_false hlt
    have HR2:Hid (k=q):=Lib.hid (by rw [HQ.out,List.drop_of_length_le (by rw [Array.length_toList]; show s.size≤q; omega)]; rfl)
    clear HQ
    go_wp2_with fail
    go_meet
    case rel=>exact ⟨by rw [HR2.out],rfl⟩
 case rest=>
  obtain ⟨rfl,hwc⟩:=hcut
  obtain rfl:=hwc.symm
  by_cases h30:30<r
  ·have e1:decide ((k:Int) - (i:Int) > 30)=true:=decide_eq_true (by omega)
   have e2:decide (30<(k:Int) - (i:Int))=true:=decide_eq_true (by omega)
   have HV:Hid (R=.er 5):=Lib.hid (by rw [HR.out,if_pos h30])
   clear h30 hk hle HR HK
   obtain ⟨d0,d1,d2,d3⟩:=bx4 HO.out.fst
   have f0:=HF.out 0
   have f1:=HF.out 1
   have f2:=HF.out 2
   have f3:=HF.out 3
   go_wp2_with fail
   obtain ⟨q0,q1,q2,q3⟩:=set4 (HO.out.fst 0 _ rfl) (HO.out.fst 1 _ rfl) (HO.out.fst 2 _ rfl) (HO.out.fst 3 _ rfl) (.int .i64 0) (.string ⟨#[]⟩) (.int .i64 0) (.int .i64 0)
   have hby:=set4_below HO.out.below (Nat.le_refl _) (.int .i64 0) (.string ⟨#[]⟩) (.int .i64 0) (.int .i64 0)
   generalize World.setCell _ _ _=w6 at q0 q1 q2 q3 hby ⊢
   refine bodyPost_ret (v:=.tuple #[.agg #[.int .i64 0,.string ⟨#[]⟩,.int .i64 0,.int .i64 0],.int .i64 5]) (by rw [results_cell_tmp rfl]; go_simp) rfl ⟨by rw [HV.out]; rfl,hby⟩
  ·have e1:decide ((k:Int) - (i:Int) > 30)=false:=decide_eq_false (by omega)
   have e2:decide (30<(k:Int) - (i:Int))=false:=decide_eq_false (by omega)
   have HV:Hid (R=.ok 1 r 0):=Lib.hid (by rw [HR.out,if_neg h30])
   have HTX:Hid (tokV s i (.ok 1 r 0)=.tuple #[.agg #[.int .i64 1,.string (s.extract i k),.int .i64 0,.int .i64 (i:Nat)],.int .i64 0]):=Lib.hid (by unfold tokV; rw [HX.out]; rfl)
   clear h30 hk hle HR HK
   obtain ⟨d0,d1,d2,d3⟩:=bx4 HO.out.fst
   have f0:=HF.out 0
   have f1:=HF.out 1
   have f2:=HF.out 2
   have f3:=HF.out 3
   go_wp2_with fail
   obtain ⟨q0,q1,q2,q3⟩:=set4 (HO.out.fst 0 _ rfl) (HO.out.fst 1 _ rfl) (HO.out.fst 2 _ rfl) (HO.out.fst 3 _ rfl) (.int .i64 1) (.string (s.extract i k)) (.int .i64 0) (.int .i64 (i:Nat))
   have hby:=set4_below HO.out.below (Nat.le_refl _) (.int .i64 1) (.string (s.extract i k)) (.int .i64 0) (.int .i64 (i:Nat))
   generalize World.setCell _ _ _=w6 at q0 q1 q2 q3 hby ⊢
   refine bodyPost_ret (v:=.tuple #[.agg #[.int .i64 1,.string (s.extract i k),.int .i64 0,.int .i64 (i:Nat)],.int .i64 0]) (by rw [results_cell_tmp rfl]; go_simp) rfl ⟨by rw [HV.out,HTX.out],hby⟩
end Go.Proofs.YtmbffkemfepekaaGreatDoor
