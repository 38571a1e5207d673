/- expr.Check, walked: its answer is chkE. Conditions: the expression lies in memory. -/
import Derived.Test.YtmbffkemfepekaaGreatDoorPtBase
import Derived.Test.YtmbffkemfepekaaGreatDoorPtCk4
import Derived.Test.YtmbffkemfepekaaGreatDoorPtSeqLaw
namespace Go.Proofs.YtmbffkemfepekaaGreatDoor
open Go.RowKit Go.Shelf
attribute [local go_sem] Oper.semAt_some
theorem load_cell {P:Program} {w:World} {t:TypeId} {p:Addr} {v:Value} (ht:(isAgg t).run P w=.ok false w) (h:w.cell? p=some v):(loadVar t p).run P w=.ok v w:=by
 simp [loadVar,Sem.run_bind,ht,Result.andThen,go_sem,h]
theorem run_map' {P:Program} {α β:Type} (f:α→β) (m:Sem α) (w:World):(f <$> m).run P w=(m.run P w).andThen fun a w=>.ok (f a) w:=by
 show (m >>= fun a=>pure (f a)).run P w=_
 rw [Sem.run_bind]; rfl
theorem results_cell1 {fn:Func} {a:Tmp} {t:TypeId} (h:fn.results=#[.cell a t]) {tmps:Array Value} {P:Program} {w:World} {pa:Addr} {va:Value}
  (ha:tmps.getD a undef=.pointer (some pa)) (hva:(loadVar t pa).run P w=.ok va w):(results fn tmps).run P w=.ok va w:=by
 have hx:(asAddr (.pointer (some pa))).run P w=.ok pa w:=rfl
 have hp:∀ {α:Type} (x:α) (w:World),(pure x:Sem α).run P w=.ok x w:=fun _ _=>rfl
 unfold results
 rw [h]
 simp only [List.mapM_toArray,List.mapM_cons,List.mapM_nil,Sem.run_bind,run_map',ha,hx,hva,Result.andThen,hp]
 rfl
theorem fresh_fr (w:World) (a:Obj) (b c:Array Value) (s t:TypeId):(((w.alloc a).alloc (.cells b s)).alloc (.cells c t)).frozen? ⟨w.heap.size+1,0,none⟩=false∧(((w.alloc a).alloc (.cells b s)).alloc (.cells c t)).frozen? ⟨w.heap.size+2,0,none⟩=false:=by
 have h0:(w.alloc a).heap.size=w.heap.size+1:=by simp
 generalize w.alloc a=W at h0 ⊢
 rw [show w.heap.size+2=W.heap.size+1 by omega,← h0]
 have h1:(W.alloc (.cells b s)).frozen? ⟨W.heap.size,0,none⟩=false:=by simp
 have h2:(W.alloc (.cells b s)).heap.size=W.heap.size+1:=by simp
 generalize W.alloc _=V at h1 h2 ⊢
 refine ⟨((below_alloc V (.cells c t)).frozen (p:=⟨W.heap.size,0,none⟩) (by show W.heap.size<V.heap.size; omega)).trans h1,?_⟩
 rw [← h2]; simp
theorem Turn.below' {lo hi n:Nat} {w W:World} (h:Turn lo hi w W) (_:n≤w.heap.size):Below (min lo w.heap.size) w W:=
 ⟨h.os,h.tape,h.output,h.size,fun k hk=>h.block k (by omega) (.inl (by omega))⟩
/-- What Check holds while it ranges. -/
structure CkM (w:World) (r:Nat) (W:World):Prop where
 res:W.cell? ⟨w.heap.size+1,0,none⟩=some (.int .i64 (r:Nat))
 frz:W.frozen? ⟨w.heap.size+1,0,none⟩=false
 below:Below w.heap.size w W
 size:w.heap.size+3≤W.heap.size
theorem CkM.next {w W W':World} {r B:Nat} (h:CkM w r W) (hb:Below B W W') (hB:w.heap.size+2≤B):CkM w r W':=
 ⟨(hb.cell (p:=⟨w.heap.size+1,0,none⟩) (by show w.heap.size+1<B; omega)).trans h.res,(hb.frozen (p:=⟨w.heap.size+1,0,none⟩) (by show w.heap.size+1<B; omega)).trans h.frz,h.below.trans (hb.mono (by omega)),Nat.le_trans h.size hb.size⟩
theorem CkM.turn {w W W':World} {r lo hi:Nat} (h:CkM w r W) (ht:Turn lo hi W W') (hlo:w.heap.size+2≤lo):CkM w r W':=
 h.next (ht.below' h.size) (by have:=h.size; omega)
theorem CkM.set {w W:World} {r:Nat} (h:CkM w r W) (s:Nat):CkM w s (W.setCell ⟨w.heap.size+1,0,none⟩ (.int .i64 (s:Nat))):=
 ⟨World.cell?_setCell_same _ _ _ h.res,by rw [World.frozen?_setCell]; exact h.frz,h.below.setCell (p:=⟨w.heap.size+1,0,none⟩) (by show w.heap.size≤w.heap.size+1; omega) _,by simpa using h.size⟩
set_option maxRecDepth 100000 in
set_option maxHeartbeats 3200000 in
theorem exCheck_any {B:Nat} {vs:List Value} {e:Ex} {w:World} (h:LiesE w B vs e) (hB:B≤w.heap.size):Calls Tryz.prog 40 #[.agg vs.toArray] w (Ret (.int .i64 (chkE e:Nat)) w):=by
 have hL:=h
 obtain ⟨A,c,rfl,bd,-⟩:=h.arg
 have HCE:Hid (chkE e=if 100<nP e then 4 else if 12<dP e then 22 else chkL (pre e)):=Lib.hid rfl
 generalize chkE e=ce at HCE ⊢
 generalize e.kind=k at hL
 generalize e.op=o at hL
 generalize e.name=nm at hL
 generalize e.val=v at hL
 generalize e.args.length=q at hL
 unfold Ret
 clear h bd
 have HL:=Lib.hid hL
 clear hL
 refine (callsIn_wide (n:=6)).1 (callsIn_of_wp_marks Tryz.func40 rfl trivial ?_ rfl)
 simp only [Tryz.ntmps40,exC,List.size_toArray,List.length_cons,List.length_nil,Nat.reduceAdd,Nat.reduceSub,Array.replicate_succ,Array.replicate_zero,List.push_toArray,List.append_toArray,List.nil_append,List.cons_append]
 gi_upto_region 2 with fail
 have hT:=three_new w #[.int .i64 k,.int .i64 o,.string nm,.int .i64 v,.slice A q c] #[.int .i64 0] #[.int .i64 0] 38 27 3
 have hF1:=fresh_fr w (.cells #[.int .i64 k,.int .i64 o,.string nm,.int .i64 v,.slice A q c] 38) #[.int .i64 0] #[.int .i64 0] 27 3
 have hz1:(((w.alloc (.cells #[.int .i64 k,.int .i64 o,.string nm,.int .i64 v,.slice A q c] 38)).alloc (.cells #[.int .i64 0] 27)).alloc (.cells #[.int .i64 0] 3)).heap.size=w.heap.size+3:=by simp
 rw [show w.heap.size+1+1=w.heap.size+2 from rfl]
 generalize World.alloc _ _=W1 at hT hF1 hz1 ⊢
 obtain ⟨hF1,hF2⟩:=hF1
 have hK1:CkM w 0 W1:=⟨hT.two.snd 0 _ rfl,hF1,hT.two.below,by omega⟩
 have hC1:Cnt W1 (w.heap.size+2) 0:=⟨hT.thd 0 _ rfl,hF2,by omega⟩
 have hE1:=hT.two.fst
 have hm:=measure_any e B (w.heap.size+2) 0 1 (exC k o nm v A q c) W1 (HL.out.below' hT.two.below hB) (by omega) hC1 (by omega) (by omega)
 unfold exC at hm
 have HM:=Lib.hid hm
 have HLW:=Lib.hid (HL.out.below' hT.two.below hB)
 obtain ⟨x0,x1,x2,x3,x4⟩:=bx5 hE1
 clear hT hF1 hF2 hC1 hm HL
 gi_wp2
 refine ⟨trivial,(callsIn_wide.2 HM.out).mono ?_⟩
 rintro e5 W2 ⟨r,rfl,hr,hrd,hC2,hT2⟩
 have hK2:=hK1.turn hT2 (by omega)
 have hE2:Bx W2 w.heap.size [.int .i64 k,.int .i64 o,.string nm,.int .i64 v,.slice A q c]:=fun j u hu=>hT2.cell (hE1 j u hu) (.inl (by show w.heap.size<w.heap.size+2; omega))
 have HL2:=Lib.hid (HLW.out.below' (hT2.below (by omega)) (by omega))
 have hz2:=hK2.size
 obtain ⟨n0,nf,-⟩:=hC2
 have r0:=hK2.res
 have rf:=hK2.frz
 clear hK1 hE1 x0 x1 x2 x3 x4 HM HLW hT2
 by_cases hp:100<nP e
 ·have hcc:min 101 (0+nP e)=101:=by omega
  rw [hcc] at n0
  have HV:Hid (ce=4):=Lib.hid (by rw [HCE.out,if_pos hp])
  have hK3:CkM w 4 (W2.setCell ⟨w.heap.size+1,0,none⟩ (.int .i64 4)):=hK2.set 4
  clear HCE hrd hp
  gi_wp2
  exact leaves_marks [] _ (Marks.nil 0 _) (fun W' hT=>by
   have hb:=hT.below (Marks.nil (W2.setCell ⟨w.heap.size+1,0,none⟩ (.int .i64 4)).heap.size _)
   have hK4:=hK3.next hb (by have:=hK3.size; omega)
   exact ⟨_,results_cell1 rfl rfl (load_cell (by kernel_rfl) hK4.res),by rw [HV.out],hK4.below⟩)
 have hcc:min 101 (0+nP e)=nP e:=by omega
 have hrr:r=dP e:=by have:=hrd (by omega); omega
 rw [hcc] at n0
 subst hrr
 have e1:decide ((100:Int)<(nP e:Int))=false:=decide_eq_false (by omega)
 have e1':decide (100<nP e)=false:=decide_eq_false hp
 by_cases hd:12<dP e
 ·have e2:decide ((12:Int)<(dP e:Int))=true:=decide_eq_true (by omega)
  have e2':decide (12<dP e)=true:=decide_eq_true hd
  have HV:Hid (ce=22):=Lib.hid (by rw [HCE.out,if_neg hp,if_pos hd])
  have hK3:CkM w 22 (W2.setCell ⟨w.heap.size+1,0,none⟩ (.int .i64 22)):=hK2.set 22
  clear HCE hrd hp hd hr
  gi_wp2
  exact leaves_marks [] _ (Marks.nil 0 _) (fun W' hT=>by
   have hb:=hT.below (Marks.nil (W2.setCell ⟨w.heap.size+1,0,none⟩ (.int .i64 22)).heap.size _)
   have hK4:=hK3.next hb (by have:=hK3.size; omega)
   exact ⟨_,results_cell1 rfl rfl (load_cell (by kernel_rfl) hK4.res),by rw [HV.out],hK4.below⟩)
 have e2:decide ((12:Int)<(dP e:Int))=false:=decide_eq_false (by omega)
 have e2':decide (12<dP e)=false:=decide_eq_false hd
 have HV:Hid (ce=chkL (pre e)):=Lib.hid (by rw [HCE.out,if_neg hp,if_neg hd])
 obtain ⟨x0,x1,x2,x3,x4⟩:=bx5 hE2
 have HPA:=Lib.hid (parts_any k o nm v A q c W2)
 unfold exC at HPA
 clear HCE hrd hp hd hr
 gi_wp2
 refine ⟨trivial,(callsIn_wide.2 HPA.out).mono ?_⟩
 rintro e6 W3 ⟨rfl,hW3⟩
 have hb3:Below W2.heap.size W2 W3:=by rw [hW3]; exact below_alloc _ _
 have hBP:Bx W3 W2.heap.size (exC k o nm v A q c):=by rw [hW3]; exact bx_new _ _ _
 have hz3:W3.heap.size=W2.heap.size+1:=by rw [hW3]; simp
 have hK3:=hK2.next hb3 (by omega)
 have HL3:=Lib.hid (HL2.out.below' hb3 (by omega))
 clear hW3 x0 x1 x2 x3 x4 n0 nf r0 rf e1 e1' e2 e2' HPA hE2 hK2
 generalize W2.heap.size=b0 at hz2 hb3 hBP hz3 ⊢
 gi_wp2
 refine wpIn_rangeFunc_ac rfl (by omega) (gf:=111) (lb:=#[.pointer (some ⟨b0,0,none⟩)]) rfl trivial (enters_of Tryz.func111 (by kernel_rfl) rfl)
  (parts_stops 5 b0 B e k o nm v A q c W3 HL3.out (by omega) (by omega) hBP)
  (fun h k=>h.trans k) (fun W l o o' _ hl hc _=>CellsKept.putObj o' hl hc) (Below.refl _ _) (fun _=>rfl)
  (fun A' B' k o hab _ ho hc=>hab.rec_ k o ho hc)
  (fun p W=>chkL (p.map PEx.e)=0∧CkM w 0 W∧b0+1≤W.heap.size)
  (fun c p W=>c=.ret∧CkM w (chkL (p.map PEx.e)) W∧chkL (p.map PEx.e)≠0∧p.map PEx.e <+: pre e∧b0+1≤W.heap.size)
  (fun p W W' row hs hg hr=>by
   obtain ⟨h0,h1,h2⟩:=hs
   have hbw:=below_grownFrom (B:=b0+1) hg (fun r e=>by have:=(hr r e).1; omega) h2
   exact ⟨h0,h1.next hbw (by omega),Nat.le_trans h2 hg.size⟩)
  (fun c p W W' row hs hg hr=>by
   obtain ⟨h0,h1,h3,h4,h2⟩:=hs
   have hbw:=below_grownFrom (B:=b0+1) hg (fun r e=>by have:=(hr r e).1; omega) h2
   exact ⟨h0,h1.next hbw (by omega),h3,h4,Nat.le_trans h2 hg.size⟩)
  (fun p A' B' hs hab=>by
   obtain ⟨h0,h1,h2⟩:=hs
   exact ⟨h0,h1.next hab.below (by omega),Nat.le_trans h2 hab.below.size⟩)
  ⟨rfl,hK3,by omega⟩
  (fun x a' W=>∃ X:Nat,a'=⟨((.agg #[.int .i64 k,.int .i64 o,.string nm,.int .i64 v,.slice A q c]:Value)::.pointer (some ⟨w.heap.size,0,none⟩)::.pointer (some ⟨w.heap.size+1,0,none⟩)::.pointer (some ⟨w.heap.size+2,0,none⟩)::.int .i64 (dP e:Nat)::.pointer (some ⟨X,0,none⟩)::undef::.agg #[.int .i64 k,.int .i64 o,.string nm,.int .i64 v,.slice A q c]::.int .i64 (dP e:Nat)::.int .i64 (nP e:Nat)::.bool false::.int .i64 (dP e:Nat)::.bool false::.agg #[.int .i64 k,.int .i64 o,.string nm,.int .i64 v,.slice A q c]::.func (.func 111) #[] #[.pointer (some ⟨b0,0,none⟩)]::.agg #[.int .i64 x.k,.int .i64 x.o,.string x.nm,.int .i64 x.v,.slice x.A x.m x.c]::undef::undef::undef::undef::undef::[]).toArray,[]⟩∧b0+1≤X∧Bx W X [.int .i64 x.k,.int .i64 x.o,.string x.nm,.int .i64 x.v,.slice x.A x.m x.c])
  (fun a' x W W' row hs hg hr=>by
   obtain ⟨X,h1,h2,h3⟩:=hs
   exact ⟨X,h1,h2,fun j u hu=>cell_kept (h3 j u hu) hg (fun r e=>(hr r e).2)⟩) ?assign ?body ?done ?stop
 case assign=>
  rintro lp p x W K ⟨h0,hK,hz⟩ hK'
  simp only [PEx.vs,exC]
  have hbn:=below_alloc W (.cells #[.int .i64 x.k,.int .i64 x.o,.string x.nm,.int .i64 x.v,.slice x.A x.m x.c] 38)
  have hBn:=bx_new W #[.int .i64 x.k,.int .i64 x.o,.string x.nm,.int .i64 x.v,.slice x.A x.m x.c] 38
  gi_wp2
  exact hK' _ _ (KeepsFrom.turn (lo:=0) (hi:=0) (Turn.of_below hbn) (Nat.zero_le _)) (CellsKept.turn (Turn.of_below hbn)) ⟨h0,hK.next hbn (by have:=hK.size; omega),Nat.le_trans hz hbn.size⟩ ⟨W.heap.size,rfl,hz,hBn⟩
 case stop=>
  rintro D c' p W hD _ ⟨rfl,hK,hne,hpf,hz⟩ hKD
  have HV2:Hid (ce=chkL (p.map PEx.e)):=Lib.hid (by
   obtain ⟨r,hr⟩:=hpf
   rw [HV.out,← hr,chkL_append,if_neg hne])
  have hMD:Marks (b0+1) [D] W:=(Marks.nil _ W).push (by omega) (by simp) hKD
  clear hne hpf
  generalize chkL (p.map PEx.e)=r at HV2 hK
  gi_wp2
  exact leaves_marks [D] W hMD (fun W' hT=>by
   have hb:=hT.below hMD
   have hK4:=hK.next hb (by omega)
   exact ⟨_,results_cell1 rfl rfl (load_cell (by kernel_rfl) hK4.res),by rw [HV2.out],hK4.below⟩)
 case body=>
  rintro lp p x a' W ⟨h0,hK,hz⟩ ⟨X,rfl,hX,hBX⟩ ⟨hrd,hpf⟩
  obtain ⟨wr,Br,hlr⟩:=hrd
  obtain ⟨x0,x1,x2,x3,x4⟩:=bx5 hBX
  have hck:=fun W'=>check_any hlr W'
  simp only [PEx.vs,exC] at hck
  have HCK:=Lib.hid hck
  have HPF:=Lib.hid hpf
  have HAP:Hid (chkL ((p++[x]).map PEx.e)=chk1 x.e):=Lib.hid (by rw [List.map_append,chkL_append,if_pos h0]; simp [chkL]; exact fun h=>h.symm)
  clear hck hpf hlr hBX h0
  generalize chk1 x.e=f at HCK HAP
  gi_wp2
  refine ⟨trivial,CallsIn.inRound lp (callsIn_wide.2 ((HCK.out W).mono ?_))⟩
  rintro e7 W5 ⟨rfl,hb5⟩
  have hK5:=hK.next hb5 (by omega)
  have hz5:b0+1≤W5.heap.size:=Nat.le_trans hz hb5.size
  have r0:=hK5.res
  have rf:=hK5.frz
  clear x0 x1 x2 x3 x4 HCK hK
  by_cases hf:f=0
  ·have e1:((f:Int) != 0)=false:=by simpa using hf
   have e2:(f != 0)=false:=by simpa using hf
   have HA0:Hid (chkL ((p++[x]).map PEx.e)=0):=Lib.hid (by rw [HAP.out,hf])
   clear hf HAP
   gi_wp2
   exact ⟨KeepsFrom.turn (lo:=0) (hi:=0) (Turn.of_below hb5) (Nat.zero_le _),CellsKept.turn (Turn.of_below hb5),HA0.out,hK5,hz5⟩
  ·have e1:((f:Int) != 0)=true:=by simpa using hf
   have e2:(f != 0)=true:=by simpa using hf
   have hK6:=hK5.set f
   have HF:=Lib.hid hf
   clear hf
   gi_wp2
   exact ⟨KeepsFrom.turn (lo:=w.heap.size+1) (hi:=w.heap.size+2) ((Turn.of_below hb5).setCell (a:=⟨w.heap.size+1,0,none⟩) ⟨Nat.le_refl _,by show w.heap.size+1<w.heap.size+2; omega⟩ _) (by omega),rfl,by rw [HAP.out]; exact hK6,by rw [HAP.out]; exact HF.out,HPF.out,by simpa using hz5⟩
 case done=>
  rintro D ys W hD hys ⟨h0,hK,hz⟩ hKD
  have HV2:Hid (ce=0):=Lib.hid (by rw [HV.out,← hys,h0])
  have r0:=hK.res
  have rf:=hK.frz
  have hK6:CkM w 0 (W.setCell ⟨w.heap.size+1,0,none⟩ (.int .i64 0)):=hK.set 0
  have hKD6:(W.setCell ⟨w.heap.size+1,0,none⟩ (.int .i64 0)).heap[D]? = some (.deferred (some [])):=(heap_setCell_other _ _ _ _ (by show D≠w.heap.size+1; omega)).trans hKD
  have hMD:Marks (b0+1) [D] (W.setCell ⟨w.heap.size+1,0,none⟩ (.int .i64 0)):=(Marks.nil _ _).push (by omega) (by simp) hKD6
  clear hys h0 hK hKD hKD6
  gi_wp2
  exact leaves_marks [D] _ hMD (fun W' hT=>by
   have hb:=hT.below hMD
   have hK4:=hK6.next hb (by omega)
   exact ⟨_,results_cell1 rfl rfl (load_cell (by kernel_rfl) hK4.res),by rw [HV2.out],hK4.below⟩)
end Go.Proofs.YtmbffkemfepekaaGreatDoor
