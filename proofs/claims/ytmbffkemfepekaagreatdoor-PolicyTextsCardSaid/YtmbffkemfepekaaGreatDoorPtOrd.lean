/- policy.Order, walked. Conditions: the policy and at most 12 attributes lie in memory. -/
import Derived.Test.YtmbffkemfepekaaGreatDoorPtCmp
namespace Go.Proofs.YtmbffkemfepekaaGreatDoor
open Go.RowKit Go.Sort Go.Shelf
def allFit (ls:List At):Bool:=ls.all fun a=>fits a.vals
theorem step_app {P:Program} {ops:Array Oper} {o:Oper} {a:Act} {w w':World} {K:Act→World→Prop} {Q:Exit→Act→World→Prop} {E:Prop} {v' v y:Value}
  (hg:o.guard=none) (s x:Operand) (t:TypeId) (hop:o.op=Op.call { callee:=Callee.builtin Builtin.append,args:=#[s,x],argTypes:=#[t,t] }) (hs:a.eval s=v) (hx:a.eval x=y)
  (hrun:(Builtin.append_ #[t,t] o.type #[v,y]).run P w=.ok v' w') (h:K (a.put o.dst v') w'):if Region.wanted o (yielded ops a.tmps)=true then Oper.wp P o a w K Q else E:=by
 rw [if_pos (by simp [Region.wanted,hg])]
 unfold Oper.wp
 simp [execOp,hop,resolve,invoke,builtin,hs,hx,hrun,Result.andThen]
 exact h
/-- What Order holds at a round's head. -/
structure OHd (w:World) (base RV PB:Nat) (pv:Value) (rs:List Rl) (ls:List At) (j:Nat) (vo vr:Value) (W:World):Prop where
 mem:∀ (AB:Nat) (av:Value),W.cell? ⟨AB,2,none⟩=some av→vo.ownBlock≠some AB→vr.ownBlock≠some AB→RV≠AB→OMem w base RV PB AB pv av rs ls j j vo vr vr W
 below:Below w.heap.size w W
 pb:W.cell? ⟨PB,0,none⟩=some pv
 rv:RV<W.heap.size
 owns:W.ownsRow base 3 1 vo j ((List.range j).map natV)∧W.ownsRow base 83 2 vr j ((ls.take j).flatMap (rkC rs))∧(∀ g,vo.ownBlock=some g→vr.ownBlock≠some g)∧W.cell? ⟨RV,0,none⟩=some vr
theorem OMem.head {w:World} {base RV PB AB:Nat} {pv av:Value} {rs:List Rl} {ls:List At} {j:Nat} {vo vr:Value} {W:World} (h:OMem w base RV PB AB pv av rs ls j j vo vr vr W):OHd w base RV PB pv rs ls j vo vr W:=
 ⟨fun _ _ hc ho hr hv=>h.box hc ho hr hv,h.below,h.pb,World.block_lt_of_cell? _ _ h.rv,h.out,h.rks,h.apart,h.rv⟩
/-- A box behind the heap's end. -/
theorem OHd.box {w:World} {base RV PB:Nat} {pv:Value} {rs:List Rl} {ls:List At} {j:Nat} {vo vr:Value} {W:World} (h:OHd w base RV PB pv rs ls j vo vr W) (a b c:Value) (t:TypeId) (hl:w.heap.size≤PB∧PB<base∧w.heap.size≤RV∧RV<base∧w.heap.size≤base∧PB≠RV) (hf:W.frozen? ⟨RV,0,none⟩=false) (hs:base≤W.heap.size) :
  OMem w base RV PB W.heap.size pv c rs ls j j vo vr vr (W.alloc (.cells #[a,b,c] t)):=by
 have hrv:=h.rv
 have hb:=below_alloc W (.cells #[a,b,c] t)
 refine ⟨h.owns.1.alloc _,h.owns.2.1.alloc _,h.owns.2.2.1,(hb.cell (p:=⟨RV,0,none⟩) hrv).trans h.owns.2.2.2,(hb.frozen (p:=⟨RV,0,none⟩) hrv).trans hf,(hb.cell (p:=⟨PB,0,none⟩) (World.block_lt_of_cell? _ _ h.pb)).trans h.pb,bx_new W #[a,b,c] t 2 _ rfl,fun e=>?_,fun e=>?_,by omega,h.below.trans (hb.mono h.below.size),Nat.le_trans hs hb.size,hl⟩
 ·have:=World.ownsRow.lt h.owns.1 _ e; omega
 ·have:=World.ownsRow.lt h.owns.2.1 _ e; omega
/-- What Order returns. -/
def OrdR (rs:List Rl) (ls:List At) (w:World):Ending→World→Prop:=fun e W=>Below w.heap.size w W ∧
 ((chkP rs≠0∧e=.returned (.tuple #[.slice none 0 0,.int .i64 (chkP rs:Nat)]))∨(chkP rs=0∧allFit ls=false∧e=.returned (.tuple #[.slice none 0 0,.int .i64 1])) ∨
  (chkP rs=0∧allFit ls=true∧∃ (A:Option Addr) (c:Nat) (l:List Nat),e=.returned (.tuple #[.slice A ls.length c,.int .i64 0])∧ls.length≤c∧IsOrd ls.length (fun i=>rankR rs (ls.getD i ⟨0,0,[]⟩).vals) l∧Rd W W.heap.size 1 A ls.length (l.map natV)))
theorem range_at {n k:Nat} (h:k<n):((List.range n).map natV)[k]? = some (natV k):=by simp [h]
theorem rks_at (rs:List Rl) (ls:List At) {k:Nat} (h:k<ls.length):(ls.flatMap (rkC rs))[k * 2]? = some (.int .i64 (rankR rs (ls.getD k ⟨0,0,[]⟩).vals).1)∧(ls.flatMap (rkC rs))[k * 2+1]? = some (.int .i64 (rankR rs (ls.getD k ⟨0,0,[]⟩).vals).2):=by
 have e:ls.getD k ⟨0,0,[]⟩=ls[k]:=by simp [List.getD,List.getElem?_eq_getElem h]
 rw [e]
 have h0:=flat_at (rkC_len rs) ls k h 0 (by omega)
 have h1:=flat_at (rkC_len rs) ls k h 1 (by omega)
 exact ⟨h0,h1⟩
theorem own_cap {W:World} {base size n cap:Nat} {e:TypeId} {A:Option Addr} {xs:List Value} (h:W.ownsRow base e size (.slice A n cap) n xs):n≤cap:=by
 rcases h.2 with ⟨e,h0⟩ | ⟨g,cap',cur,e,_,_,hnc,_⟩
 ·omega
 ·injection e with _ _ e
  omega
theorem slice_zero {W:World} {base size n:Nat} {e:TypeId} {v:Value} {xs:List Value} (h:W.ownsRow base e size v n xs) (hn:n=0):∃ (p:Option Addr) (cp:Nat),v=.slice p 0 cp:=by
 rcases h.2 with ⟨e,_⟩ | ⟨g,cap,cur,e,_⟩
 ·exact ⟨_,_,e⟩
 ·exact ⟨_,_,by rw [e,hn]⟩
/-- The sorted numbers, in memory. -/
theorem sort_end {w wr W:World} {base RV PB:Nat} {pv:Value} {rs:List Rl} {ls:List At} {m go co:Nat} {vr:Value} (hm:ls.length=m+1) (hd:OHd w base RV PB pv rs ls ls.length (.slice (some ⟨go,0,none⟩) ls.length co) vr wr) (hlo:w.heap.size≤base) (hS:SortedR m (fun i=>rankR rs (ls.getD i ⟨0,0,[]⟩).vals) go wr (.returned (.tuple #[])) W) (hH:Holds (encF (n:=m)) wr go 0 (numsA m)) :
  Below w.heap.size w W∧∃ l:List Nat,IsOrd ls.length (fun i=>rankR rs (ls.getD i ⟨0,0,[]⟩).vals) l∧Rd W W.heap.size 1 (some ⟨go,0,none⟩) ls.length (l.map natV):=by
 have hlt:=World.ownsRow.lt hd.owns.1 go rfl
 have hS':SW (encF (n:=m)) wr go 0 (Sort.insertionSort (ltA fun x:Fin (m+1)=>rankR rs (ls.getD x.val ⟨0,0,[]⟩).vals) (numsA m) 0 (m+1)) W:=hS
 refine ⟨hd.below.trans (sw_below hS' (by omega) (Nat.le_trans hd.below.size (Nat.le_refl _))),_,by rw [hm]; exact IsOrd.of_sort m _,?_⟩
 obtain ⟨-,-,hsz⟩:=sorted_list (n:=m) (fun x=>rankR rs (ls.getD x.val ⟨0,0,[]⟩).vals)
 generalize Sort.insertionSort (ltA fun x:Fin (m+1)=>rankR rs (ls.getD x.val ⟨0,0,[]⟩).vals) (numsA m) 0 (m+1)=d at hS' hsz ⊢
 refine ⟨by simp [hsz,hm],.inr ⟨go,0,rfl,Nat.lt_of_lt_of_le hlt.2 hS'.le,fun j u hu=>?_⟩⟩
 have hj:j<d.size:=by
  have:=(List.getElem?_eq_some_iff.1 hu).1
  simpa using this
 have hc:=(hS'.holds hlt.2 hH (by rw [hsz,numsA_size]) j hj).1
 rw [List.getElem?_map,List.getElem?_map] at hu
 rw [hc]
 rw [getElem!_pos _ j hj]
 simp only [List.getElem?_eq_getElem (show j<d.toList.length by simpa using hj),Option.map_some,Array.getElem_toList] at hu
 exact hu
set_option maxRecDepth 100000 in
set_option maxHeartbeats 6400000 in
theorem order_any (A:Option Addr) (c B:Nat) (rs:List Rl) (Al:Option Addr) (cl:Nat) (ls:List At) (w:World) (hP:LiesP w B A c rs) (hB:B≤w.heap.size) (hL:LiesA w B Al cl ls) (h12:ls.length≤12) :
  Calls Tryz.prog 14 #[.agg #[.slice A rs.length c],.slice Al ls.length cl] w (OrdR rs ls w):=by
 have HP:=Lib.hid hP
 have HL:=Lib.hid hL
 have hO:=one_new w #[.slice A rs.length c] 24
 have HCK:Hid (∀ W,Below w.heap.size w W→Calls Tryz.prog 10 #[.agg #[.slice A rs.length c]] W (Ret (.int .i64 (chkP rs:Nat)) W)):=Lib.hid (fun W hW=>pck_any A c B rs W (hP.below' hW hB) (Nat.le_trans hB hW.size))
 unfold Ret at HCK
 clear hP hL
 by_cases hck:chkP rs=0
 rotate_left
 ·have HN:=Lib.hid hck
  generalize hf:chkP rs=f at HCK hck
  have HF:=Lib.hid hf
  have e1:((f:Int) != 0)=true:=by simpa using hck
  have e2:(f != 0)=true:=by simpa using hck
  clear hck hf
  go_enter Tryz.func14,Tryz.ntmps14
  go_upto_region 1 with fail
  generalize w.alloc _=w1 at hO ⊢
  have x0:=hO.fst 0 _ rfl
  go_wp2_with fail
  refine (HCK.out _ hO.below).mono ?_
  rintro e w2 ⟨rfl,hb2⟩
  have HB:=Lib.hid (hO.below.trans (hb2.mono hO.below.size))
  clear x0 hb2 hO
  go_wp2_with fail
  go_ret2
  unfold OrdR
  exact ⟨HB.out,.inl ⟨HN.out,by rw [HF.out]; rfl⟩⟩
 ·have HN:=Lib.hid hck
  rw [hck] at HCK
  clear hck
  go_enter Tryz.func14,Tryz.ntmps14
  go_upto_region 1 with fail
  generalize w.alloc _=w1 at hO ⊢
  have x0:=hO.fst 0 _ rfl
  go_wp2_with fail
  refine (HCK.out _ hO.below).mono ?_
  rintro e w2 ⟨rfl,hb2⟩
  clear x0
  replace hO:=hO.next hb2
  clear hb2
  have hO1:=hO.next (below_alloc w2 (.cells #[.slice none 0 0] 80))
  have hR:=one_new w2 #[.slice none 0 0] 80
  have hF:(w2.alloc (.cells #[.slice none 0 0] 80)).frozen? ⟨w2.heap.size,0,none⟩=false:=by simp
  have hz2:=hO.size
  clear hO
  go_upto_region 6 with fail
  obtain ⟨RV,hRV⟩:∃ RV,RV=w2.heap.size:=⟨_,rfl⟩
  obtain ⟨base,hbase⟩:∃ base,base=RV+1:=⟨_,rfl⟩
  have hR0:=hR.fst 0 _ rfl
  have hRz:=hR.size
  rw [← hRV] at hF hR0 hRz ⊢
  generalize w2.alloc _=w3 at hO1 hF hR0 hRz ⊢
  obtain ⟨PB,hPB⟩:∃ PB,PB=w.heap.size:=⟨_,rfl⟩
  have hpb:=hO1.fst 0 _ rfl
  rw [← hPB] at hpb ⊢
  have HLO:Hid (w.heap.size≤PB∧PB<base∧w.heap.size≤RV∧RV<base∧w.heap.size≤base∧PB≠RV):=Lib.hid (by omega)
  have H0:Hid (OHd w base RV PB (.slice A rs.length c) rs ls 0 (.slice none 0 0) (.slice none 0 0) w3∧w3.frozen? ⟨RV,0,none⟩=false∧base≤w3.heap.size):=Lib.hid ⟨⟨fun AB av hc ho hr hv=>⟨World.ownsRow_nil _ _ _ _,World.ownsRow_nil _ _ _ _,fun g hg=>by simp [Value.ownBlock] at hg,hR0,hF,hpb,hc,ho,hr,hv,hO1.below,by omega,HLO.out⟩,hO1.below,hpb,by omega,World.ownsRow_nil _ _ _ _,World.ownsRow_nil _ _ _ _,fun g hg=>by simp [Value.ownBlock] at hg,hR0⟩,hF,by omega⟩
  have HH0:=Lib.hid h12
  clear hO1 hF hR0 hRz hRV hbase hPB hz2 hpb hR
  go_wp2_with fail
  go_loopw [4,5,7,18] (fun r4 r5 vo i wr=>r4=.slice none 0 0∧r5=.int .i64 0∧∃ (j:Nat) (vr:Value),i=.int .i64 (j:Nat)∧j≤ls.length∧Hid (∀ q (h:q<ls.length),q<j→fits ls[q].vals=true)∧(OHd w base RV PB (.slice A rs.length c) rs ls j vo vr wr∧wr.frozen? ⟨RV,0,none⟩=false∧base≤wr.heap.size)) (fun _ _ _ i _=>ls.length - (intOf i).toNat)
  case atStart=>exact ⟨rfl,rfl,0,_,rfl,Nat.zero_le _,Lib.hid (fun q h h0=>by omega),H0.out⟩
  case round=>
   obtain ⟨rfl,rfl,j,vr,rfl,hj,hft,hd,hfz,hbs⟩:=hrel
   have hj0:(0:Int)≤(j:Int):=by omega
   have hwr1:IntKind.i64.wrap ((j:Int)+1)=(j:Int)+1:=by rw [IntKind.wrap_i64]; omega
   have HBW:=Lib.hid hd.below
   by_cases hlt:j<ls.length
   ·have hd1:decide ((j:Int)<(ls.length:Int))=true:=decide_eq_true (by omega)
    have hd2:decide (j<ls.length)=true:=decide_eq_true hlt
    have hjl:(j:Int)<(ls.length:Int):=by omega
    obtain ⟨hvl,b,off,A',c',rfl,hbB,hRd,y0,y1,y2⟩:=(HL.out.below' HBW.out hB).at_ j hlt
    have M:=hd.box (.int .i64 ls[j].task) (.int .i64 ls[j].case_) (.slice A' ls[j].vals.length c') 48 HLO.out hfz hbs
    have HFI:Hid (∀ W,Below wr.heap.size wr W→Calls Tryz.prog 33 #[.slice A' ls[j].vals.length c'] W (Ret (.bool (fits ls[j].vals)) W)):=Lib.hid (fun W hW=>fits_any A' c' B ls[j].vals W (Rd.below' hRd hW (Nat.le_trans hB HBW.out.size)) (Nat.le_trans (Nat.le_trans hB HBW.out.size) hW.size) hvl)
    have hRdw:RdB w B A' ls[j].vals:=by
     obtain ⟨-,b9,off9,A9,c9,e9,-,hR9,-,-,z2⟩:=HL.out.at_ j hlt
     injection e9 with e9
     injection e9 with e91 e92 _
     subst e91 e92
     have z2':=(HBW.out.cell (p:=⟨b,off+j * 3+2,none⟩) (by show b<w.heap.size; omega)).trans z2
     rw [y2] at z2'
     injection z2' with z2'
     injection z2' with z3 _ _
     rw [z3]; exact hR9
    have HRK:Hid (fits ls[j].vals=true→∀ W,Below w.heap.size w W→Calls Tryz.prog 34 #[.agg #[.slice A rs.length c],.slice A' ls[j].vals.length c'] W (Ret (.agg #[.int .i64 (rankR rs ls[j].vals).1,.int .i64 (rankR rs ls[j].vals).2]) W)):=Lib.hid (fun hfi W hW=>rankOf_any ls[j].vals (bdok_fits hfi) A' c' B A c B rs W (HP.out.below' hW hB) (Nat.le_trans hB hW.size) (Rd.below' hRdw hW hB) (Nat.le_trans hB hW.size))
    unfold Ret at HFI
    generalize ls[j].task=tk at y0 M
    generalize ls[j].case_=cs at y1 M
    have hO4:=one_new wr #[.int .i64 tk,.int .i64 cs,.slice A' ls[j].vals.length c'] 48
    have hAl:=below_alloc wr (.cells #[.int .i64 tk,.int .i64 cs,.slice A' ls[j].vals.length c'] 48)
    obtain ⟨AB,hAB⟩:∃ AB,AB=wr.heap.size:=⟨_,rfl⟩
    clear hRd hd hfz
    go_upto_region 9 with fail
    clear y0 y1 y2
    rw [← hAB] at M ⊢
    generalize wr.alloc _=w4 at hO4 M hAl ⊢
    have x2:=hO4.fst 2 _ rfl
    rw [← hAB] at x2
    clear hAB
    cases hfi:fits ls[j].vals with
    | false=>
     rw [hfi] at HFI
     have HNF:Hid (allFit ls=false):=Lib.hid (List.all_eq_false.2 ⟨ls[j],List.getElem_mem hlt,by simp [hfi]⟩)
     clear hfi HRK
     go_wp2_with fail
     refine (HFI.out _ hAl).mono ?_
     rintro e w5 ⟨rfl,hb5⟩
     have HB5:=Lib.hid (M.next hb5).below
     clear x2 hb5 M hO4 hAl
     go_wp2_with fail
     go_ret2
     unfold OrdR
     exact ⟨HB5.out,.inr (.inl ⟨HN.out,HNF.out,rfl⟩)⟩
    | true=>
     have hrk0:=HRK.out hfi
     have HFT:Hid (∀ q (h:q<ls.length),q<j+1→fits ls[q].vals=true):=Lib.hid (fun q h hq=>by
      by_cases e:q=j
      ·subst e; exact hfi
      ·exact hft.out q h (by omega))
     rw [hfi] at HFI
     clear hfi HRK hft
     go_wp2_with fail
     refine (HFI.out _ hAl).mono ?_
     rintro e w5 ⟨rfl,hb5⟩
     replace M:=(M.next hb5).drew
     have hb5w:Below wr.heap.size wr w5:=hAl.trans (hb5.mono hAl.size)
     clear x2 hb5 hO4 hAl
     go_upto_region 11 with fail
     have hb5d:Below wr.heap.size wr w5.drew:=⟨hb5w.os,hb5w.tape,hb5w.output,hb5w.size,hb5w.block⟩
     refine wp_region_held_drew (S:=fun w'=>w'.cell? ⟨PB,0,none⟩=some (.slice A rs.length c)∧w'.cell? ⟨AB,2,none⟩=some (.slice A' ls[j].vals.length c')) (by kernel_rfl) ⟨M.pb,M.ab⟩ (fun hHeld=>?_)
     generalize w5.drew=we at M hHeld hb5d ⊢
     have M0:=M
     have R0:=M0.rv
     have M1:=M0.next (below_alloc we (.cells #[natV j] 3))
     have R1:=M1.rv
     obtain ⟨v2,W2,hrun2,M2⟩:=M0.run_out (by omega) 41
     have R2:=M2.rv
     have HRK:Hid (∀ W,W=W2→Calls Tryz.prog 34 #[.agg #[.slice A rs.length c],.slice A' ls[j].vals.length c'] W (Ret (.agg #[.int .i64 (rankR rs ls[j].vals).1,.int .i64 (rankR rs ls[j].vals).2]) W)):=Lib.hid (fun W e=>by rw [e]; exact hrk0 W2 M2.below)
     unfold natV at M1 R1 hrun2
     unfold Ret at HRK
     clear M hb5w
     refine wpAnyH_take (i:=0) (v:=?_) rfl (by kernel_rfl) (by kernel_rfl) (by kernel_rfl) (fun _ _ _ h=>h) (Or.inl ⟨by kernel_rfl,?_⟩) (by assumption) ?_
     rotate_left
     ·intro w hSw; (try dsimp only at hSw); go_simp; with_reducible rfl
     try simp only [List.getElem_toArray,List.getElem_cons_zero,Act.put,List.setIfInBounds_toArray,List.set_cons_zero,List.set_cons_succ]
     refine wpAnyH_take (i:=1) (v:=?_) rfl (by kernel_rfl) (by kernel_rfl) (by kernel_rfl) (fun _ _ _ h=>h) (Or.inl ⟨by kernel_rfl,?_⟩) (by assumption) ?_
     rotate_left
     ·intro w hSw; (try dsimp only at hSw); go_simp; with_reducible rfl
     try simp only [List.getElem_toArray,List.getElem_cons_succ,List.getElem_cons_zero,Act.put,List.setIfInBounds_toArray,List.set_cons_zero,List.set_cons_succ]
     refine wpAnyH_take (i:=5) (v:=?_) rfl (by kernel_rfl) (by kernel_rfl) (by kernel_rfl) (fun _ _ _ h=>h) (Or.inl ⟨by kernel_rfl,?_⟩) (by assumption) ?_
     rotate_left
     ·intro w hSw; (try dsimp only at hSw); go_simp; with_reducible rfl
     try simp only [List.getElem_toArray,List.getElem_cons_succ,List.getElem_cons_zero,Act.put,List.setIfInBounds_toArray,List.set_cons_zero,List.set_cons_succ]
     refine wpAnyH_take (i:=6) (v:=?_) rfl (by kernel_rfl) (by kernel_rfl) (by kernel_rfl) (fun _ _ _ h=>h) (Or.inl ⟨by kernel_rfl,?_⟩) (by assumption) ?_
     rotate_left
     ·intro w hSw; (try dsimp only at hSw); go_simp; with_reducible rfl
     try simp only [List.getElem_toArray,List.getElem_cons_succ,List.getElem_cons_zero,Act.put,List.setIfInBounds_toArray,List.set_cons_zero,List.set_cons_succ]
     refine wpAnyH_take (i:=7) (v:=?_) rfl (by kernel_rfl) (by kernel_rfl) (by kernel_rfl) (fun _ _ _ h=>h) (Or.inl ⟨by kernel_rfl,?_⟩) (by assumption) ?_
     rotate_left
     ·intro w hSw; (try dsimp only at hSw); go_simp; with_reducible rfl
     try simp only [List.getElem_toArray,List.getElem_cons_succ,List.getElem_cons_zero,Act.put,List.setIfInBounds_toArray,List.set_cons_zero,List.set_cons_succ]
     refine wpAnyH_ready (rs:=[2,4]) (by kernel_rfl) (by simp) ?_
     refine (AllReadyH.cons rfl (fun K hK=>?_) (AllReadyH.cons rfl (fun K hK=>?_) AllReadyH.nil))
     ·go_simp
      refine hK.out _ _ ?_ (fun hHeld=>?_)
      ·exact ⟨M1.pb,M1.ab⟩
      clear hK K
      try simp only [List.getElem_toArray,List.getElem_cons_succ,List.getElem_cons_zero,Act.put,List.setIfInBounds_toArray,List.set_cons_zero,List.set_cons_succ]
      refine wpAnyH_ready (rs:=[3,4]) (by kernel_rfl) (by simp) ?_
      refine (AllReadyH.cons rfl (fun K hK=>?_) (AllReadyH.cons rfl (fun K hK=>?_) AllReadyH.nil))
      ·refine step_app rfl (.tmp 27) (.tmp 29) _ rfl rfl rfl hrun2 ?_
       refine hK.out _ _ ?_ (fun hHeld=>?_)
       ·exact ⟨M2.pb,M2.ab⟩
       clear hK K
       try simp only [List.getElem_toArray,List.getElem_cons_succ,List.getElem_cons_zero,Act.put,List.setIfInBounds_toArray,List.set_cons_zero,List.set_cons_succ]
       refine wpAnyH_ready (rs:=[4,8]) (by kernel_rfl) (by simp) ?_
       refine (AllReadyH.cons rfl (fun K hK=>?_) (AllReadyH.cons rfl (fun K hK=>?_) AllReadyH.nil))
       ·go_simp
        refine hK.out _ _ ?_ (fun hHeld=>?_)
        ·exact hHeld
        clear hK K
        try simp only [List.getElem_toArray,List.getElem_cons_succ,List.getElem_cons_zero,Act.put,List.setIfInBounds_toArray,List.set_cons_zero,List.set_cons_succ]
        refine wpAnyH_ready (rs:=[8]) (by kernel_rfl) (by simp) ?_
        refine AllReadyH.cons rfl (fun K hK=>?_) AllReadyH.nil
        go_simp
        refine (HRK.out W2 rfl).mono ?_
        rintro e W3 ⟨rfl,hb3⟩
        have M3:=M2.next hb3
        have R3:=M3.rv
        have M4:=M3.next (below_alloc W3 (.cells #[.int .i64 (rankR rs ls[j].vals).1,.int .i64 (rankR rs ls[j].vals).2] 83))
        have R4:=M4.rv
        obtain ⟨v5,W5,hrun5,M5⟩:=M3.run_rks (by omega) hlt 80
        obtain ⟨g5,c5,rfl,-,-⟩:=M5.rks.form (by omega)
        have R5:=M5.rv
        have F5:=M5.rvf
        clear hb3
        try dsimp only
        refine hK.out _ _ ?_ (fun hHeld=>?_)
        ·exact ⟨M3.pb,M3.ab⟩
        clear hK K
        try simp only [List.getElem_toArray,List.getElem_cons_succ,List.getElem_cons_zero,Act.put,List.setIfInBounds_toArray,List.set_cons_zero,List.set_cons_succ]
        refine wpAnyH_ready (rs:=[9]) (by kernel_rfl) (by simp) ?_
        refine AllReadyH.cons rfl (fun K hK=>?_) AllReadyH.nil
        go_simp
        refine hK.out _ _ ?_ (fun hHeld=>?_)
        ·exact ⟨M4.pb,M4.ab⟩
        clear hK K
        try simp only [List.getElem_toArray,List.getElem_cons_succ,List.getElem_cons_zero,Act.put,List.setIfInBounds_toArray,List.set_cons_zero,List.set_cons_succ]
        refine wpAnyH_ready (rs:=[10]) (by kernel_rfl) (by simp) ?_
        refine AllReadyH.cons rfl (fun K hK=>?_) AllReadyH.nil
        refine step_app rfl (.tmp 31) (.tmp 36) _ rfl rfl rfl hrun5 ?_
        refine hK.out _ _ ?_ (fun hHeld=>?_)
        ·exact ⟨M5.pb,M5.ab⟩
        clear hK K
        try simp only [List.getElem_toArray,List.getElem_cons_succ,List.getElem_cons_zero,Act.put,List.setIfInBounds_toArray,List.set_cons_zero,List.set_cons_succ]
        refine wpAnyH_ready (rs:=[11]) (by kernel_rfl) (by simp) ?_
        refine AllReadyH.cons rfl (fun K hK=>?_) AllReadyH.nil
        go_simp
        refine hK.out _ _ ?_ (fun hHeld=>?_)
        ·exact hHeld
        clear hK K
        try simp only [List.getElem_toArray,List.getElem_cons_succ,List.getElem_cons_zero,Act.put,List.setIfInBounds_toArray,List.set_cons_zero,List.set_cons_succ]
        refine wpAnyH_ready (rs:=[12]) (by kernel_rfl) (by simp) ?_
        refine AllReadyH.cons rfl (fun K hK=>?_) AllReadyH.nil
        go_simp
        refine hK.out _ _ ?_ (fun hHeld=>?_)
        ·exact ⟨(M5.store (.slice (some ⟨g5,0,none⟩) (j+1) c5)).pb,(M5.store (.slice (some ⟨g5,0,none⟩) (j+1) c5)).ab⟩
        clear hK K
        try simp only [List.getElem_toArray,List.getElem_cons_succ,List.getElem_cons_zero,Act.put,List.setIfInBounds_toArray,List.set_cons_zero,List.set_cons_succ]
        refine wpAnyH_done (by kernel_rfl) ?_ _
        try dsimp only [Exit.then]
        have HM6:=Lib.hid (M5.store (.slice (some ⟨g5,0,none⟩) (j+1) c5))
        clear M0 M1 M2 M3 M4 M5 R0 R1 R2 R3 R4 R5 F5 hrun2 hrun5 hHeld
        go_wp2_with fail
        exact ⟨⟨rfl,rfl,j+1,_,by go_num,by omega,Lib.hid HFT.out,HM6.out.head,HM6.out.rvf,HM6.out.size⟩,by simp [intOf]; omega⟩
       ·go_simp
        refine (HRK.out W2 rfl).mono ?_
        rintro e W3 ⟨rfl,hb3⟩
        have M3:=M2.next hb3
        have R3:=M3.rv
        have M4:=M3.next (below_alloc W3 (.cells #[.int .i64 (rankR rs ls[j].vals).1,.int .i64 (rankR rs ls[j].vals).2] 83))
        have R4:=M4.rv
        obtain ⟨v5,W5,hrun5,M5⟩:=M3.run_rks (by omega) hlt 80
        obtain ⟨g5,c5,rfl,-,-⟩:=M5.rks.form (by omega)
        have R5:=M5.rv
        have F5:=M5.rvf
        clear hb3
        try dsimp only
        refine hK.out _ _ ?_ (fun hHeld=>?_)
        ·exact ⟨M3.pb,M3.ab⟩
        clear hK K
        try simp only [List.getElem_toArray,List.getElem_cons_succ,List.getElem_cons_zero,Act.put,List.setIfInBounds_toArray,List.set_cons_zero,List.set_cons_succ]
        refine wpAnyH_ready (rs:=[4,9]) (by kernel_rfl) (by simp) ?_
        refine (AllReadyH.cons rfl (fun K hK=>?_) (AllReadyH.cons rfl (fun K hK=>?_) AllReadyH.nil))
        ·go_simp
         refine hK.out _ _ ?_ (fun hHeld=>?_)
         ·exact hHeld
         clear hK K
         try simp only [List.getElem_toArray,List.getElem_cons_succ,List.getElem_cons_zero,Act.put,List.setIfInBounds_toArray,List.set_cons_zero,List.set_cons_succ]
         refine wpAnyH_ready (rs:=[9]) (by kernel_rfl) (by simp) ?_
         refine AllReadyH.cons rfl (fun K hK=>?_) AllReadyH.nil
         go_simp
         refine hK.out _ _ ?_ (fun hHeld=>?_)
         ·exact ⟨M4.pb,M4.ab⟩
         clear hK K
         try simp only [List.getElem_toArray,List.getElem_cons_succ,List.getElem_cons_zero,Act.put,List.setIfInBounds_toArray,List.set_cons_zero,List.set_cons_succ]
         refine wpAnyH_ready (rs:=[10]) (by kernel_rfl) (by simp) ?_
         refine AllReadyH.cons rfl (fun K hK=>?_) AllReadyH.nil
         refine step_app rfl (.tmp 31) (.tmp 36) _ rfl rfl rfl hrun5 ?_
         refine hK.out _ _ ?_ (fun hHeld=>?_)
         ·exact ⟨M5.pb,M5.ab⟩
         clear hK K
         try simp only [List.getElem_toArray,List.getElem_cons_succ,List.getElem_cons_zero,Act.put,List.setIfInBounds_toArray,List.set_cons_zero,List.set_cons_succ]
         refine wpAnyH_ready (rs:=[11]) (by kernel_rfl) (by simp) ?_
         refine AllReadyH.cons rfl (fun K hK=>?_) AllReadyH.nil
         go_simp
         refine hK.out _ _ ?_ (fun hHeld=>?_)
         ·exact hHeld
         clear hK K
         try simp only [List.getElem_toArray,List.getElem_cons_succ,List.getElem_cons_zero,Act.put,List.setIfInBounds_toArray,List.set_cons_zero,List.set_cons_succ]
         refine wpAnyH_ready (rs:=[12]) (by kernel_rfl) (by simp) ?_
         refine AllReadyH.cons rfl (fun K hK=>?_) AllReadyH.nil
         go_simp
         refine hK.out _ _ ?_ (fun hHeld=>?_)
         ·exact ⟨(M5.store (.slice (some ⟨g5,0,none⟩) (j+1) c5)).pb,(M5.store (.slice (some ⟨g5,0,none⟩) (j+1) c5)).ab⟩
         clear hK K
         try simp only [List.getElem_toArray,List.getElem_cons_succ,List.getElem_cons_zero,Act.put,List.setIfInBounds_toArray,List.set_cons_zero,List.set_cons_succ]
         refine wpAnyH_done (by kernel_rfl) ?_ _
         try dsimp only [Exit.then]
         have HM6:=Lib.hid (M5.store (.slice (some ⟨g5,0,none⟩) (j+1) c5))
         clear M0 M1 M2 M3 M4 M5 R0 R1 R2 R3 R4 R5 F5 hrun2 hrun5 hHeld
         go_wp2_with fail
         exact ⟨⟨rfl,rfl,j+1,_,by go_num,by omega,Lib.hid HFT.out,HM6.out.head,HM6.out.rvf,HM6.out.size⟩,by simp [intOf]; omega⟩
        ·go_simp
         refine hK.out _ _ ?_ (fun hHeld=>?_)
         ·exact ⟨M4.pb,M4.ab⟩
         clear hK K
         try simp only [List.getElem_toArray,List.getElem_cons_succ,List.getElem_cons_zero,Act.put,List.setIfInBounds_toArray,List.set_cons_zero,List.set_cons_succ]
         refine wpAnyH_ready (rs:=[4]) (by kernel_rfl) (by simp) ?_
         refine AllReadyH.cons rfl (fun K hK=>?_) AllReadyH.nil
         go_simp
         refine hK.out _ _ ?_ (fun hHeld=>?_)
         ·exact hHeld
         clear hK K
         try simp only [List.getElem_toArray,List.getElem_cons_succ,List.getElem_cons_zero,Act.put,List.setIfInBounds_toArray,List.set_cons_zero,List.set_cons_succ]
         refine wpAnyH_ready (rs:=[10]) (by kernel_rfl) (by simp) ?_
         refine AllReadyH.cons rfl (fun K hK=>?_) AllReadyH.nil
         refine step_app rfl (.tmp 31) (.tmp 36) _ rfl rfl rfl hrun5 ?_
         refine hK.out _ _ ?_ (fun hHeld=>?_)
         ·exact ⟨M5.pb,M5.ab⟩
         clear hK K
         try simp only [List.getElem_toArray,List.getElem_cons_succ,List.getElem_cons_zero,Act.put,List.setIfInBounds_toArray,List.set_cons_zero,List.set_cons_succ]
         refine wpAnyH_ready (rs:=[11]) (by kernel_rfl) (by simp) ?_
         refine AllReadyH.cons rfl (fun K hK=>?_) AllReadyH.nil
         go_simp
         refine hK.out _ _ ?_ (fun hHeld=>?_)
         ·exact hHeld
         clear hK K
         try simp only [List.getElem_toArray,List.getElem_cons_succ,List.getElem_cons_zero,Act.put,List.setIfInBounds_toArray,List.set_cons_zero,List.set_cons_succ]
         refine wpAnyH_ready (rs:=[12]) (by kernel_rfl) (by simp) ?_
         refine AllReadyH.cons rfl (fun K hK=>?_) AllReadyH.nil
         go_simp
         refine hK.out _ _ ?_ (fun hHeld=>?_)
         ·exact ⟨(M5.store (.slice (some ⟨g5,0,none⟩) (j+1) c5)).pb,(M5.store (.slice (some ⟨g5,0,none⟩) (j+1) c5)).ab⟩
         clear hK K
         try simp only [List.getElem_toArray,List.getElem_cons_succ,List.getElem_cons_zero,Act.put,List.setIfInBounds_toArray,List.set_cons_zero,List.set_cons_succ]
         refine wpAnyH_done (by kernel_rfl) ?_ _
         try dsimp only [Exit.then]
         have HM6:=Lib.hid (M5.store (.slice (some ⟨g5,0,none⟩) (j+1) c5))
         clear M0 M1 M2 M3 M4 M5 R0 R1 R2 R3 R4 R5 F5 hrun2 hrun5 hHeld
         go_wp2_with fail
         exact ⟨⟨rfl,rfl,j+1,_,by go_num,by omega,Lib.hid HFT.out,HM6.out.head,HM6.out.rvf,HM6.out.size⟩,by simp [intOf]; omega⟩
      ·go_simp
       refine hK.out _ _ ?_ (fun hHeld=>?_)
       ·exact hHeld
       clear hK K
       try simp only [List.getElem_toArray,List.getElem_cons_succ,List.getElem_cons_zero,Act.put,List.setIfInBounds_toArray,List.set_cons_zero,List.set_cons_succ]
       refine wpAnyH_ready (rs:=[3]) (by kernel_rfl) (by simp) ?_
       refine AllReadyH.cons rfl (fun K hK=>?_) AllReadyH.nil
       refine step_app rfl (.tmp 27) (.tmp 29) _ rfl rfl rfl hrun2 ?_
       refine hK.out _ _ ?_ (fun hHeld=>?_)
       ·exact ⟨M2.pb,M2.ab⟩
       clear hK K
       try simp only [List.getElem_toArray,List.getElem_cons_succ,List.getElem_cons_zero,Act.put,List.setIfInBounds_toArray,List.set_cons_zero,List.set_cons_succ]
       refine wpAnyH_ready (rs:=[8]) (by kernel_rfl) (by simp) ?_
       refine AllReadyH.cons rfl (fun K hK=>?_) AllReadyH.nil
       go_simp
       refine (HRK.out W2 rfl).mono ?_
       rintro e W3 ⟨rfl,hb3⟩
       have M3:=M2.next hb3
       have R3:=M3.rv
       have M4:=M3.next (below_alloc W3 (.cells #[.int .i64 (rankR rs ls[j].vals).1,.int .i64 (rankR rs ls[j].vals).2] 83))
       have R4:=M4.rv
       obtain ⟨v5,W5,hrun5,M5⟩:=M3.run_rks (by omega) hlt 80
       obtain ⟨g5,c5,rfl,-,-⟩:=M5.rks.form (by omega)
       have R5:=M5.rv
       have F5:=M5.rvf
       clear hb3
       try dsimp only
       refine hK.out _ _ ?_ (fun hHeld=>?_)
       ·exact ⟨M3.pb,M3.ab⟩
       clear hK K
       try simp only [List.getElem_toArray,List.getElem_cons_succ,List.getElem_cons_zero,Act.put,List.setIfInBounds_toArray,List.set_cons_zero,List.set_cons_succ]
       refine wpAnyH_ready (rs:=[9]) (by kernel_rfl) (by simp) ?_
       refine AllReadyH.cons rfl (fun K hK=>?_) AllReadyH.nil
       go_simp
       refine hK.out _ _ ?_ (fun hHeld=>?_)
       ·exact ⟨M4.pb,M4.ab⟩
       clear hK K
       try simp only [List.getElem_toArray,List.getElem_cons_succ,List.getElem_cons_zero,Act.put,List.setIfInBounds_toArray,List.set_cons_zero,List.set_cons_succ]
       refine wpAnyH_ready (rs:=[10]) (by kernel_rfl) (by simp) ?_
       refine AllReadyH.cons rfl (fun K hK=>?_) AllReadyH.nil
       refine step_app rfl (.tmp 31) (.tmp 36) _ rfl rfl rfl hrun5 ?_
       refine hK.out _ _ ?_ (fun hHeld=>?_)
       ·exact ⟨M5.pb,M5.ab⟩
       clear hK K
       try simp only [List.getElem_toArray,List.getElem_cons_succ,List.getElem_cons_zero,Act.put,List.setIfInBounds_toArray,List.set_cons_zero,List.set_cons_succ]
       refine wpAnyH_ready (rs:=[11]) (by kernel_rfl) (by simp) ?_
       refine AllReadyH.cons rfl (fun K hK=>?_) AllReadyH.nil
       go_simp
       refine hK.out _ _ ?_ (fun hHeld=>?_)
       ·exact hHeld
       clear hK K
       try simp only [List.getElem_toArray,List.getElem_cons_succ,List.getElem_cons_zero,Act.put,List.setIfInBounds_toArray,List.set_cons_zero,List.set_cons_succ]
       refine wpAnyH_ready (rs:=[12]) (by kernel_rfl) (by simp) ?_
       refine AllReadyH.cons rfl (fun K hK=>?_) AllReadyH.nil
       go_simp
       refine hK.out _ _ ?_ (fun hHeld=>?_)
       ·exact ⟨(M5.store (.slice (some ⟨g5,0,none⟩) (j+1) c5)).pb,(M5.store (.slice (some ⟨g5,0,none⟩) (j+1) c5)).ab⟩
       clear hK K
       try simp only [List.getElem_toArray,List.getElem_cons_succ,List.getElem_cons_zero,Act.put,List.setIfInBounds_toArray,List.set_cons_zero,List.set_cons_succ]
       refine wpAnyH_done (by kernel_rfl) ?_ _
       try dsimp only [Exit.then]
       have HM6:=Lib.hid (M5.store (.slice (some ⟨g5,0,none⟩) (j+1) c5))
       clear M0 M1 M2 M3 M4 M5 R0 R1 R2 R3 R4 R5 F5 hrun2 hrun5 hHeld
       go_wp2_with fail
       exact ⟨⟨rfl,rfl,j+1,_,by go_num,by omega,Lib.hid HFT.out,HM6.out.head,HM6.out.rvf,HM6.out.size⟩,by simp [intOf]; omega⟩
     ·go_simp
      refine hK.out _ _ ?_ (fun hHeld=>?_)
      ·exact hHeld
      clear hK K
      try simp only [List.getElem_toArray,List.getElem_cons_succ,List.getElem_cons_zero,Act.put,List.setIfInBounds_toArray,List.set_cons_zero,List.set_cons_succ]
      refine wpAnyH_ready (rs:=[2]) (by kernel_rfl) (by simp) ?_
      refine AllReadyH.cons rfl (fun K hK=>?_) AllReadyH.nil
      go_simp
      refine hK.out _ _ ?_ (fun hHeld=>?_)
      ·exact ⟨M1.pb,M1.ab⟩
      clear hK K
      try simp only [List.getElem_toArray,List.getElem_cons_succ,List.getElem_cons_zero,Act.put,List.setIfInBounds_toArray,List.set_cons_zero,List.set_cons_succ]
      refine wpAnyH_ready (rs:=[3]) (by kernel_rfl) (by simp) ?_
      refine AllReadyH.cons rfl (fun K hK=>?_) AllReadyH.nil
      refine step_app rfl (.tmp 27) (.tmp 29) _ rfl rfl rfl hrun2 ?_
      refine hK.out _ _ ?_ (fun hHeld=>?_)
      ·exact ⟨M2.pb,M2.ab⟩
      clear hK K
      try simp only [List.getElem_toArray,List.getElem_cons_succ,List.getElem_cons_zero,Act.put,List.setIfInBounds_toArray,List.set_cons_zero,List.set_cons_succ]
      refine wpAnyH_ready (rs:=[8]) (by kernel_rfl) (by simp) ?_
      refine AllReadyH.cons rfl (fun K hK=>?_) AllReadyH.nil
      go_simp
      refine (HRK.out W2 rfl).mono ?_
      rintro e W3 ⟨rfl,hb3⟩
      have M3:=M2.next hb3
      have R3:=M3.rv
      have M4:=M3.next (below_alloc W3 (.cells #[.int .i64 (rankR rs ls[j].vals).1,.int .i64 (rankR rs ls[j].vals).2] 83))
      have R4:=M4.rv
      obtain ⟨v5,W5,hrun5,M5⟩:=M3.run_rks (by omega) hlt 80
      obtain ⟨g5,c5,rfl,-,-⟩:=M5.rks.form (by omega)
      have R5:=M5.rv
      have F5:=M5.rvf
      clear hb3
      try dsimp only
      refine hK.out _ _ ?_ (fun hHeld=>?_)
      ·exact ⟨M3.pb,M3.ab⟩
      clear hK K
      try simp only [List.getElem_toArray,List.getElem_cons_succ,List.getElem_cons_zero,Act.put,List.setIfInBounds_toArray,List.set_cons_zero,List.set_cons_succ]
      refine wpAnyH_ready (rs:=[9]) (by kernel_rfl) (by simp) ?_
      refine AllReadyH.cons rfl (fun K hK=>?_) AllReadyH.nil
      go_simp
      refine hK.out _ _ ?_ (fun hHeld=>?_)
      ·exact ⟨M4.pb,M4.ab⟩
      clear hK K
      try simp only [List.getElem_toArray,List.getElem_cons_succ,List.getElem_cons_zero,Act.put,List.setIfInBounds_toArray,List.set_cons_zero,List.set_cons_succ]
      refine wpAnyH_ready (rs:=[10]) (by kernel_rfl) (by simp) ?_
      refine AllReadyH.cons rfl (fun K hK=>?_) AllReadyH.nil
      refine step_app rfl (.tmp 31) (.tmp 36) _ rfl rfl rfl hrun5 ?_
      refine hK.out _ _ ?_ (fun hHeld=>?_)
      ·exact ⟨M5.pb,M5.ab⟩
      clear hK K
      try simp only [List.getElem_toArray,List.getElem_cons_succ,List.getElem_cons_zero,Act.put,List.setIfInBounds_toArray,List.set_cons_zero,List.set_cons_succ]
      refine wpAnyH_ready (rs:=[11]) (by kernel_rfl) (by simp) ?_
      refine AllReadyH.cons rfl (fun K hK=>?_) AllReadyH.nil
      go_simp
      refine hK.out _ _ ?_ (fun hHeld=>?_)
      ·exact hHeld
      clear hK K
      try simp only [List.getElem_toArray,List.getElem_cons_succ,List.getElem_cons_zero,Act.put,List.setIfInBounds_toArray,List.set_cons_zero,List.set_cons_succ]
      refine wpAnyH_ready (rs:=[12]) (by kernel_rfl) (by simp) ?_
      refine AllReadyH.cons rfl (fun K hK=>?_) AllReadyH.nil
      go_simp
      refine hK.out _ _ ?_ (fun hHeld=>?_)
      ·exact ⟨(M5.store (.slice (some ⟨g5,0,none⟩) (j+1) c5)).pb,(M5.store (.slice (some ⟨g5,0,none⟩) (j+1) c5)).ab⟩
      clear hK K
      try simp only [List.getElem_toArray,List.getElem_cons_succ,List.getElem_cons_zero,Act.put,List.setIfInBounds_toArray,List.set_cons_zero,List.set_cons_succ]
      refine wpAnyH_done (by kernel_rfl) ?_ _
      try dsimp only [Exit.then]
      have HM6:=Lib.hid (M5.store (.slice (some ⟨g5,0,none⟩) (j+1) c5))
      clear M0 M1 M2 M3 M4 M5 R0 R1 R2 R3 R4 R5 F5 hrun2 hrun5 hHeld
      go_wp2_with fail
      exact ⟨⟨rfl,rfl,j+1,_,by go_num,by omega,Lib.hid HFT.out,HM6.out.head,HM6.out.rvf,HM6.out.size⟩,by simp [intOf]; omega⟩
   ·have hd1:decide ((j:Int)<(ls.length:Int))=false:=decide_eq_false (by omega)
    have hd2:decide (j<ls.length)=false:=decide_eq_false hlt
    have hjl:j=ls.length:=by omega
    have HAF:Hid (allFit ls=true):=Lib.hid (List.all_eq_true.2 (fun a ha=>by
     obtain ⟨q,hq,rfl⟩:=List.getElem_of_mem ha
     exact hft.out q hq (by omega)))
    rw [hjl] at hd
    have hcr:=hd.owns.2.2.2
    have hmf:∀ (fn:Fn) (first cap:Array Value) (w:World),(Instr.makeFunc fn first cap).run Tryz.prog w=.ok (.func fn first cap) w:=fun _ _ _ _=>rfl
    obtain ⟨n,hn⟩:∃ n,n=ls.length:=⟨_,rfl⟩
    by_cases hn0:ls.length=0
    ·obtain ⟨p,cp,rfl⟩:=slice_zero hd.owns.1 hn0
     have HNN:=Lib.hid hn0
     have HSN:=Lib.hid (fun W=>stableNone_any p cp (.func (.func 36) #[] #[.pointer (some ⟨RV,0,none⟩)]) W)
     clear hd hcr hn0 hn hjl hft
     go_wp2_with fail
     refine (HSN.out _).mono ?_
     rintro e w5 ⟨rfl,hw5⟩
     have HB5:Hid (Below w.heap.size w w5):=Lib.hid (by rw [hw5]; exact HBW.out)
     clear hw5
     go_wp2_with fail
     go_ret2
     unfold OrdR
     exact ⟨HB5.out,.inr (.inr ⟨HN.out,HAF.out,p,cp,[],by rw [HNN.out]; rfl,by rw [HNN.out]; exact Nat.zero_le _,by rw [HNN.out]; exact ⟨List.Perm.refl _,List.Pairwise.nil⟩,by rw [HNN.out]; exact ⟨rfl,.inl rfl⟩⟩)⟩
    ·obtain ⟨m,hm⟩:∃ m,ls.length=m+1:=⟨ls.length - 1,by omega⟩
     obtain ⟨go,co,rfl,-,-⟩:=hd.owns.1.form (by omega)
     have HCO:Hid (ls.length≤co):=Lib.hid (own_cap hd.owns.1)
     obtain ⟨gr,cr,rfl,-,-⟩:=hd.owns.2.1.form (by omega)
     have hlt1:=World.ownsRow.lt hd.owns.1 go rfl
     have hlo:=HLO.out
     have hH:Holds (encF (n:=m)) wr go 0 (numsA m):=by
      intro q hq
      rw [numsA_size] at hq
      have h1:=World.ownsRow.cellAt hd.owns.1 q (by omega)
      rw [range_at (by omega)] at h1
      refine ⟨?_,?_⟩
      ·rw [Nat.zero_add,h1]
       unfold encF natV
       rw [numsA_at m q hq]
      ·rw [Nat.zero_add]; exact World.ownsRow.frozenAt hd.owns.1 q
     have hr:∀ i,i<m+1→wr.cell? ⟨gr,0+i * 2,none⟩=some (.int .i64 (rankR rs (ls.getD i ⟨0,0,[]⟩).vals).1)∧wr.cell? ⟨gr,0+i * 2+1,none⟩=some (.int .i64 (rankR rs (ls.getD i ⟨0,0,[]⟩).vals).2):=by
      intro i hi
      have hil:i<ls.length:=by omega
      have h2:=rks_at rs ls hil
      have hown2:=hd.owns.2.1
      rw [List.take_of_length_le (Nat.le_refl _)] at hown2
      rw [Nat.zero_add]
      exact ⟨(World.ownsRow.cellAt hown2 (i * 2) (by omega)).trans h2.1,(World.ownsRow.cellAt hown2 (i * 2+1) (by omega)).trans h2.2⟩
     have hst:=stable_any m (by omega) (fun i=>rankR rs (ls.getD i ⟨0,0,[]⟩).vals) RV gr 0 cr go co wr (by rw [← hm]; exact hcr) hr (by omega) (fun e=>hd.owns.2.2.1 go rfl (by rw [e]; rfl)) hH hlt1.2
     rw [← hm] at hst
     have HST:=Lib.hid hst
     have HEND:Hid (∀ W,SortedR m (fun i=>rankR rs (ls.getD i ⟨0,0,[]⟩).vals) go wr (.returned (.tuple #[])) W→Below w.heap.size w W∧∃ l:List Nat,IsOrd ls.length (fun i=>rankR rs (ls.getD i ⟨0,0,[]⟩).vals) l∧Rd W W.heap.size 1 (some ⟨go,0,none⟩) ls.length (l.map natV)):=Lib.hid (fun W hS=>sort_end hm hd hlo.2.2.2.2.1 hS hH)
     clear hd hcr hn0 hn hjl hft hst hr hH hm hlt1 hlo
     go_wp2_with fail
     refine HST.out.mono ?_
     rintro e w5 ⟨rfl,hS5⟩
     have HR5:=Lib.hid (HEND.out w5 hS5)
     clear hS5
     go_wp2_with fail
     go_ret2
     unfold OrdR
     obtain ⟨hb5,l,hl1,hl2⟩:=HR5.out
     exact ⟨hb5,.inr (.inr ⟨HN.out,HAF.out,_,_,l,rfl,HCO.out,hl1,hl2⟩)⟩
end Go.Proofs.YtmbffkemfepekaaGreatDoor
