/- The chapter's example of a policy in plain Lean: it is parsed, printed and ordered as it says. No program in sight. -/
import Derived.Test.YtmbffkemfepekaaGreatDoorPtPrM
import Derived.Test.YtmbffkemfepekaaGreatDoorPtCmp
import Derived.KernelRfl
import Derived.Test.YtmbffkemfepekaaGreatDoorPtOrd
import Derived.Test.YtmbffkemfepekaaGreatDoorPtPs1
import Derived.Test.YtmbffkemfepekaaGreatDoorPtPs0
import Derived.Test.YtmbffkemfepekaaGreatDoorPtPrt
import Derived.Test.YtmbffkemfepekaaGreatDoorPtBdK
namespace Go.Proofs.YtmbffkemfepekaaGreatDoor
def awS:ByteArray:=⟨#[119,104,101,110,32,104,101,108,100,32,62,32,48,32,98,121,32,45,101,102,102,101,99,116,105,118,101,59,32,119,104,101,110,32,105,110,100,101,120,32,62,61,32,48,32,98,121,32,105,110,100,101,120,59]⟩
def awP:List UInt8:=[119,104,101,110,32,104,101,108,100,32,62,32,48,32,98,121,32,45,101,102,102,101,99,116,105,118,101,59,10,119,104,101,110,32,105,110,100,101,120,32,62,61,32,48,32,98,121,32,105,110,100,101,120,59,10]
def awHeld:ByteArray:=⟨#[104,101,108,100]⟩
def awEff:ByteArray:=⟨#[101,102,102,101,99,116,105,118,101]⟩
def awIdx:ByteArray:=⟨#[105,110,100,101,120]⟩
def awRs:List Rl:=[⟨exBin 12 (exName awHeld) (exNum 0),exUn 1 (exName awEff)⟩,⟨exBin 13 (exName awIdx) (exNum 0),exName awIdx⟩]
set_option maxRecDepth 100000 in
theorem aw_parse:parseM awS=.ok awRs:=by kernel_rfl
set_option maxRecDepth 100000 in
theorem aw_print:printM awRs=awP:=by kernel_rfl
theorem aw_valid:chkP awRs=0:=parse_valid aw_parse
/-- The names of all attributes, three of them with values. -/
def awB (e h i:Int):List Bd:=[⟨⟨#[99,97,110,99,101,108,108,101,100]⟩,2,0⟩,⟨⟨#[99,97,115,101]⟩,1,0⟩,⟨⟨#[99,108,111,99,107]⟩,2,0⟩,⟨⟨#[100,101,112,116,104]⟩,1,0⟩,⟨⟨#[101,102,102,101,99,116,105,118,101]⟩,1,e⟩,⟨⟨#[104,101,108,100]⟩,1,h⟩,⟨⟨#[105,110,100,101,120]⟩,1,i⟩,⟨⟨#[110,111,119]⟩,1,0⟩,⟨⟨#[111,112]⟩,1,0⟩,⟨⟨#[111,119,110]⟩,1,0⟩,⟨⟨#[115,116,101,112,115]⟩,1,0⟩]
def awVs:List (List Bd):=[awB 1 0 3,awB 1 1 2,awB 0 0 1,awB 5 2 4]
def awRk (i:Nat):Int × Int:=rankR awRs (awVs.getD i [])
theorem aw_rank:awRk 0=(1,3)∧awRk 1=(0,-1)∧awRk 2=(1,1)∧awRk 3=(0,-5):=⟨by kernel_rfl,by kernel_rfl,by kernel_rfl,by kernel_rfl⟩
theorem aw_ord:IsOrd 4 awRk [3,1,2,0]:=by
 obtain ⟨h0,h1,h2,h3⟩:=aw_rank
 refine ⟨by decide,?_⟩
 simp only [List.pairwise_cons,List.mem_cons,List.not_mem_nil,or_false,forall_eq_or_imp,forall_eq,false_imp_iff,implies_true,List.Pairwise.nil,and_true,h0,h1,h2,h3]
 decide
end Go.Proofs.YtmbffkemfepekaaGreatDoor

namespace Go.Proofs.YtmbffkemfepekaaGreatDoor
open Go.RowKit
set_option maxRecDepth 100000 in
set_option maxHeartbeats 3200000 in
theorem names_any (w:World):Calls Tryz.prog 39 #[] w (fun e W=>Below w.heap.size w W∧∃ K,e=.returned (.slice (some ⟨K,0,none⟩) 11 11)∧w.heap.size≤K∧W.heap[K]? = some (.cells (((awB 0 0 0).flatMap Bd.cells).toArray) 89 (0,0))):=by
 go_enter Tryz.func39,Tryz.ntmps39
 go_wp2_with fail
 go_ret
 exact ⟨below_alloc _ _,w.heap.size,rfl,Nat.le_refl _,by rw [blk_new]; rfl⟩
theorem blk3_set {W:World} {K:Nat} {u0 u1 u2:Value} {T:TypeId} {fz:Nat × Nat} (h:W.heap[K]? = some (.cells #[u0,u1,u2] T fz)) (v0 v1 v2:Value) :
  (((W.setCell ⟨K,0,none⟩ v0).setCell ⟨K,1,none⟩ v1).setCell ⟨K,2,none⟩ v2).heap[K]? = some (.cells #[v0,v1,v2] T fz):=by
 simp [World.setCell,Array.getElem?_modify,h]
/-- A row of attributes' bindings, as one block. -/
def AwRow (W:World) (K:Nat) (bs:List Bd):Prop:=W.heap[K]? = some (.cells ((bs.flatMap Bd.cells).toArray) 89 (0,0))
set_option maxRecDepth 100000 in
set_option maxHeartbeats 3200000 in
theorem attrs_any (e h i:Int) (w:World):Calls Tryz.prog 15 #[.int .i64 e,.int .i64 h,.int .i64 i] w (fun en W=>Below w.heap.size w W∧∃ K,en=.returned (.agg #[.int .i64 i,.int .i64 0,.slice (some ⟨K,0,none⟩) 11 11])∧w.heap.size≤K∧AwRow W K (awB e h i)):=by
 have HN:=Lib.hid (fun W=>names_any W)
 have hb1:=below_alloc w (.cells #[.int .i64 0,.int .i64 0,.slice none 0 0] 48)
 have hE:=blk_new w (.cells #[.int .i64 0,.int .i64 0,.slice none 0 0] 48)
 go_enter Tryz.func15,Tryz.ntmps15
 go_upto_region 1 with fail
 generalize w.alloc _=w1 at hb1 hE ⊢
 go_wp2_with fail
 refine (HN.out _).mono ?_
 rintro en W2 ⟨hb2,K,rfl,hK,hk⟩
 have hz1:w.heap.size<w1.heap.size:=(Array.getElem?_eq_some_iff.1 hE).1
 have hE2:=(hb2.block _ hz1).trans hE
 have hB:=hb1.trans (hb2.mono hb1.size)
 clear hE hb1 hb2 HN
 unfold awB at hk
 simp only [List.flatMap_cons,List.flatMap_nil,Bd.cells,List.append_nil,List.cons_append,List.nil_append] at hk
 have c14:=cell_of_row W2 K 14 _ _ _ hk
 have c17:=cell_of_row W2 K 17 _ _ _ hk
 have c20:=cell_of_row W2 K 20 _ _ _ hk
 have e0:=cell_of_row W2 w.heap.size 0 _ _ _ hE2
 have e1:=cell_of_row W2 w.heap.size 1 _ _ _ hE2
 have e2:=cell_of_row W2 w.heap.size 2 _ _ _ hE2
 have f0:∀ j,W2.frozen? ⟨K,j,none⟩=false:=fun j=>by unfold World.frozen?; rw [hk]; simp
 have f1:∀ j,W2.frozen? ⟨w.heap.size,j,none⟩=false:=fun j=>by unfold World.frozen?; rw [hE2]; simp
 have n1:K≠w.heap.size:=by omega
 have n2:w.heap.size≠K:=by omega
 simp only [List.getElem?_cons_succ,List.getElem?_cons_zero,List.getElem?_toArray] at c14 c17 c20 e0 e1 e2
 have HK:=Lib.hid hk
 have HE:=Lib.hid hE2
 clear hk hE2
 go_wp2_with fail
 clear c14 c17 c20 e0 e1 e2 f0 f1
 have far:∀ (j:Nat) (v:Value) (W:World),(W.setCell ⟨K,j,none⟩ v).heap[w.heap.size]? = W.heap[w.heap.size]?:=fun j v W=>Below.heap_setCell W _ v _ n2
 have far2:∀ (j:Nat) (v:Value) (W:World),(W.setCell ⟨w.heap.size,j,none⟩ v).heap[K]? = W.heap[K]?:=fun j v W=>Below.heap_setCell W _ v _ n1
 have hE3:((((((W2.setCell ⟨K,14,none⟩ (.int .i64 e)).setCell ⟨K,17,none⟩ (.int .i64 h)).setCell ⟨K,20,none⟩ (.int .i64 i)).setCell ⟨w.heap.size,0,none⟩ (.int .i64 i)).setCell ⟨w.heap.size,1,none⟩ (.int .i64 0)).setCell ⟨w.heap.size,2,none⟩ (.slice (some ⟨K,0,none⟩) 11 11)).heap[w.heap.size]? = some (.cells #[.int .i64 i,.int .i64 0,.slice (some ⟨K,0,none⟩) 11 11] 48 (0,0)):=
  blk3_set (((far _ _ _).trans ((far _ _ _).trans (far _ _ _))).trans HE.out) _ _ _
 refine bodyPost_ret (results_cell1 rfl rfl (run_loadVar_row _ _ _ 48 _ _ _ hE3 Tryz.underlying48 rfl (by kernel_rfl))) rfl ?_
 refine ⟨?_,K,rfl,by omega,?_⟩
 ·exact (((((hB.setCell (p:=⟨K,14,none⟩) (by show w.heap.size≤K; omega) _).setCell (p:=⟨K,17,none⟩) (by show w.heap.size≤K; omega) _).setCell (p:=⟨K,20,none⟩) (by show w.heap.size≤K; omega) _).setCell (p:=⟨w.heap.size,0,none⟩) (Nat.le_refl _) _).setCell (p:=⟨w.heap.size,1,none⟩) (Nat.le_refl _) _).setCell (p:=⟨w.heap.size,2,none⟩) (Nat.le_refl _) _
 ·unfold AwRow
  rw [far2,far2,far2]
  have hk:=HK.out
  simp [World.setCell,Array.getElem?_modify,hk,awB,Bd.cells]
end Go.Proofs.YtmbffkemfepekaaGreatDoor

namespace Go.Proofs.YtmbffkemfepekaaGreatDoor
open Go.Shelf Go.RowKit
/-- What Print returns. -/
def pprV (rs:List Rl):Value:=if chkP rs=0 then .tuple #[.string ⟨(printM rs).toArray⟩,.int .i64 0] else .tuple #[.string ⟨#[]⟩,.int .i64 (chkP rs:Nat)]
theorem rule_wr {r:Rl} (h1:tyE r.cond 2=0) (h2:tyE r.key 1=0):prtV r.cond=.tuple #[.string ⟨(wrE r.cond).toArray⟩,.int .i64 0]∧prtV r.key=.tuple #[.string ⟨(wrE r.key).toArray⟩,.int .i64 0]∧(wrE r.cond).length≤4000∧(wrE r.key).length≤4000:=by
 have g1:=tyE_good h1
 have g2:=tyE_good h2
 have l1:=wr_len _ g1.2.1
 have l2:=wr_len _ g2.2.1
 have n1:=(good_of _ g1.1).2.1
 have n2:=(good_of _ g2.1).2.1
 exact ⟨by unfold prtV; rw [if_pos g1.1],by unfold prtV; rw [if_pos g2.1],by omega,by omega⟩
theorem ruleB_len (r:Rl):(ruleB r).length=(wrE r.cond).length+(wrE r.key).length+11:=by
 simp [ruleB,whenL,byL]; omega
theorem print_len:∀ {rs:List Rl},(∀ r∈rs,(wrE r.cond).length≤4000∧(wrE r.key).length≤4000)→(printM rs).length≤rs.length * 8011
 | [],_=>by simp [printM]
 | r::rs,h=>by
  have h1:=h r (by simp)
  have h2:=print_len (rs:=rs) (fun x hx=>h x (by simp [hx]))
  have h3:=ruleB_len r
  simp only [printM,List.flatMap_cons,List.length_append,List.length_cons] at h2 ⊢
  omega
/-- The text of a rule, as the code puts it together. -/
def ruleS (a b:List UInt8):ByteArray:=((((⟨#[119,104,101,110,32]⟩ ++ ⟨a.toArray⟩:ByteArray) ++ ⟨#[32,98,121,32]⟩) ++ ⟨b.toArray⟩) ++ ⟨#[59,10]⟩)
theorem ruleS_eq (r:Rl):(ruleS (wrE r.cond) (wrE r.key)).data.toList=ruleB r:=by
 simp [ruleS,ruleB,whenL,byL]
set_option maxRecDepth 100000 in
set_option maxHeartbeats 3200000 in
theorem pprint_any (A:Option Addr) (c B:Nat) (rs:List Rl) (w:World) (hP:LiesP w B A c rs) (hB:B≤w.heap.size) (hT:TabK w.heap.size w):Calls Tryz.prog 6 #[.agg #[.slice A rs.length c]] w (Ret (pprV rs) w):=by
 have hl:=hP.len
 have HC:=Lib.hid (fun (W:World) (hb:Below w.heap.size w W)=>pck_any A c B rs W (hP.below' hb hB) (Nat.le_trans hB hb.size))
 have HP:=Lib.hid hP
 have HT:=Lib.hid hT
 have HV0:Hid (pprV rs=if chkP rs=0 then .tuple #[.string ⟨(printM rs).toArray⟩,.int .i64 0] else .tuple #[.string ⟨#[]⟩,.int .i64 (chkP rs:Nat)]):=Lib.hid rfl
 have HRU:Hid (chkP rs=0→rs.length≤16∧∀ r∈rs,tyE r.cond 2=0∧tyE r.key 1=0):=Lib.hid (fun h=>chkP_rule h)
 generalize pprV rs=pv at HV0 ⊢
 unfold Ret at HC ⊢
 generalize chkP rs=ce at HC HV0 HRU
 have hO:=one_new w #[.slice A rs.length c] 24
 have hz1:=hO.size
 clear hP hT
 by_cases hce:ce=0
 rotate_left
 ·have n0:((ce:Nat):Int)≠0:=by omega
  have n1:(((ce:Nat):Int) != 0)=true:=by simpa using hce
  have n2:(ce != 0)=true:=by simpa using hce
  have HV:Hid (pv=.tuple #[.string ⟨#[]⟩,.int .i64 (ce:Nat)]):=Lib.hid (by rw [HV0.out,if_neg hce])
  clear HRU HV0 hce
  go_enter Tryz.func6,Tryz.ntmps6
  go_upto_region 1 with fail
  generalize w.alloc _=w1 at hO hz1 ⊢
  have HB1:=Lib.hid hO.below
  have d0:=hO.fst 0 _ rfl
  clear hO
  go_wp2_with (go_at_call 10; refine (HC.out _ HB1.out).mono ?_; rintro e W2 ⟨rfl,hb2⟩)
  go_ret2
  rw [HV.out]
  exact ⟨rfl,HB1.out.trans (hb2.mono HB1.out.size)⟩
 ·subst hce
  have HV:Hid (pv=.tuple #[.string ⟨(printM rs).toArray⟩,.int .i64 0]):=Lib.hid (by rw [HV0.out,if_pos rfl])
  obtain ⟨h16,hru⟩:=HRU.out rfl
  have HR:=Lib.hid (fun r hr=>rule_wr (hru r hr).1 (hru r hr).2)
  clear HRU HV0 hru
  go_enter Tryz.func6,Tryz.ntmps6
  go_upto_region 1 with fail
  generalize w.alloc _=w1 at hO hz1 ⊢
  have HB1:=Lib.hid hO.below
  have d0:=hO.fst 0 _ rfl
  go_upto_region 4 with (go_at_call 10; refine (HC.out _ HB1.out).mono ?_; rintro e W2 ⟨rfl,hb2⟩)
  clear HC d0
  replace hO:=hO.next hb2
  have HB2:=Lib.hid (HB1.out.trans (hb2.mono HB1.out.size))
  have hz2:w.heap.size<W2.heap.size:=by have:=hb2.size; omega
  clear hb2 hz1
  go_upto_region 5 with fail
  have hfr:=Lib.fresh_isBuilder 55 5 W2
  have hba:=below_alloc W2 (.cells #[.pointer none,.slice none 0 0] 55)
  replace hO:=hO.next hba
  have hz3:(W2.alloc (.cells #[.pointer none,.slice none 0 0] 55)).heap.size=W2.heap.size+1:=by simp
  generalize W2.alloc _=W3 at hfr hba hO hz3 ⊢
  obtain ⟨b,hb⟩:∃ b,b=W2.heap.size:=⟨_,rfl⟩
  have HB3:=Lib.hid (HB2.out.trans (hba.mono HB2.out.size))
  have hbd:Bld b b [] W3:=by rw [hb]; exact hfr
  have hwb:w.heap.size≤b:=by omega
  have hb3:b≤W3.heap.size:=by omega
  have d0:=hO.fst 0 _ rfl
  rw [← hb]
  clear hfr hba hz2 hz3 hb
  go_upto_region 6 with fail
  go_loopw [20] (fun i wr=>∃ j:Nat,i=.int .i64 (j:Nat)∧j≤rs.length∧Hid (Bld b b (printM (rs.take j)) wr)∧Hid (Below b W3 wr)) (fun i _=>rs.length - (intOf i).toNat)
  case atStart=>exact ⟨0,rfl,Nat.zero_le _,Lib.hid hbd,Lib.hid (Below.refl _ _)⟩
  case round=>
   obtain ⟨j,rfl,hj,hbj,hb⟩:=hrel
   have hj0:(0:Int)≤(j:Int):=by omega
   have HBW:Hid (Below w.heap.size w wr):=Lib.hid (HB3.out.trans (hb.out.mono hwb))
   have hbz:b<wr.heap.size:=hbj.out.lt
   by_cases hlt:j<rs.length
   ·have hd1:decide ((j:Int)<(rs.length:Int))=true:=decide_eq_true (by omega)
    have hwr1:IntKind.i64.wrap ((j:Int)+1)=(j:Int)+1:=by rw [IntKind.wrap_i64]; omega
    have hd2:decide (j<rs.length)=true:=decide_eq_true hlt
    have hjl:(j:Int)<(rs.length:Int):=by omega
    obtain ⟨b0,off,k,o,n,v,A1,m1,c1,k2,o2,n2,v2,A2,m2,c2,rfl,hb1,hL1,hL2,y0,y1,y2,y3,y4,y5,y6,y7,y8,y9⟩:=(HP.out.below' HBW.out hB).at_ j hlt
    have hO4:=one_new wr #[.int .i64 k,.int .i64 o,.string n,.int .i64 v,.slice A1 m1 c1,.int .i64 k2,.int .i64 o2,.string n2,.int .i64 v2,.slice A2 m2 c2] 40
    have hlo:B≤wr.heap.size:=Nat.le_trans hB HBW.out.size
    obtain ⟨pc,pk,lc,lk⟩:=HR.out rs[j] (List.getElem_mem hlt)
    have hpl:(printM (rs.take j)).length≤j * 8011:=by
     have:=print_len (rs:=rs.take j) (fun r hr=>⟨(HR.out r (List.mem_of_mem_take hr)).2.2.1,(HR.out r (List.mem_of_mem_take hr)).2.2.2⟩)
     rwa [List.length_take,Nat.min_eq_left hj] at this
    have hrl:=ruleB_len rs[j]
    have HE:=Lib.hid (ruleS_eq rs[j])
    have HNX:Hid (printM (rs.take j)++ruleB rs[j]=printM (rs.take (j+1))):=Lib.hid (by unfold printM; rw [List.take_add_one,List.getElem?_eq_getElem hlt,List.flatMap_append]; simp only [Option.toList,List.flatMap_cons,List.flatMap_nil,List.append_nil])
    have HT1:Hid (∀ W,Below wr.heap.size wr W→Calls Tryz.prog 17 #[.agg (exC k o n v A1 m1 c1).toArray] W (Ret (.tuple #[.string ⟨(wrE rs[j].cond).toArray⟩,.int .i64 0]) W)):=Lib.hid (fun W hW=>by
     have:=print_any rs[j].cond B _ W (hL1.below' hW hlo) (Nat.le_trans hlo hW.size) (fun W' hW'=>HT.out W' (HBW.out.trans ((hW.trans (hW'.mono hW.size)).mono HBW.out.size)))
     rwa [pc] at this)
    have HT2:Hid (∀ W,Below wr.heap.size wr W→Calls Tryz.prog 17 #[.agg (exC k2 o2 n2 v2 A2 m2 c2).toArray] W (Ret (.tuple #[.string ⟨(wrE rs[j].key).toArray⟩,.int .i64 0]) W)):=Lib.hid (fun W hW=>by
     have:=print_any rs[j].key B _ W (hL2.below' hW hlo) (Nat.le_trans hlo hW.size) (fun W' hW'=>HT.out W' (HBW.out.trans ((hW.trans (hW'.mono hW.size)).mono HBW.out.size)))
     rwa [pk] at this)
    have hsz:(ruleS (wrE rs[j].cond) (wrE rs[j].key)).size=(ruleB rs[j]).length:=by rw [← HE.out]; rfl
    have HS:=Lib.hid (fun W hW=>wr_str hbj.out (Nat.le_of_lt hbz) (ruleS (wrE rs[j].cond) (wrE rs[j].key)) (by rw [hsz]; omega) W hW)
    rw [HE.out] at HS
    rw [HNX.out] at HS
    unfold ruleS at HS
    clear hsz HE HNX hrl hpl pc pk
    generalize wrE rs[j].cond=t1 at HT1 HS lc
    generalize wrE rs[j].key=t2 at HT2 HS lk
    unfold exC Ret at HT1 HT2
    have HO:=Lib.hid hO
    clear hL1 hL2 d0 hO
    go_upto_region 8 with fail
    clear y0 y1 y2 y3 y4 y5 y6 y7 y8 y9
    generalize wr.alloc _=w4 at hO4 ⊢
    obtain ⟨q0,q1,q2,q3,q4,q5,q6,q7,q8,q9⟩:=bx10 hO4.fst
    go_wp2_with fail
    refine (HT1.out _ hO4.below).mono ?_
    rintro e w5 ⟨rfl,hb5⟩
    replace hO4:=hO4.next hb5
    clear q0 q1 q2 q3 q4 q5 q6 q7 q8 q9 hb5
    obtain ⟨q0,q1,q2,q3,q4,q5,q6,q7,q8,q9⟩:=bx10 hO4.fst
    go_wp2_with fail
    refine (HT2.out _ hO4.below).mono ?_
    rintro e w6 ⟨rfl,hb6⟩
    have HB6:=Lib.hid (hO4.below.trans (hb6.mono hO4.below.size))
    clear q0 q1 q2 q3 q4 q5 q6 q7 q8 q9 hb6 hO4
    go_wp2_with fail
    refine (HS.out _ HB6.out).mono ?_
    rintro e w7 ⟨rfl,hbd7,hw7⟩
    have HB7:=Lib.hid (hb.out.trans ((HB6.out.mono (Nat.le_of_lt hbz)).trans hw7.below))
    go_wp2_with fail
    exact ⟨⟨j+1,by go_num,by omega,Lib.hid hbd7,HB7⟩,by simp [intOf]; omega⟩
   ·have hd1:decide ((j:Int)<(rs.length:Int))=false:=decide_eq_false (by omega)
    have hd2:decide (j<rs.length)=false:=decide_eq_false hlt
    have HBJ:Hid (Bld b b (printM rs) wr):=Lib.hid (by
     have:=hbj.out
     rwa [List.take_of_length_le (by omega)] at this)
    have HST:=Lib.hid (Tryz.Builder_String_any b b (printM rs) wr HBJ.out (Nat.le_of_lt hbz))
    clear hbj
    go_wp2_with (go_at_call 19; refine HST.out.mono ?_; rintro e W5 ⟨rfl,hb5⟩)
    go_ret2
    rw [HV.out]
    exact ⟨rfl,HBW.out.trans (hb5.mono hwb)⟩
end Go.Proofs.YtmbffkemfepekaaGreatDoor

namespace Go.Proofs.YtmbffkemfepekaaGreatDoor
open Go.RowKit
mutual
def szE:Ex→Nat→Nat | .mk _ _ _ _ zs,n=>szL zs (n+1)
def szL:List Ex→Nat→Nat | [],n=>n | a::zs,n=>if 100<n then n else szL zs (szE a n)
end
mutual
def lgE:Ex→Bool | .mk _ _ n _ zs=>decide (40<n.size) || lgL zs
def lgL:List Ex→Bool | []=>false | a::zs=>lgE a || lgL zs
end
theorem szL_bd {zs:List Ex} (h:∀ a∈zs,∀ n,n≤100→szE a n≤101):∀ n,n≤101→szL zs n≤101:=by
 induction zs with
 | nil=>intro n hn; simp only [szL]; exact hn
 | cons a zs ih=>
  intro n hn
  simp only [szL]
  split
  ·exact hn
  ·exact ih (fun b hb=>h b (by simp [hb])) _ (h a (by simp) n (by omega))
theorem szE_bd:∀ (e:Ex) (n:Nat),n≤100→szE e n≤101:=by
 intro e
 induction e using Ex.ind with
 | h k o nm v zs ih=>
  intro n hn
  simp only [szE]
  exact szL_bd ih (n+1) (by omega)
def sizeE (e:Ex):Nat:=if 100<szE e 0 then 101 else szE e 0
def grtE (e:Ex):Bool:=(decide (40<sizeE e) && decide (sizeE e≤100)) || (decide (sizeE e≤40) && lgE e)
def grtP (rs:List Rl):Bool:=decide (20<rs.length) || rs.any fun r=>grtE r.cond || grtE r.key
set_option maxRecDepth 100000 in
set_option maxHeartbeats 3200000 in
theorem size_any:∀ (e:Ex) (n lo:Nat) (vs:List Value) (w:World),n≤100→LiesE w lo vs e→lo≤w.heap.size →
  Calls Tryz.prog 60 #[.agg vs.toArray,.int .i64 (n:Nat)] w (Ret (.int .i64 (szE e n:Nat)) w):=by
 intro e
 induction e using Ex.ind with
 | h k o nm v xs ih=>
  intro n lo vs w hn hL hlo
  obtain ⟨A,cap,rfl,bd,harg⟩:=hL.arg
  have hO:=one_new w #[.int .i64 k,.int .i64 o,.string nm,.int .i64 v,.slice A xs.length cap] 38
  have hz:(w.alloc (.cells #[.int .i64 k,.int .i64 o,.string nm,.int .i64 v,.slice A xs.length cap] 38)).heap.size=w.heap.size+1:=by simp
  have HARG:=Lib.hid harg
  have HIH:=Lib.hid (fun a ha=>ih a ha)
  have hbd:=bd.2.2.2.2.1
  have HST:Hid (szL (xs.drop 0) (n+1)=szE (.mk k o nm v xs) n):=Lib.hid (by simp [szE])
  simp only [Ex.kind,Ex.op,Ex.name,Ex.val,Ex.args] at HARG hbd ⊢
  generalize szE (.mk k o nm v xs) n=R at HST ⊢
  clear harg ih hL bd
  unfold exC Ret
  go_enter Tryz.func60,Tryz.ntmps60
  go_upto_region 1 with fail
  generalize w.alloc _=w1 at hO hz ⊢
  obtain ⟨x0,x1,x2,x3,x4⟩:=bx5 hO.fst
  go_wp2_with fail
  have hn1:(n:Int)≤100:=by omega
  go_loopw [1,4,5] (fun m r i wr=>r=.int .i64 0∧∃ j q:Nat,i=.int .i64 (j:Nat)∧m=.int .i64 (q:Nat)∧j≤xs.length∧q≤101∧Hid (szL (xs.drop j) q=R)∧Below w1.heap.size w1 wr) (fun _ _ i _=>xs.length - (intOf i).toNat)
  case atStart=>exact ⟨rfl,0,n+1,rfl,by first | rfl | go_num,Nat.zero_le _,by omega,HST,Below.refl _ _⟩
  case round=>
   clear x0 x1 x2 x3 x4
   obtain ⟨rfl,j,q,rfl,rfl,hj,hq,hsz,hb⟩:=hrel
   have hj0:(0:Int)≤(j:Int):=by omega
   have hOr:=hO.next hb
   obtain ⟨x0,x1,x2,x3,x4⟩:=bx5 hOr.fst
   have HBW:=Lib.hid hOr.below
   have HOR:=Lib.hid hOr
   have HB:=Lib.hid hb
   clear hOr hb
   by_cases hlt:j<xs.length
   ·have hd1:decide ((j:Int)<(xs.length:Int))=true:=decide_eq_true (by omega)
    have hwr1:IntKind.i64.wrap ((j:Int)+1)=(j:Int)+1:=by rw [IntKind.wrap_i64]; omega
    have hd2:decide (j<xs.length)=true:=decide_eq_true hlt
    have hjl:(j:Int)<(xs.length:Int):=by omega
    by_cases hq100:100<q
    ·have hq1:decide ((q:Int) > 100)=true:=decide_eq_true (by omega)
     have hq2:decide (100<(q:Int))=true:=decide_eq_true (by omega)
     have hq3:decide (100<q)=true:=decide_eq_true hq100
     have HV:Hid (R=q):=Lib.hid (by
      rw [← hsz.out,List.drop_eq_getElem_cons hlt]
      simp only [szL]
      rw [if_pos hq100])
     clear hsz hq100
     go_wp2_with fail
     go_ret
     exact ⟨by rw [HV.out]; rfl,HBW.out⟩
    ·have hq1:decide ((q:Int) > 100)=false:=decide_eq_false (by omega)
     have hq2:decide (100<(q:Int))=false:=decide_eq_false (by omega)
     have hq3:decide (100<q)=false:=decide_eq_false hq100
     obtain ⟨b1,off,k1,o1,n1,v1,A1,m1,cap1,rfl,hb1,hL1,y0,y1,y2,y3,y4⟩:=HARG.out j hlt
     have z0:=(HBW.out.cell (p:=⟨b1,off+j * 5,none⟩) (by show b1<w.heap.size; omega)).trans y0
     have z1:=(HBW.out.cell (p:=⟨b1,off+j * 5+1,none⟩) (by show b1<w.heap.size; omega)).trans y1
     have z2:=(HBW.out.cell (p:=⟨b1,off+j * 5+2,none⟩) (by show b1<w.heap.size; omega)).trans y2
     have z3:=(HBW.out.cell (p:=⟨b1,off+j * 5+3,none⟩) (by show b1<w.heap.size; omega)).trans y3
     have z4:=(HBW.out.cell (p:=⟨b1,off+j * 5+4,none⟩) (by show b1<w.heap.size; omega)).trans y4
     have hs:=HIH.out xs[j] (List.getElem_mem _) q lo _ wr (by omega) (hL1.below' HBW.out hlo) (Nat.le_trans hlo HBW.out.size)
     unfold exC Ret at hs
     have HS:=Lib.hid hs
     have HST2:Hid (szL (xs.drop (j+1)) (szE xs[j] q)=R):=Lib.hid (by
      rw [← hsz.out,List.drop_eq_getElem_cons hlt]
      conv=>rhs; simp only [szL]
      rw [if_neg hq100])
     have hbd2:szE xs[j] q≤101:=szE_bd _ _ (by omega)
     generalize szE xs[j] q=q2 at HS HST2 hbd2
     clear hs hL1 y0 y1 y2 y3 y4 hsz hq100
     go_wp2_with fail
     refine HS.out.mono ?_
     rintro e w5 ⟨rfl,hb5⟩
     have HB5:=Lib.hid (HB.out.trans (hb5.mono HB.out.size))
     clear HS hb5 x0 x1 x2 x3 x4 z0 z1 z2 z3 z4
     go_wp2_with fail
     exact ⟨⟨rfl,j+1,q2,by go_num,rfl,by omega,hbd2,Lib.hid HST2.out,HB5.out⟩,by simp [intOf]; omega⟩
   ·have hd1:decide ((j:Int)<(xs.length:Int))=false:=decide_eq_false (by omega)
    have hd2:decide (j<xs.length)=false:=decide_eq_false hlt
    have HV:Hid (R=q):=Lib.hid (by rw [← hsz.out,List.drop_of_length_le (by omega)]; simp [szL])
    clear hsz
    go_wp2_with fail
    go_ret
    exact ⟨by rw [HV.out]; rfl,HBW.out⟩
theorem lg_at {xs:List Ex} {j:Nat} (h:lgL (xs.drop j)=lgL xs) (hj:j<xs.length):(lgE xs[j]=true→lgL xs=true)∧(lgE xs[j]=false→lgL (xs.drop (j+1))=lgL xs):=by
 rw [List.drop_eq_getElem_cons hj] at h
 simp only [lgL] at h
 constructor
 ·intro e; rw [e] at h; simpa using h.symm
 ·intro e; rw [e] at h; simpa using h
set_option maxRecDepth 100000 in
set_option maxHeartbeats 3200000 in
theorem long_any:∀ (e:Ex) (lo:Nat) (vs:List Value) (w:World),LiesE w lo vs e→lo≤w.heap.size →
  Calls Tryz.prog 32 #[.agg vs.toArray] w (Ret (.bool (lgE e)) w):=by
 intro e
 induction e using Ex.ind with
 | h k o nm v xs ih=>
  intro lo vs w hL hlo
  obtain ⟨A,cap,rfl,bd,harg⟩:=hL.arg
  have hO:=one_new w #[.int .i64 k,.int .i64 o,.string nm,.int .i64 v,.slice A xs.length cap] 38
  have HARG:=Lib.hid harg
  have HIH:=Lib.hid (fun a ha=>ih a ha)
  have hbd:=bd.2.2.2.2.1
  simp only [Ex.kind,Ex.op,Ex.name,Ex.val,Ex.args] at HARG hbd ⊢
  have HR:Hid (lgE (.mk k o nm v xs)=(decide (40<nm.size) || lgL xs)):=Lib.hid (by simp [lgE])
  generalize lgE (.mk k o nm v xs)=R at HR ⊢
  clear harg ih hL bd
  unfold exC Ret
  by_cases hnm:40<nm.size
  ·have hn1:decide ((nm.size:Int) > 40)=true:=decide_eq_true (by omega)
   have hn2:decide (40<(nm.size:Int))=true:=decide_eq_true (by omega)
   have hn3:decide (40<nm.size)=true:=decide_eq_true hnm
   have HV:Hid (R=true):=Lib.hid (by rw [HR.out,hn3]; rfl)
   clear hnm
   go_enter Tryz.func32,Tryz.ntmps32
   go_upto_region 1 with fail
   generalize w.alloc _=w1 at hO ⊢
   obtain ⟨x0,x1,x2,x3,x4⟩:=bx5 hO.fst
   go_wp2_with fail
   go_ret
   exact ⟨by rw [HV.out]; rfl,hO.below⟩
  ·have hn1:decide ((nm.size:Int) > 40)=false:=decide_eq_false (by omega)
   have hn2:decide (40<(nm.size:Int))=false:=decide_eq_false (by omega)
   have hn3:decide (40<nm.size)=false:=decide_eq_false hnm
   have HV:Hid (R=lgL xs):=Lib.hid (by rw [HR.out,hn3]; rfl)
   clear hnm HR
   go_enter Tryz.func32,Tryz.ntmps32
   go_upto_region 1 with fail
   generalize w.alloc _=w1 at hO ⊢
   obtain ⟨x0,x1,x2,x3,x4⟩:=bx5 hO.fst
   go_wp2_with fail
   go_loopw [2,3] (fun r i wr=>r=.bool false∧∃ j:Nat,i=.int .i64 (j:Nat)∧j≤xs.length∧Hid (lgL (xs.drop j)=lgL xs)∧Below w1.heap.size w1 wr) (fun _ i _=>xs.length - (intOf i).toNat)
   case atStart=>exact ⟨rfl,0,rfl,Nat.zero_le _,Lib.hid rfl,Below.refl _ _⟩
   case round=>
    clear x0 x1 x2 x3 x4
    obtain ⟨rfl,j,rfl,hj,hlg,hb⟩:=hrel
    have hj0:(0:Int)≤(j:Int):=by omega
    have hOr:=hO.next hb
    obtain ⟨x0,x1,x2,x3,x4⟩:=bx5 hOr.fst
    have HBW:=Lib.hid hOr.below
    have HB:=Lib.hid hb
    clear hOr hb
    by_cases hlt:j<xs.length
    ·have hd1:decide ((j:Int)<(xs.length:Int))=true:=decide_eq_true (by omega)
     have hwr1:IntKind.i64.wrap ((j:Int)+1)=(j:Int)+1:=by rw [IntKind.wrap_i64]; omega
     have hd2:decide (j<xs.length)=true:=decide_eq_true hlt
     have hjl:(j:Int)<(xs.length:Int):=by omega
     obtain ⟨b1,off,k1,o1,n1,v1,A1,m1,cap1,rfl,hb1,hL1,y0,y1,y2,y3,y4⟩:=HARG.out j hlt
     have z0:=(HBW.out.cell (p:=⟨b1,off+j * 5,none⟩) (by show b1<w.heap.size; omega)).trans y0
     have z1:=(HBW.out.cell (p:=⟨b1,off+j * 5+1,none⟩) (by show b1<w.heap.size; omega)).trans y1
     have z2:=(HBW.out.cell (p:=⟨b1,off+j * 5+2,none⟩) (by show b1<w.heap.size; omega)).trans y2
     have z3:=(HBW.out.cell (p:=⟨b1,off+j * 5+3,none⟩) (by show b1<w.heap.size; omega)).trans y3
     have z4:=(HBW.out.cell (p:=⟨b1,off+j * 5+4,none⟩) (by show b1<w.heap.size; omega)).trans y4
     have hs:=HIH.out xs[j] (List.getElem_mem _) lo _ wr (hL1.below' HBW.out hlo) (Nat.le_trans hlo HBW.out.size)
     unfold exC Ret at hs
     have HS:=Lib.hid hs
     have HLG:=Lib.hid (lg_at hlg.out hlt)
     generalize lgE xs[j]=q at HS HLG
     clear hs hL1 y0 y1 y2 y3 y4 hlg
     cases q with
     | true=>
      have HQ:=Lib.hid (HLG.out.1 rfl)
      go_wp2_with fail
      refine HS.out.mono ?_
      rintro e w5 ⟨rfl,hb5⟩
      have HB5:=Lib.hid (HBW.out.trans (hb5.mono HBW.out.size))
      clear HS hb5 x0 x1 x2 x3 x4 z0 z1 z2 z3 z4
      go_wp2_with fail
      go_ret
      exact ⟨by rw [HV.out,HQ.out]; rfl,HB5.out⟩
     | false=>
      have HQ:=Lib.hid (HLG.out.2 rfl)
      go_wp2_with fail
      refine HS.out.mono ?_
      rintro e w5 ⟨rfl,hb5⟩
      have HB5:=Lib.hid (HB.out.trans (hb5.mono HB.out.size))
      clear HS hb5 x0 x1 x2 x3 x4 z0 z1 z2 z3 z4
      go_wp2_with fail
      exact ⟨⟨rfl,j+1,by go_num,by omega,Lib.hid HQ.out,HB5.out⟩,by simp [intOf]; omega⟩
    ·have hd1:decide ((j:Int)<(xs.length:Int))=false:=decide_eq_false (by omega)
     have hd2:decide (j<xs.length)=false:=decide_eq_false hlt
     have HQ:Hid (lgL xs=false):=Lib.hid (by rw [← hlg.out,List.drop_of_length_le (by omega)]; simp [lgL])
     clear hlg
     go_wp2_with fail
     go_ret
     exact ⟨by rw [HV.out,HQ.out]; rfl,HBW.out⟩
end Go.Proofs.YtmbffkemfepekaaGreatDoor

namespace Go.Proofs.YtmbffkemfepekaaGreatDoor
open Go.RowKit
set_option maxRecDepth 100000 in
set_option maxHeartbeats 1600000 in
theorem sizeE_any (e:Ex) (lo:Nat) (vs:List Value) (w:World) (hL:LiesE w lo vs e) (hlo:lo≤w.heap.size) :
  Calls Tryz.prog 31 #[.agg vs.toArray] w (Ret (.int .i64 (sizeE e:Nat)) w):=by
 have HS0:∀ W,Below w.heap.size w W→Calls Tryz.prog 60 #[.agg vs.toArray,.int .i64 (0:Nat)] W (Ret (.int .i64 (szE e 0:Nat)) W):=fun W hW=>size_any e 0 lo vs W (by omega) (hL.below' hW hlo) (Nat.le_trans hlo hW.size)
 obtain ⟨A,cap,rfl,bd,-⟩:=hL.arg
 have HS:=Lib.hid HS0
 have hO:=one_new w #[.int .i64 e.kind,.int .i64 e.op,.string e.name,.int .i64 e.val,.slice A e.args.length cap] 38
 have HZ:Hid (sizeE e=if 100<szE e 0 then 101 else szE e 0):=Lib.hid rfl
 generalize sizeE e=R at HZ ⊢
 generalize szE e 0=q at HS HZ
 clear hL bd HS0
 unfold exC Ret at HS
 unfold exC Ret
 by_cases hq:100<q
 ·have e1:decide ((q:Int) > 100)=true:=decide_eq_true (by omega)
  have e2:decide (100<(q:Int))=true:=decide_eq_true (by omega)
  have e3:decide (100<q)=true:=decide_eq_true hq
  have HV:Hid (R=101):=Lib.hid (by rw [HZ.out,if_pos hq])
  clear hq
  go_enter Tryz.func31,Tryz.ntmps31
  go_upto_region 1 with fail
  generalize w.alloc _=w1 at hO ⊢
  obtain ⟨x0,x1,x2,x3,x4⟩:=bx5 hO.fst
  go_wp2_with fail
  refine (HS.out _ hO.below).mono ?_
  rintro e w5 ⟨rfl,hb5⟩
  have HB:=Lib.hid (hO.below.trans (hb5.mono hO.below.size))
  clear x0 x1 x2 x3 x4 hb5 hO
  go_wp2_with fail
  go_ret
  exact ⟨by rw [HV.out]; rfl,HB.out⟩
 ·have e1:decide ((q:Int) > 100)=false:=decide_eq_false (by omega)
  have e2:decide (100<(q:Int))=false:=decide_eq_false (by omega)
  have e3:decide (100<q)=false:=decide_eq_false hq
  have HV:Hid (R=q):=Lib.hid (by rw [HZ.out,if_neg hq])
  clear hq
  go_enter Tryz.func31,Tryz.ntmps31
  go_upto_region 1 with fail
  generalize w.alloc _=w1 at hO ⊢
  obtain ⟨x0,x1,x2,x3,x4⟩:=bx5 hO.fst
  go_wp2_with fail
  refine (HS.out _ hO.below).mono ?_
  rintro e w5 ⟨rfl,hb5⟩
  have HB:=Lib.hid (hO.below.trans (hb5.mono hO.below.size))
  clear x0 x1 x2 x3 x4 hb5 hO
  go_wp2_with fail
  go_ret
  exact ⟨by rw [HV.out]; rfl,HB.out⟩
set_option maxRecDepth 100000 in
set_option maxHeartbeats 1600000 in
theorem grtE_any (e:Ex) (lo:Nat) (vs:List Value) (w:World) (hL:LiesE w lo vs e) (hlo:lo≤w.heap.size) :
  Calls Tryz.prog 13 #[.agg vs.toArray] w (Ret (.bool (grtE e)) w):=by
 have HS0:∀ W,Below w.heap.size w W→Calls Tryz.prog 31 #[.agg vs.toArray] W (Ret (.int .i64 (sizeE e:Nat)) W):=fun W hW=>sizeE_any e lo vs W (hL.below' hW hlo) (Nat.le_trans hlo hW.size)
 have HG0:∀ W,Below w.heap.size w W→Calls Tryz.prog 32 #[.agg vs.toArray] W (Ret (.bool (lgE e)) W):=fun W hW=>long_any e lo vs W (hL.below' hW hlo) (Nat.le_trans hlo hW.size)
 obtain ⟨A,cap,rfl,bd,-⟩:=hL.arg
 have HS:=Lib.hid HS0
 have HG:=Lib.hid HG0
 have hO:=one_new w #[.int .i64 e.kind,.int .i64 e.op,.string e.name,.int .i64 e.val,.slice A e.args.length cap] 38
 have HZ:Hid (grtE e=((decide (40<sizeE e) && decide (sizeE e≤100)) || (decide (sizeE e≤40) && lgE e))):=Lib.hid rfl
 generalize grtE e=R at HZ ⊢
 generalize sizeE e=q at HS HZ
 generalize lgE e=g at HG HZ
 clear hL bd HS0 HG0
 unfold exC Ret at HS HG
 unfold exC Ret
 have hw:100<q∨(40<q∧q≤100)∨q≤40:=by omega
 rcases hw with hq | hq | hq
 ·have a1:decide ((q:Int) > 40)=true:=decide_eq_true (by omega)
  have a2:decide (40<(q:Int))=true:=decide_eq_true (by omega)
  have a3:decide (40<q)=true:=decide_eq_true (by omega)
  have b1:decide ((q:Int)≤100)=false:=decide_eq_false (by omega)
  have b3:decide (q≤100)=false:=decide_eq_false (by omega)
  have c1:decide ((q:Int)≤40)=false:=decide_eq_false (by omega)
  have c3:decide (q≤40)=false:=decide_eq_false (by omega)
  have HV:Hid (R=false):=Lib.hid (by rw [HZ.out,a3,b3,c3]; rfl)
  clear hq
  go_enter Tryz.func13,Tryz.ntmps13
  go_upto_region 1 with fail
  generalize w.alloc _=w1 at hO ⊢
  obtain ⟨x0,x1,x2,x3,x4⟩:=bx5 hO.fst
  go_wp2_with fail
  refine (HS.out _ hO.below).mono ?_
  rintro e w5 ⟨rfl,hb5⟩
  have HB:=Lib.hid (hO.below.trans (hb5.mono hO.below.size))
  clear x0 x1 x2 x3 x4 hb5 hO
  go_wp2_with fail
  go_ret
  exact ⟨by rw [HV.out]; rfl,HB.out⟩
 ·have a1:decide ((q:Int) > 40)=true:=decide_eq_true (by omega)
  have a2:decide (40<(q:Int))=true:=decide_eq_true (by omega)
  have a3:decide (40<q)=true:=decide_eq_true (by omega)
  have b1:decide ((q:Int)≤100)=true:=decide_eq_true (by omega)
  have b3:decide (q≤100)=true:=decide_eq_true (by omega)
  have HV:Hid (R=true):=Lib.hid (by rw [HZ.out,a3,b3]; rfl)
  clear hq
  go_enter Tryz.func13,Tryz.ntmps13
  go_upto_region 1 with fail
  generalize w.alloc _=w1 at hO ⊢
  obtain ⟨x0,x1,x2,x3,x4⟩:=bx5 hO.fst
  go_wp2_with fail
  refine (HS.out _ hO.below).mono ?_
  rintro e w5 ⟨rfl,hb5⟩
  have HB:=Lib.hid (hO.below.trans (hb5.mono hO.below.size))
  clear x0 x1 x2 x3 x4 hb5 hO
  go_wp2_with fail
  go_ret
  exact ⟨by rw [HV.out]; rfl,HB.out⟩
 ·have a1:decide ((q:Int) > 40)=false:=decide_eq_false (by omega)
  have a2:decide (40<(q:Int))=false:=decide_eq_false (by omega)
  have a3:decide (40<q)=false:=decide_eq_false (by omega)
  have c1:decide ((q:Int)≤40)=true:=decide_eq_true (by omega)
  have c3:decide (q≤40)=true:=decide_eq_true (by omega)
  have HV:Hid (R=g):=Lib.hid (by rw [HZ.out,a3,c3]; simp)
  clear hq
  go_enter Tryz.func13,Tryz.ntmps13
  go_upto_region 1 with fail
  generalize w.alloc _=w1 at hO ⊢
  obtain ⟨x0,x1,x2,x3,x4⟩:=bx5 hO.fst
  go_wp2_with fail
  refine (HS.out _ hO.below).mono ?_
  rintro e w5 ⟨rfl,hb5⟩
  replace hO:=hO.next hb5
  clear x0 x1 x2 x3 x4 hb5
  obtain ⟨x0,x1,x2,x3,x4⟩:=bx5 hO.fst
  go_wp2_with fail
  refine (HG.out _ hO.below).mono ?_
  rintro e w6 ⟨rfl,hb6⟩
  have HB:=Lib.hid (hO.below.trans (hb6.mono hO.below.size))
  clear x0 x1 x2 x3 x4 hb6 hO
  go_wp2_with fail
  go_ret
  exact ⟨by rw [HV.out]; rfl,HB.out⟩
theorem grt_at {rs:List Rl} {j:Nat} (h:∀ (q:Nat) (hq:q<rs.length),q<j→(grtE rs[q].cond || grtE rs[q].key)=false) (hj:j<rs.length) (h20:¬ 20<rs.length):((grtE rs[j].cond || grtE rs[j].key)=true→grtP rs=true)∧((grtE rs[j].cond || grtE rs[j].key)=false→∀ (q:Nat) (hq:q<rs.length),q<j+1→(grtE rs[q].cond || grtE rs[q].key)=false):=by
 constructor
 ·intro e
  unfold grtP
  rw [decide_eq_false h20,Bool.false_or,List.any_eq_true]
  exact ⟨rs[j],List.getElem_mem hj,e⟩
 ·intro e q hq hqj
  by_cases e2:q=j
  ·subst e2; exact e
  ·exact h q hq (by omega)
set_option maxRecDepth 100000 in
set_option maxHeartbeats 3200000 in
theorem great_any (A:Option Addr) (c B:Nat) (rs:List Rl) (w:World) (hP:LiesP w B A c rs) (hB:B≤w.heap.size) :
  Calls Tryz.prog 4 #[.agg #[.slice A rs.length c]] w (Ret (.bool (grtP rs)) w):=by
 have hl:=hP.len
 have HP:=Lib.hid hP
 have hO:=one_new w #[.slice A rs.length c] 24
 unfold Ret
 clear hP
 by_cases h20:20<rs.length
 ·have e1:decide ((rs.length:Int) > 20)=true:=decide_eq_true (by omega)
  have e2:decide (20<(rs.length:Int))=true:=decide_eq_true (by omega)
  have e3:decide (20<rs.length)=true:=decide_eq_true h20
  have HV:Hid (grtP rs=true):=Lib.hid (by unfold grtP; rw [e3]; rfl)
  clear h20
  go_enter Tryz.func4,Tryz.ntmps4
  go_upto_region 1 with fail
  generalize w.alloc _=w1 at hO ⊢
  have x0:=hO.fst 0 _ rfl
  go_wp2_with fail
  go_ret
  exact ⟨by rw [HV.out]; rfl,hO.below⟩
 ·have e1:decide ((rs.length:Int) > 20)=false:=decide_eq_false (by omega)
  have e2:decide (20<(rs.length:Int))=false:=decide_eq_false (by omega)
  have e3:decide (20<rs.length)=false:=decide_eq_false h20
  have H20:=Lib.hid h20
  clear h20
  go_enter Tryz.func4,Tryz.ntmps4
  go_upto_region 1 with fail
  generalize w.alloc _=w1 at hO ⊢
  have x0:=hO.fst 0 _ rfl
  go_wp2_with fail
  go_loopw [2,3] (fun r i wr=>r=.bool false∧∃ j:Nat,i=.int .i64 (j:Nat)∧j≤rs.length∧Hid (∀ (q:Nat) (hq:q<rs.length),q<j→(grtE rs[q].cond || grtE rs[q].key)=false)∧Below w1.heap.size w1 wr) (fun _ i _=>rs.length - (intOf i).toNat)
  case atStart=>exact ⟨rfl,0,rfl,Nat.zero_le _,Lib.hid (fun q hq h=>by omega),Below.refl _ _⟩
  case round=>
   clear x0
   obtain ⟨rfl,j,rfl,hj,hck,hb⟩:=hrel
   have hj0:(0:Int)≤(j:Int):=by omega
   have hOr:=hO.next hb
   have x0:=hOr.fst 0 _ rfl
   have HBW:=Lib.hid hOr.below
   have HB:=Lib.hid hb
   by_cases hlt:j<rs.length
   ·have hd1:decide ((j:Int)<(rs.length:Int))=true:=decide_eq_true (by omega)
    have hwr1:IntKind.i64.wrap ((j:Int)+1)=(j:Int)+1:=by rw [IntKind.wrap_i64]; omega
    have hd2:decide (j<rs.length)=true:=decide_eq_true hlt
    have hjl:(j:Int)<(rs.length:Int):=by omega
    obtain ⟨b,off,k,o,n,v,A1,m1,c1,k2,o2,n2,v2,A2,m2,c2,rfl,hb1,hL1,hL2,y0,y1,y2,y3,y4,y5,y6,y7,y8,y9⟩:=(HP.out.below' HBW.out hB).at_ j hlt
    have hlo:B≤wr.heap.size:=Nat.le_trans hB HBW.out.size
    have HSTEP:=Lib.hid (grt_at hck.out hlt H20.out)
    have HT1:Hid (Calls Tryz.prog 13 #[.agg (exC k o n v A1 m1 c1).toArray] wr (Ret (.bool (grtE rs[j].cond)) wr)):=Lib.hid (grtE_any _ B _ wr hL1 hlo)
    have HT2:Hid (∀ W,Below wr.heap.size wr W→Calls Tryz.prog 13 #[.agg (exC k2 o2 n2 v2 A2 m2 c2).toArray] W (Ret (.bool (grtE rs[j].key)) W)):=Lib.hid (fun W hW=>grtE_any _ B _ W (hL2.below' hW hlo) (Nat.le_trans hlo hW.size))
    generalize grtE rs[j].cond=f1 at HT1 HSTEP
    generalize grtE rs[j].key=f2 at HT2 HSTEP
    unfold exC Ret at HT1 HT2
    have hzb:b<wr.heap.size:=by omega
    clear hb hck hL1 hL2
    cases f1 with
    | true=>
     have HV:=Lib.hid (HSTEP.out.1 rfl)
     go_wp2_with fail
     refine HT1.out.mono ?_
     rintro e w5 ⟨rfl,hb5⟩
     have HB9:=Lib.hid (HBW.out.trans (hb5.mono HBW.out.size))
     clear y0 y1 y2 y3 y4 y5 y6 y7 y8 y9 hb5 x0 hOr
     go_wp2_with fail
     go_ret
     exact ⟨by rw [HV.out]; rfl,HB9.out⟩
    | false=>
     go_wp2_with fail
     refine HT1.out.mono ?_
     rintro e w5 ⟨rfl,hb5⟩
     have x5:=(hOr.next hb5).fst 0 _ rfl
     have z5:=(hb5.cell (p:=⟨b,off+j * 10+5,none⟩) hzb).trans y5
     have z6:=(hb5.cell (p:=⟨b,off+j * 10+6,none⟩) hzb).trans y6
     have z7:=(hb5.cell (p:=⟨b,off+j * 10+7,none⟩) hzb).trans y7
     have z8:=(hb5.cell (p:=⟨b,off+j * 10+8,none⟩) hzb).trans y8
     have z9:=(hb5.cell (p:=⟨b,off+j * 10+9,none⟩) hzb).trans y9
     have HB5:=Lib.hid hb5
     clear y0 y1 y2 y3 y4 y5 y6 y7 y8 y9 hb5 x0 hOr
     cases f2 with
     | true=>
      have HV:=Lib.hid (HSTEP.out.1 rfl)
      go_wp2_with fail
      refine (HT2.out _ HB5.out).mono ?_
      rintro e w6 ⟨rfl,hb6⟩
      have HB9:=Lib.hid (HBW.out.trans ((HB5.out.trans (hb6.mono HB5.out.size)).mono HBW.out.size))
      clear z5 z6 z7 z8 z9 x5 hb6
      go_wp2_with fail
      go_ret
      exact ⟨by rw [HV.out]; rfl,HB9.out⟩
     | false=>
      have HV:=Lib.hid (HSTEP.out.2 rfl)
      go_wp2_with fail
      refine (HT2.out _ HB5.out).mono ?_
      rintro e w6 ⟨rfl,hb6⟩
      have HB9:=Lib.hid (HB.out.trans ((HB5.out.trans (hb6.mono HB5.out.size)).mono HB.out.size))
      clear z5 z6 z7 z8 z9 x5 hb6
      go_wp2_with fail
      exact ⟨⟨rfl,j+1,by go_num,by omega,Lib.hid HV.out,HB9.out⟩,by simp [intOf]; omega⟩
   ·have hd1:decide ((j:Int)<(rs.length:Int))=false:=decide_eq_false (by omega)
    have hd2:decide (j<rs.length)=false:=decide_eq_false hlt
    have HV:Hid (grtP rs=false):=Lib.hid (by
     unfold grtP
     rw [decide_eq_false H20.out,Bool.false_or,List.any_eq_false]
     intro r hr
     obtain ⟨q,hq,rfl⟩:=List.getElem_of_mem hr
     have:=hck.out q hq (by omega)
     rw [this]; simp)
    clear hck hOr hb
    go_wp2_with fail
    go_ret
    exact ⟨by rw [HV.out]; rfl,HBW.out⟩
end Go.Proofs.YtmbffkemfepekaaGreatDoor
