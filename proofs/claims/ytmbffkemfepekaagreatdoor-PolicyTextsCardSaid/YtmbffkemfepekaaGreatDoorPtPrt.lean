/- expr.Print and lexer.isNumber, walked. Conditions: the library's tables and its box stand as laid. -/
import Derived.Test.YtmbffkemfepekaaGreatDoorPtWr5
import Derived.Test.YtmbffkemfepekaaGreatDoorPtExC
import Derived.Test.YtmbffkemfepekaaGreatDoorPtRdm
namespace Go.Proofs.YtmbffkemfepekaaGreatDoor
open Go.Shelf Go.RowKit
theorem write_any:∀ e,Good e→WrC e:=good_ind (fun v h=>write_num v h) (fun n _=>write_name n) (fun o a h _ ih=>write_un o a h ih) (fun o a b h _ _ ia ib=>write_bin o a b h ia ib)
theorem parB_len (k:Nat) (x:Nat × List UInt8):(parB k x).length≤x.2.length+2:=by
 unfold parB
 split <;> simp
theorem signO_len (o:Int):(signO o).length≤2:=by
 unfold signO
 repeat' split
 all_goals simp
theorem wr_len:∀ e,Good e→(wrE e).length+2≤40 * nP e:=by
 refine good_ind (fun v h=>?_) (fun n h=>?_) (fun o a h ha ih=>?_) (fun o a b h ha hb ia ib=>?_)
 ·rw [wr_num]
  have:=decL_len v.toNat
  simp only [exNum,nP,nPL]; omega
 ·rw [wr_name]
  have h2:n.data.toList.length≤30:=by
   unfold nmB nmL at h
   simp only [Bool.and_eq_true,decide_eq_true_eq] at h
   exact h.1.1.2
  simp only [exName,nP,nPL]; omega
 ·rw [wr_un]
  have:=parB_len 6 (precE a,wrE a)
  simp only [exUn,nP,nPL,List.length_cons] at this ⊢; omega
 ·rw [wr_bin]
  have h1:=parB_len (leftP o) (precE a,wrE a)
  have h2:=parB_len (precO o+1) (precE b,wrE b)
  have h3:=signO_len o
  simp only [exBin,nP,nPL,List.length_cons,List.length_append] at h1 h2 ⊢; omega
/-- What Print returns. -/
def prtV (e:Ex):Value:=if chkE e=0 then .tuple #[.string ⟨(wrE e).toArray⟩,.int .i64 0] else .tuple #[.string ⟨#[]⟩,.int .i64 (chkE e:Nat)]
set_option maxRecDepth 100000 in
set_option maxHeartbeats 3200000 in
theorem print_any (e:Ex) (lo:Nat) (vs:List Value) (w:World) (hL:LiesE w lo vs e) (hlo:lo≤w.heap.size) (hT:TabK w.heap.size w):Calls Tryz.prog 17 #[.agg vs.toArray] w (Ret (prtV e) w):=by
 have HC:=Lib.hid (fun (W:World) (hb:Below w.heap.size w W)=>exCheck_any (hL.below' hb hlo) (Nat.le_trans hlo hb.size))
 have HG:Hid (chkE e=0→Good e∧nP e≤100):=Lib.hid (fun h=>⟨(good_of e h).1,(good_of e h).2.1⟩)
 have HW:=Lib.hid (fun (W:World) (B b:Nat) (l:List UInt8) (hb:Below w.heap.size w W) (hg:Good e) (h1:lo≤B) (h2:B≤W.heap.size) (h3:w.heap.size≤B) (hbd:Bld B b l W) hl=>write_any e hg lo vs B b l W hg (hL.below' hb hlo) h1 h2 hbd (fun W' hb'=>hT W' (hb.trans (hb'.mono h3))) hl)
 have HLN:=Lib.hid (wr_len e)
 have HP:Hid (prtV e=if chkE e=0 then .tuple #[.string ⟨(wrE e).toArray⟩,.int .i64 0] else .tuple #[.string ⟨#[]⟩,.int .i64 (chkE e:Nat)]):=Lib.hid rfl
 generalize prtV e=pv at HP ⊢
 obtain ⟨A,c,e1,-,-⟩:=hL.arg
 unfold exC at e1
 unfold Ret at HC ⊢
 unfold WrP at HW
 generalize chkE e=ce at HC HP HG
 generalize wrE e=t at HW HP HLN
 generalize nP e=np at HLN HG
 rw [e1] at HC HW ⊢
 have hO:=one_new w #[.int .i64 e.kind,.int .i64 e.op,.string e.name,.int .i64 e.val,.slice A e.args.length c] 38
 generalize e.kind=k at HC HW hO ⊢
 generalize e.op=o at HC HW hO ⊢
 generalize e.name=n at HC HW hO ⊢
 generalize e.val=v at HC HW hO ⊢
 generalize e.args.length=m at HC HW hO ⊢
 clear e1 hL hT
 have hz1:=hO.size
 by_cases hce:ce=0
 rotate_left
 ·have n0:((ce:Nat):Int)≠0:=by omega
  have n1:(((ce:Nat):Int) != 0)=true:=by simpa using hce
  have n2:(ce != 0)=true:=by simpa using hce
  have HV:Hid (pv=.tuple #[.string ⟨#[]⟩,.int .i64 (ce:Nat)]):=Lib.hid (by rw [HP.out,if_neg hce])
  clear HW HG HLN HP hce
  go_enter Tryz.func17,Tryz.ntmps17
  go_upto_region 1 with fail
  generalize w.alloc _=w1 at hO hz1 ⊢
  have HB1:=Lib.hid hO.below
  obtain ⟨d0,d1,d2,d3,d4⟩:=bx5 hO.fst
  clear hO
  go_wp2_with (go_at_call 40; refine (HC.out _ HB1.out).mono ?_; rintro e W2 ⟨rfl,hb2⟩)
  go_ret2
  rw [HV.out]
  exact ⟨rfl,HB1.out.trans (hb2.mono HB1.out.size)⟩
 ·subst hce
  have HV:Hid (pv=.tuple #[.string ⟨t.toArray⟩,.int .i64 0]):=Lib.hid (by rw [HP.out,if_pos rfl])
  obtain ⟨hgd,hnp⟩:=HG.out rfl
  have HGD:=Lib.hid hgd
  have HL:Hid (t.length≤140737488355328):=Lib.hid (by have:=HLN.out hgd; omega)
  clear HG HLN HP hgd hnp
  go_enter Tryz.func17,Tryz.ntmps17
  go_upto_region 1 with fail
  generalize w.alloc _=w1 at hO hz1 ⊢
  have HB1:=Lib.hid hO.below
  have hbx:=hO.fst
  have HBX:=Lib.hid hbx
  obtain ⟨d0,d1,d2,d3,d4⟩:=bx5 hbx
  clear hO hbx
  go_upto_region 4 with (go_at_call 40; refine (HC.out _ HB1.out).mono ?_; rintro e W2 ⟨rfl,hb2⟩)
  have hbx2:=HBX.out.below hb2 (by omega)
  have HB2:=Lib.hid (HB1.out.trans (hb2.mono HB1.out.size))
  have hz2:w.heap.size<W2.heap.size:=by have:=hb2.size; omega
  clear d0 d1 d2 d3 d4 hb2
  go_upto_region 5 with fail
  have hfr:=Lib.fresh_isBuilder 55 5 W2
  have hba:=below_alloc W2 (.cells #[.pointer none,.slice none 0 0] 55)
  have hbx3:=hbx2.below hba hz2
  have hz3:(W2.alloc (.cells #[.pointer none,.slice none 0 0] 55)).heap.size=W2.heap.size+1:=by simp
  generalize W2.alloc _=W3 at hfr hba hbx3 hz3 ⊢
  obtain ⟨b,hb⟩:∃ b,b=W2.heap.size:=⟨_,rfl⟩
  have HB3:=Lib.hid (HB2.out.trans (hba.mono HB2.out.size))
  have hbd:Bld b b [] W3:=by rw [hb]; exact hfr
  have hwb:w.heap.size≤b:=by omega
  have hlb:lo≤b:=by omega
  have hb3:b≤W3.heap.size:=by omega
  rw [← hb]
  clear hfr hba hbx2 hz2 hz3 hb
  have HW2:=Lib.hid (HW.out W3 b b [] HB3.out HGD.out hlb hb3 hwb hbd (by simpa using HL.out))
  obtain ⟨d0,d1,d2,d3,d4⟩:=bx5 hbx3
  clear HW hbx3
  go_wp2_with (first
   | (go_at_call 41; refine HW2.out.mono ?_; rintro e W4 ⟨rfl,hbd4,hw4⟩; have HST:=Lib.hid (Tryz.Builder_String_any b b t W4 hbd4 (Nat.le_trans hb3 hw4.below.size)))
   | (go_at_call 19; refine HST.out.mono ?_; rintro e W5 ⟨rfl,hb5⟩))
  go_ret2
  rw [HV.out]
  exact ⟨rfl,HB3.out.trans ((hw4.below.trans hb5).mono hwb)⟩
end Go.Proofs.YtmbffkemfepekaaGreatDoor

namespace Go.Proofs.YtmbffkemfepekaaGreatDoor
open Go.RowKit
set_option maxRecDepth 100000 in
set_option maxHeartbeats 1600000 in
theorem isNum_any (t:Tk) (w:World) (hv:I64 t.val) (hT:TabK w.heap.size w):Calls Tryz.prog 184 #[.agg (tkC t).toArray] w (Ret (.bool (numB t)) w):=by
 have HN:Hid (numB t=(decide (0≤t.val) && decide (t.val≤1099511627776) && t.text.data.toList == decL t.val.toNat)):=Lib.hid rfl
 generalize numB t=nb at HN ⊢
 change Calls Tryz.prog 184 #[.agg #[.int .i64 t.kind,.string t.text,.int .i64 t.val,.int .i64 (t.pos:Nat)]] w _
 have hO:=one_new w #[.int .i64 t.kind,.string t.text,.int .i64 t.val,.int .i64 (t.pos:Nat)] 69
 generalize t.kind=tk at hO ⊢
 generalize t.text=tx at HN hO ⊢
 generalize t.val=v at HN hO hv ⊢
 generalize t.pos=ps at hO ⊢
 unfold Ret
 by_cases h0:v<0
 ·have g1:decide (v<0)=true:=decide_eq_true h0
  have HV:Hid (nb=false):=Lib.hid (by rw [HN.out,decide_eq_false (by omega)]; rfl)
  clear HN h0
  go_enter Tryz.func184,Tryz.ntmps184
  go_upto_region 1 with fail
  generalize w.alloc _=w1 at hO ⊢
  obtain ⟨x0,x1,x2,x3⟩:=bx4 hO.fst
  go_wp2_with fail
  go_ret
  exact ⟨by rw [HV.out]; rfl,hO.below⟩
 ·have g1:decide (v<0)=false:=decide_eq_false h0
  by_cases h1:1099511627776<v
  ·have g2:decide (v > 1099511627776)=true:=decide_eq_true h1
   have g3:decide (1099511627776<v)=true:=decide_eq_true h1
   have HV:Hid (nb=false):=Lib.hid (by rw [HN.out,decide_eq_false (by omega:¬ v≤1099511627776)]; simp)
   clear HN h0 h1
   go_enter Tryz.func184,Tryz.ntmps184
   go_upto_region 1 with fail
   generalize w.alloc _=w1 at hO ⊢
   obtain ⟨x0,x1,x2,x3⟩:=bx4 hO.fst
   go_wp2_with fail
   go_ret
   exact ⟨by rw [HV.out]; rfl,hO.below⟩
  ·have g2:decide (v > 1099511627776)=false:=decide_eq_false h1
   have g3:decide (1099511627776<v)=false:=decide_eq_false h1
   have hv2:0≤v∧v≤1099511627776:=by omega
   have HP:=Lib.hid (fun W (hb:Below w.heap.size w W)=>print_any (exNum v) 0 (exC 1 0 ByteArray.empty v none 0 0) W (lies_leaf W 0 1 0 v ByteArray.empty ⟨by unfold I64; omega,by unfold I64; omega,hv,by decide⟩) (Nat.zero_le _) (fun W' hb'=>hT W' (hb.trans (hb'.mono hb.size))))
   have hpv:prtV (exNum v)=.tuple #[.string ⟨(decL v.toNat).toArray⟩,.int .i64 0]:=by unfold prtV; rw [if_pos (chkE_num hv2),wr_num]
   rw [hpv] at HP
   unfold Ret at HP
   change Hid (∀ W,Below w.heap.size w W→Calls Tryz.prog 17 #[.agg #[.int .i64 1,.int .i64 0,.string ⟨#[]⟩,.int .i64 v,.slice none 0 0]] W _) at HP
   have HV:Hid (nb=(tx.data.toList == decL v.toNat)):=Lib.hid (by rw [HN.out,decide_eq_true hv2.1,decide_eq_true hv2.2]; rfl)
   generalize decL v.toNat=d at HP HV
   obtain ⟨ds,hds⟩:∃ ds:ByteArray,ds=⟨d.toArray⟩:=⟨_,rfl⟩
   have HV2:Hid (nb=(tx.toList == ds.toList)):=Lib.hid (by rw [HV.out,hds,Lib.toList_data,Lib.toList_data])
   rw [← hds] at HP
   clear HN h0 h1 hpv HV hv2 hds hv hT
   cases he:ds.toList == tx.toList with
   | true=>
    have HV3:Hid (nb=true):=Lib.hid (by rw [HV2.out]; simpa using (by simpa using he:ds.toList=tx.toList).symm)
    clear HV2
    go_enter Tryz.func184,Tryz.ntmps184
    go_upto_region 1 with fail
    generalize w.alloc _=w1 at hO ⊢
    obtain ⟨x0,x1,x2,x3⟩:=bx4 hO.fst
    have HO:=Lib.hid hO
    have hz:=hO.size
    clear hO
    go_wp2_with (go_at_call 17; refine (HP.out _ HO.out.below).mono ?_; rintro e W2 ⟨rfl,hb2⟩; have y1:=(hb2.cell (p:=⟨w.heap.size,1,none⟩) (by show w.heap.size<_; omega)).trans x1)
    go_ret
    exact ⟨by rw [HV3.out]; rfl,HO.out.below.trans (hb2.mono HO.out.below.size)⟩
   | false=>
    have HV3:Hid (nb=false):=Lib.hid (by rw [HV2.out]; simpa using fun h=>(by simpa using he:¬ ds.toList=tx.toList) h.symm)
    clear HV2
    go_enter Tryz.func184,Tryz.ntmps184
    go_upto_region 1 with fail
    generalize w.alloc _=w1 at hO ⊢
    obtain ⟨x0,x1,x2,x3⟩:=bx4 hO.fst
    have HO:=Lib.hid hO
    have hz:=hO.size
    clear hO
    go_wp2_with (go_at_call 17; refine (HP.out _ HO.out.below).mono ?_; rintro e W2 ⟨rfl,hb2⟩; have y1:=(hb2.cell (p:=⟨w.heap.size,1,none⟩) (by show w.heap.size<_; omega)).trans x1)
    go_ret
    exact ⟨by rw [HV3.out]; rfl,HO.out.below.trans (hb2.mono HO.out.below.size)⟩
end Go.Proofs.YtmbffkemfepekaaGreatDoor
