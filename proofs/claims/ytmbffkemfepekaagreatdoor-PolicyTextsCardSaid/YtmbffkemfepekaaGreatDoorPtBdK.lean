/- The attributes' bindings are valid, and those that fit them. Conditions: none. -/
import Derived.Test.YtmbffkemfepekaaGreatDoorPtOpc
import Derived.Test.YtmbffkemfepekaaGreatDoorPtPolL
import Derived.Test.YtmbffkemfepekaaGreatDoorPtTyp
import Derived.Laws.OwnMore
import Derived.Laws.EntriesVeiled
import Derived.Test.YtmbffkemfepekaaGreatDoorPtPolM
namespace Go.Proofs.YtmbffkemfepekaaGreatDoor
theorem kd_len:kdB.length=11:=rfl
theorem kd_nm:∀ i:Fin 11,nmB (kdB[i.val]'(by have:=kd_len; omega)).name=true:=by decide +kernel
theorem kd_inc:∀ i:Fin 10,Op.bytesLess (kdB[i.val]'(by have:=kd_len; omega)).name.data.toList (kdB[i.val+1]'(by have:=kd_len; omega)).name.data.toList=true:=by decide +kernel
theorem kd_ty:∀ i:Fin 11,(kdB[i.val]'(by have:=kd_len; omega)).ty=1∨(kdB[i.val]'(by have:=kd_len; omega)).ty=2:=by decide +kernel
theorem bdok_of {l:List Bd} (hm:l.map (fun b=>(b.name,b.ty))=kdB.map (fun b=>(b.name,b.ty)))
  (hv:∀ (i:Nat) (h:i<l.length),(l[i].ty=1→-1099511627776≤l[i].val∧l[i].val≤1099511627776)∧(l[i].ty=2→0≤l[i].val∧l[i].val≤1)):BdOk l:=by
 have hl:l.length=11:=by
  have:=congrArg List.length hm
  simp only [List.length_map] at this
  exact this
 have ha:∀ (i:Nat) (h:i<l.length),l[i].name=(kdB[i]'(by rw [kd_len]; omega)).name∧l[i].ty=(kdB[i]'(by rw [kd_len]; omega)).ty:=by
  intro i h
  have h1:=congrArg (fun q=>q[i]?) hm
  simp only [List.getElem?_map] at h1
  rw [List.getElem?_eq_getElem h,List.getElem?_eq_getElem (by rw [kd_len]; omega)] at h1
  simp only [Option.map_some,Option.some.injEq,Prod.mk.injEq] at h1
  exact h1
 refine ⟨by omega,fun i h=>?_,fun i h=>?_,fun i h=>?_⟩
 ·rw [(ha i h).1]; exact kd_nm ⟨i,by omega⟩
 ·rw [(ha i (by omega)).1,(ha (i+1) h).1,ByteArray.toList_eq,ByteArray.toList_eq]; exact kd_inc ⟨i,by omega⟩
 ·have h1:=kd_ty ⟨i,by omega⟩
  simp only at h1
  rw [← (ha i h).2] at h1
  rcases h1 with h1 | h1
  ·exact .inl ⟨h1,(hv i h).1 h1⟩
  ·exact .inr ⟨h1,(hv i h).2 h1⟩
theorem bdok_kd:BdOk kdB:=bdok_of rfl (fun i h=>by
 have hall:∀ b∈kdB,b.val=0:=by unfold kdB; intro b hb; obtain ⟨k,_,rfl⟩:=List.mem_map.1 hb; rfl
 rw [hall _ (List.getElem_mem h)]
 omega)
theorem bdok_fits {l:List Bd} (h:fits l=true):BdOk l:=by
 refine bdok_of (fits_map h) fun i hi=>?_
 unfold fits at h
 rw [Bool.and_eq_true] at h
 obtain ⟨h1,h2⟩:=h
 have hl:l.length=11:=by simpa using h1
 have hk:kds.length=11:=rfl
 have hz:(kds[i]'(by omega),l[i])∈kds.zip l:=by
  have h3:i<(kds.zip l).length:=by rw [List.length_zip]; omega
  have:=List.getElem_mem h3
  rwa [List.getElem_zip] at this
 have hf:=List.all_eq_true.1 h2 _ hz
 unfold fitB at hf
 simp only [Bool.and_eq_true,beq_iff_eq] at hf
 obtain ⟨⟨-,ht⟩,hv⟩:=hf
 constructor
 ·intro e
  rw [if_neg (by omega)] at hv
  simpa using hv
 ·intro e
  rw [if_pos (by omega)] at hv
  simp at hv
  omega
/-- Valid bindings have small values. -/
theorem BdOk.sm {l:List Bd} (V:BdOk l):∀ b∈l,b.val.natAbs≤1099511627776:=by
 intro b hb
 obtain ⟨i,h,rfl⟩:=List.getElem_of_mem hb
 have:=V.ty i h
 omega
end Go.Proofs.YtmbffkemfepekaaGreatDoor

namespace Go.Proofs.YtmbffkemfepekaaGreatDoor
open Go.RowKit
theorem typeV_any (bs:List Bd) (V:BdOk bs) (Ab:Option Addr) (cb Bb:Nat) (e:Ex) (lo:Nat) (vs:List Value) (w:World) (hL:LiesE w lo vs e) (hlo:lo≤w.heap.size) (hR:RdB w Bb Ab bs) (hBb:Bb≤w.heap.size) :
  Calls Tryz.prog 28 #[.agg vs.toArray,.slice Ab bs.length cb] w (Ret (ansV (typeE bs e)) w):=
 type_any bs Ab cb Bb (by have:=V.len; omega) e lo vs w hL hlo hR hBb (fun W hW=>bound_any bs V Ab cb Bb W (Rd.below' hR hW hBb) (Nat.le_trans hBb hW.size))
theorem typeE_ne (l:List Bd) (e:Ex) (f:Nat) (h:typeE l e=.er f):f≠0:=by
 unfold typeE at h
 by_cases hc:chkE e=0
 ·rw [if_pos hc] at h; exact typE_ne _ _ _ h
 ·rw [if_neg hc] at h; injection h with h; rw [← h]; exact hc
theorem typeE_chk {l:List Bd} {e:Ex} {t:Int} (h:typeE l e=.ok t):chkE e=0:=by
 unfold typeE at h
 by_cases hc:chkE e=0
 ·exact hc
 ·rw [if_neg hc] at h; cases h
set_option maxRecDepth 100000 in
set_option maxHeartbeats 1600000 in
theorem eval_any (bs:List Bd) (V:BdOk bs) (Ab:Option Addr) (cb Bb:Nat) (e:Ex) (lo:Nat) (vs:List Value) (w:World) (hL:LiesE w lo vs e) (hlo:lo≤w.heap.size) (hR:RdB w Bb Ab bs) (hBb:Bb≤w.heap.size) :
  Calls Tryz.prog 63 #[.agg vs.toArray,.slice Ab bs.length cb] w (Ret (ansV (evalE bs e)) w):=by
 have HTY0:∀ W,Below w.heap.size w W→Calls Tryz.prog 28 #[.agg vs.toArray,.slice Ab bs.length cb] W (Ret (ansV (typeE bs e)) W):=fun W hW=>typeV_any bs V Ab cb Bb e lo vs W (hL.below' hW hlo) (Nat.le_trans hlo hW.size) (Rd.below' hR hW hBb) (Nat.le_trans hBb hW.size)
 have HVL0:chkE e=0→∀ W,Below w.heap.size w W→Calls Tryz.prog 108 #[.agg vs.toArray,.slice Ab bs.length cb] W (Ret (ansV (valE bs e)) W):=fun h W hW=>value_any bs Ab cb Bb (by have:=V.len; omega) V.sm e lo vs W (good_of e h).1 (hL.below' hW hlo) (Nat.le_trans hlo hW.size) (Rd.below' hR hW hBb) (Nat.le_trans hBb hW.size)
 obtain ⟨A,cap,rfl,bd,-⟩:=hL.arg
 have HTY:=Lib.hid HTY0
 have HVL:=Lib.hid HVL0
 clear hL hR bd V HTY0 HVL0
 unfold exC ansV Ret at HTY HVL
 unfold exC ansV Ret
 have hO:=one_new w #[.int .i64 e.kind,.int .i64 e.op,.string e.name,.int .i64 e.val,.slice A e.args.length cap] 38
 cases ht:typeE bs e with
 | er f=>
  have hf0:=typeE_ne bs e f ht
  have e1:((f:Int) != 0)=true:=by simpa using hf0
  have e2:(f != 0)=true:=by simpa using hf0
  have HV:Hid (evalE bs e=.er f):=Lib.hid (by unfold evalE; rw [ht])
  rw [ht] at HTY
  simp only [Ans.n,Ans.f] at HTY
  clear hf0 ht HVL
  go_enter Tryz.func63,Tryz.ntmps63
  go_upto_region 1 with fail
  generalize w.alloc _=w1 at hO ⊢
  obtain ⟨x0,x1,x2,x3,x4⟩:=bx5 hO.fst
  go_wp2_with fail
  refine (HTY.out _ hO.below).mono ?_
  rintro e5 w5 ⟨rfl,hb5⟩
  clear x0 x1 x2 x3 x4
  have HB:=Lib.hid (hO.below.trans (hb5.mono hO.below.size))
  clear hb5 hO
  go_wp2_with fail
  go_ret2
  exact ⟨by rw [HV.out]; rfl,HB.out⟩
 | ok t=>
  have hc:=typeE_chk ht
  have HV:Hid (evalE bs e=valE bs e):=Lib.hid (by unfold evalE; rw [ht])
  rw [ht] at HTY
  simp only [Ans.n,Ans.f] at HTY
  replace HVL:=Lib.hid (HVL.out hc)
  clear ht hc
  go_enter Tryz.func63,Tryz.ntmps63
  go_upto_region 1 with fail
  generalize w.alloc _=w1 at hO ⊢
  obtain ⟨x0,x1,x2,x3,x4⟩:=bx5 hO.fst
  go_wp2_with fail
  refine (HTY.out _ hO.below).mono ?_
  rintro e5 w5 ⟨rfl,hb5⟩
  clear x0 x1 x2 x3 x4
  replace hO:=hO.next hb5
  clear hb5
  obtain ⟨x0,x1,x2,x3,x4⟩:=bx5 hO.fst
  go_wp2_with fail
  refine (HVL.out _ hO.below).mono ?_
  rintro e7 w7 ⟨rfl,hb7⟩
  replace hb7:=hO.below.trans (hb7.mono hO.below.size)
  clear x0 x1 x2 x3 x4 hO
  go_wp2_with fail
  go_ret2
  exact ⟨by rw [HV.out]; rfl,hb7⟩
end Go.Proofs.YtmbffkemfepekaaGreatDoor

namespace Go.Proofs.YtmbffkemfepekaaGreatDoor
open Go.RowKit
/-- The attributes' cells: name, type, a function. -/
def atFs:List Nat:=[89,92,93,94,96,97,98,99,100,102,103]
def atCs:List Value:=(kds.zip atFs).flatMap fun x=>[.string x.1.name,.int .i64 x.1.ty,.func (.func x.2) #[] #[]]
theorem kds_len:kds.length=11:=rfl
/-- A slice of the attributes. -/
def AtsR (w:World):Ending→World→Prop:=fun e W=>∃ g off:Nat,e=.returned (.slice (some ⟨g,off,none⟩) 11 11)∧Below w.heap.size w W∧g<W.heap.size ∧
 ∀ (i:Nat) (h:i<kds.length),∃ F:Nat,W.cell? ⟨g,off+i * 3,none⟩=some (.string kds[i].name)∧W.cell? ⟨g,off+i * 3+1,none⟩=some (.int .i64 kds[i].ty)∧W.cell? ⟨g,off+i * 3+2,none⟩=some (.func (.func F) #[] #[])
set_option maxRecDepth 100000 in
theorem attributes_any (w:World):Calls Tryz.prog 55 #[] w (AtsR w):=by
 have key:∀ W,W=w.alloc (.cells atCs.toArray 108)→AtsR w (.returned (.slice (some ⟨w.heap.size,0,none⟩) 11 11)) W:=by
  rintro W rfl
  refine ⟨w.heap.size,0,rfl,below_alloc _ _,by simp,fun i h=>?_⟩
  have hb:=bx_new w atCs.toArray 108
  have hk:=kds_len
  have hc:i=0∨i=1∨i=2∨i=3∨i=4∨i=5∨i=6∨i=7∨i=8∨i=9∨i=10:=by omega
  rcases hc with rfl | rfl | rfl | rfl | rfl | rfl | rfl | rfl | rfl | rfl | rfl <;> exact ⟨_,hb _ _ rfl,hb _ _ rfl,hb _ _ rfl⟩
 have KEY:=Lib.hid key
 clear key
 generalize AtsR w=R at KEY ⊢
 go_enter Tryz.func55,Tryz.ntmps55
 go_wp2_with fail
 exact KEY.out _ rfl
theorem bx_add {W:World} {g:Nat} {cs:List Value} (h:Bx W g cs):∀ j u,cs[j]? = some u→W.cell? ((⟨g,0,none⟩:Addr).add j)=some u:=fun j u hu=>by
 have h1:=h j u hu
 by_cases h0:j=0
 ·subst h0; simpa [Addr.add] using h1
 ·simpa [Addr.add,h0] using h1
theorem bdInfo:(Tryz.prog.info? 89).map (fun i=>(i.zero,i.size,i.bytes))=some (some (.agg #[.string ⟨#[]⟩,.int .i64 0,.int .i64 0]),3,32):=by kernel_rfl
/-- A slice of the attributes' bindings. -/
def KdsR (w:World):Ending→World→Prop:=fun e W=>∃ (A:Option Addr) (c:Nat),e=.returned (.slice A kdB.length c)∧Below w.heap.size w W∧RdB W W.heap.size A kdB
set_option maxRecDepth 100000 in
set_option maxHeartbeats 1600000 in
theorem kinds_any (w:World):Calls Tryz.prog 26 #[] w (KdsR w):=by
 have HAT:=Lib.hid (attributes_any w)
 obtain ⟨i0,hi,hz0,hz1,hz2⟩:=info_parts bdInfo
 have hk11:kds.length=11:=rfl
 unfold AtsR at HAT
 unfold KdsR
 go_enter Tryz.func26,Tryz.ntmps26
 go_wp2_with fail
 refine HAT.out.mono ?_
 rintro e w1 ⟨g,off,rfl,hb1,hg1,hat⟩
 have HA:=Lib.hid hat
 have HK:=Lib.hid hk11
 clear HAT hat hk11
 go_wp2_with fail
 go_loopw [1,6] (fun v i wr=>∃ j:Nat,i=.int .i64 (j:Nat)∧j≤11∧wr.ownsRow w1.heap.size 89 3 v j ((kdB.take j).flatMap Bd.cells)∧Below w1.heap.size w1 wr) (fun _ i _=>11 - (intOf i).toNat)
 case atStart=>exact ⟨0,rfl,by omega,World.ownsRow_nil _ _ _ _,Below.refl _ _⟩
 case round=>
  obtain ⟨j,rfl,hj,hown,hb⟩:=hrel
  have hj0:(0:Int)≤(j:Int):=by omega
  have hwr1:IntKind.i64.wrap ((j:Int)+1)=(j:Int)+1:=by rw [IntKind.wrap_i64]; omega
  by_cases hlt:j<11
  ·have hd1:decide ((j:Int)<11)=true:=decide_eq_true (by omega)
   have hjl:(j:Int)<11:=by omega
   obtain ⟨F,y0,y1,y2⟩:=HA.out j (by rw [HK.out]; exact hlt)
   replace y0:=(hb.cell (p:=⟨g,off+j * 3,none⟩) hg1).trans y0
   replace y1:=(hb.cell (p:=⟨g,off+j * 3+1,none⟩) hg1).trans y1
   replace y2:=(hb.cell (p:=⟨g,off+j * 3+2,none⟩) hg1).trans y2
   have HTK:Hid ((kdB.take (j+1)).flatMap Bd.cells=(kdB.take j).flatMap Bd.cells++[.string (kds[j]'(by rw [HK.out]; exact hlt)).name,.int .i64 (kds[j]'(by rw [HK.out]; exact hlt)).ty,.int .i64 0]):=Lib.hid (by
    have hkl:j<kdB.length:=by simpa [kdB,kds] using hlt
    rw [List.take_add_one,List.getElem?_eq_getElem hkl,List.flatMap_append]
    simp [kdB,Bd.cells])
   generalize (kds[j]'(by rw [HK.out]; exact hlt)).name=nm at y0 HTK
   generalize (kds[j]'(by rw [HK.out]; exact hlt)).ty=ty at y1 HTK
   have hO:=one_new wr #[.string nm,.int .i64 ty,.func (.func F) #[] #[]] 108
   have hown4:=World.ownsRow.alloc hown (.cells #[.string nm,.int .i64 ty,.func (.func F) #[] #[]] 108)
   have hz4:w1.heap.size≤(wr.alloc (.cells #[.string nm,.int .i64 ty,.func (.func F) #[] #[]] 108)).heap.size:=by have:=hb.size; simp; omega
   have HB4:=Lib.hid ((hb.alloc hb.size (.cells #[.string nm,.int .i64 ty,.func (.func F) #[] #[]] 108)))
   clear hown hb
   go_upto_region 5 with fail
   generalize wr.alloc _=w4 at hO hown4 hz4 HB4 ⊢
   obtain ⟨x0,x1,x2⟩:=bx3 hO.fst
   have hmx:j+1≤maxLen:=by unfold maxLen; omega
   have hby:(j+1) * 32≤140737488355328:=by omega
   have hbs:w1.heap.size≤(w4.alloc (.cells #[.string nm,.int .i64 ty,.int .i64 0] 89)).heap.size:=by simp; omega
   have hbx:=bx_new w4 #[.string nm,.int .i64 ty,.int .i64 0] 89
   have hbl6:=Lib.hid (HB4.out.alloc hz4 (.cells #[.string nm,.int .i64 ty,.int .i64 0] 89))
   have HBX:=Lib.hid (bx_add hbx)
   clear hbx hO
   go_wp2_with (at_builtin; refine wpList_append_own _ rfl (.tmp 10) (.tmp 16) _ rfl w1.heap.size 89 i0 (.agg #[.string ⟨#[]⟩,.int .i64 0,.int .i64 0]) 3 32 Tryz.underlying46 hi hz0 hz1 hz2 rfl (by omega) _ _ _ rfl (World.ownsRow.alloc hown4 _) ⟨w4.heap.size,0,none⟩ 1 1 [.string nm,.int .i64 ty,.int .i64 0] rfl rfl HBX.out (by simp [Value.oneCell']) hmx hby hbs ?_; intro v2 w6 hown6 hg6 _)
   exact ⟨⟨j+1,by go_num,by omega,by rw [HTK.out]; exact hown6,hbl6.out.grown hg6 hbs (fun g e=>(World.ownsRow.lt hown4 g e).1)⟩,by simp [intOf]; omega⟩
  ·have hd1:decide ((j:Int)<11)=false:=decide_eq_false (by omega)
   obtain rfl:j=11:=by omega
   have hlen:(kdB.take 11)=kdB:=rfl
   rw [hlen] at hown
   obtain ⟨g2,gc,rfl,-,hgl⟩:=hown.form (by omega)
   have hlt2:=World.ownsRow.lt hown g2 rfl
   have HR:Hid (RdB wr wr.heap.size (some ⟨g2,0,none⟩) kdB):=Lib.hid (by
    refine ⟨rfl,.inr ⟨g2,0,rfl,hlt2.2,fun j u hu=>?_⟩⟩
    have:=hown.cells (g:=g2) rfl j u hu
    by_cases h0:j=0
    ·subst h0; simpa [Addr.add] using this
    ·simpa [Addr.add,h0] using this)
   have HB:=Lib.hid (hb1.trans (hb.mono hb1.size))
   clear hown hb hlen hlt hgl hlt2
   go_wp2_with fail
   go_ret
   exact ⟨_,_,rfl,HB.out,HR.out⟩
end Go.Proofs.YtmbffkemfepekaaGreatDoor

namespace Go.Proofs.YtmbffkemfepekaaGreatDoor
open Go.RowKit
def tyB (bs:List Bd) (e:Ex) (t:Int):Nat:=match typeE bs e with | .er f=>f | .ok n=>if n=t then 0 else 15
set_option maxRecDepth 100000 in
set_option maxHeartbeats 1600000 in
theorem pck1_any (bs:List Bd) (V:BdOk bs) (Ab:Option Addr) (cb Bb g:Nat) (t:Int) (e:Ex) (lo:Nat) (vs:List Value) (w:World) (hL:LiesE w lo vs e) (hlo:lo≤w.heap.size) (hR:RdB w Bb Ab bs) (hBb:Bb≤w.heap.size) (hg:w.cell? ⟨g,0,none⟩=some (.slice Ab bs.length cb)) :
  Calls Tryz.prog 27 #[.agg vs.toArray,.int .i64 t,.pointer (some ⟨g,0,none⟩)] w (Ret (.int .i64 (tyB bs e t:Nat)) w):=by
 have HTY0:∀ W,Below w.heap.size w W→Calls Tryz.prog 28 #[.agg vs.toArray,.slice Ab bs.length cb] W (Ret (ansV (typeE bs e)) W):=fun W hW=>typeV_any bs V Ab cb Bb e lo vs W (hL.below' hW hlo) (Nat.le_trans hlo hW.size) (Rd.below' hR hW hBb) (Nat.le_trans hBb hW.size)
 obtain ⟨A,cap,rfl,bd,-⟩:=hL.arg
 have HTY:=Lib.hid HTY0
 have hO:=one_new w #[.int .i64 e.kind,.int .i64 e.op,.string e.name,.int .i64 e.val,.slice A e.args.length cap] 38
 have hga:=(World.cell?_alloc_lt w (.cells #[.int .i64 e.kind,.int .i64 e.op,.string e.name,.int .i64 e.val,.slice A e.args.length cap] 38) ⟨g,0,none⟩ (World.block_lt_of_cell? _ _ hg)).trans hg
 clear hL hR bd V HTY0 hg
 unfold exC ansV Ret at HTY
 unfold exC Ret
 cases ht:typeE bs e with
 | er f=>
  have hf0:=typeE_ne bs e f ht
  have e1:((f:Int) == 0)=false:=by simpa using hf0
  have e2:(f == 0)=false:=by simpa using hf0
  have HV:Hid (tyB bs e t=f):=Lib.hid (by unfold tyB; rw [ht])
  rw [ht] at HTY
  simp only [Ans.n,Ans.f] at HTY
  clear hf0 ht
  go_enter Tryz.func27,Tryz.ntmps27
  go_upto_region 1 with fail
  generalize w.alloc _=w1 at hO hga ⊢
  obtain ⟨x0,x1,x2,x3,x4⟩:=bx5 hO.fst
  go_wp2_with fail
  refine (HTY.out _ hO.below).mono ?_
  rintro e5 w5 ⟨rfl,hb5⟩
  clear x0 x1 x2 x3 x4 hga
  have HB:=Lib.hid (hO.below.trans (hb5.mono hO.below.size))
  clear hb5 hO
  go_wp2_with fail
  go_ret
  exact ⟨by rw [HV.out]; rfl,HB.out⟩
 | ok n=>
  rw [ht] at HTY
  simp only [Ans.n,Ans.f] at HTY
  by_cases hn:n=t
  ·have HV:Hid (tyB bs e t=0):=Lib.hid (by unfold tyB; rw [ht]; simp only; rw [if_pos hn])
   have e1:(n != t)=false:=by simpa using hn
   clear ht hn
   go_enter Tryz.func27,Tryz.ntmps27
   go_upto_region 1 with fail
   generalize w.alloc _=w1 at hO hga ⊢
   obtain ⟨x0,x1,x2,x3,x4⟩:=bx5 hO.fst
   go_wp2_with fail
   refine (HTY.out _ hO.below).mono ?_
   rintro e5 w5 ⟨rfl,hb5⟩
   clear x0 x1 x2 x3 x4 hga
   have HB:=Lib.hid (hO.below.trans (hb5.mono hO.below.size))
   clear hb5 hO
   go_wp2_with fail
   go_ret
   exact ⟨by rw [HV.out]; rfl,HB.out⟩
  ·have HV:Hid (tyB bs e t=15):=Lib.hid (by unfold tyB; rw [ht]; simp only; rw [if_neg hn])
   have e1:(n != t)=true:=by simpa using hn
   clear ht hn
   go_enter Tryz.func27,Tryz.ntmps27
   go_upto_region 1 with fail
   generalize w.alloc _=w1 at hO hga ⊢
   obtain ⟨x0,x1,x2,x3,x4⟩:=bx5 hO.fst
   go_wp2_with fail
   refine (HTY.out _ hO.below).mono ?_
   rintro e5 w5 ⟨rfl,hb5⟩
   clear x0 x1 x2 x3 x4 hga
   have HB:=Lib.hid (hO.below.trans (hb5.mono hO.below.size))
   clear hb5 hO
   go_wp2_with fail
   go_ret
   exact ⟨by rw [HV.out]; rfl,HB.out⟩
theorem chkR_at {rs:List Rl} {j:Nat} (h0:chkR (rs.take j)=0) (hj:j<rs.length):(tyE rs[j].cond 2≠0→chkR rs=tyE rs[j].cond 2)∧(tyE rs[j].cond 2=0→tyE rs[j].key 1≠0→chkR rs=tyE rs[j].key 1)∧(tyE rs[j].cond 2=0→tyE rs[j].key 1=0→chkR (rs.take (j+1))=0):=by
 have e:chkR rs=chkR (rs.drop j):=by
  conv=>lhs; rw [← List.take_append_drop j rs]
  rw [chkR_append,if_pos h0]
 rw [List.drop_eq_getElem_cons hj] at e
 refine ⟨fun h=>?_,fun h1 h2=>?_,fun h1 h2=>?_⟩
 ·rw [e,chkR,if_neg h]
 ·rw [e,chkR,if_pos h1,if_neg h2]
 ·rw [List.take_add_one,List.getElem?_eq_getElem hj,chkR_append,if_pos h0]
  simp [chkR,h1,h2]
theorem bx10 {W:World} {g:Nat} {a b c d e f h i j k:Value} (hb:Bx W g [a,b,c,d,e,f,h,i,j,k]):W.cell? ⟨g,0,none⟩=some a∧W.cell? ⟨g,1,none⟩=some b∧W.cell? ⟨g,2,none⟩=some c∧W.cell? ⟨g,3,none⟩=some d∧W.cell? ⟨g,4,none⟩=some e∧W.cell? ⟨g,5,none⟩=some f∧W.cell? ⟨g,6,none⟩=some h∧W.cell? ⟨g,7,none⟩=some i∧W.cell? ⟨g,8,none⟩=some j∧W.cell? ⟨g,9,none⟩=some k:=⟨hb 0 _ rfl,hb 1 _ rfl,hb 2 _ rfl,hb 3 _ rfl,hb 4 _ rfl,hb 5 _ rfl,hb 6 _ rfl,hb 7 _ rfl,hb 8 _ rfl,hb 9 _ rfl⟩
set_option maxRecDepth 100000 in
set_option maxHeartbeats 3200000 in
theorem pck_any (A:Option Addr) (c B:Nat) (rs:List Rl) (w:World) (hP:LiesP w B A c rs) (hB:B≤w.heap.size) :
  Calls Tryz.prog 10 #[.agg #[.slice A rs.length c]] w (Ret (.int .i64 (chkP rs:Nat)) w):=by
 have hl:=hP.len
 have HP:=Lib.hid hP
 have hO:=one_new w #[.slice A rs.length c] 24
 unfold Ret
 clear hP
 by_cases h16:16<rs.length
 ·have e1:decide ((rs.length:Int) > 16)=true:=decide_eq_true (by omega)
  have e2:decide (16<(rs.length:Int))=true:=decide_eq_true (by omega)
  have e3:decide (16<rs.length)=true:=decide_eq_true h16
  have HV:Hid (chkP rs=4):=Lib.hid (by unfold chkP; rw [if_pos h16])
  clear h16
  go_enter Tryz.func10,Tryz.ntmps10
  go_upto_region 1 with fail
  generalize w.alloc _=w1 at hO ⊢
  have x0:=hO.fst 0 _ rfl
  go_wp2_with fail
  go_ret
  exact ⟨by rw [HV.out]; rfl,hO.below⟩
 ·have e1:decide ((rs.length:Int) > 16)=false:=decide_eq_false (by omega)
  have e2:decide (16<(rs.length:Int))=false:=decide_eq_false (by omega)
  have e3:decide (16<rs.length)=false:=decide_eq_false h16
  have HCP:Hid (chkP rs=chkR rs):=Lib.hid (by unfold chkP; rw [if_neg h16])
  have HK:=Lib.hid (fun W=>kinds_any W)
  unfold KdsR at HK
  obtain ⟨ks,hks⟩:∃ ks,ks=kdB:=⟨_,rfl⟩
  rw [← hks] at HK
  have HKS:=Lib.hid hks
  have hmf:∀ (fn:Fn) (first cap:Array Value) (w:World),(Instr.makeFunc fn first cap).run Tryz.prog w=.ok (.func fn first cap) w:=fun _ _ _ _=>rfl
  clear h16 hks
  go_enter Tryz.func10,Tryz.ntmps10
  go_upto_region 1 with fail
  generalize w.alloc _=w1 at hO ⊢
  have x0:=hO.fst 0 _ rfl
  go_wp2_with fail
  refine (HK.out _).mono ?_
  rintro e w2 ⟨Ak,ck,rfl,hb2,hRk⟩
  clear x0
  replace hO:=hO.next hb2
  have hO2:=one_new w2 #[.slice Ak ks.length ck] 46
  have hO1:=hO.next (below_alloc w2 (.cells #[.slice Ak ks.length ck] 46))
  have HRK:Hid (RdB (w2.alloc (.cells #[.slice Ak ks.length ck] 46)) w2.heap.size Ak ks):=Lib.hid (Rd.below' hRk (below_alloc _ _) (Nat.le_refl _))
  have hz2:=hO.size
  clear hb2 hRk hO HK
  go_upto_region 5 with fail
  generalize w2.alloc _=w3 at hO1 hO2 HRK ⊢
  have x0:=hO1.fst 0 _ rfl
  have HC3:=Lib.hid (hO2.fst 0 _ rfl)
  have hz3:=hO2.size
  go_wp2_with fail
  go_loopw [2,18] (fun r i wr=>r=.int .i64 0∧∃ j:Nat,i=.int .i64 (j:Nat)∧j≤rs.length∧Hid (chkR (rs.take j)=0)∧Below w3.heap.size w3 wr) (fun _ i _=>rs.length - (intOf i).toNat)
  case atStart=>exact ⟨rfl,0,rfl,Nat.zero_le _,Lib.hid rfl,Below.refl _ _⟩
  case round=>
   obtain ⟨rfl,j,rfl,hj,hck,hb⟩:=hrel
   have hj0:(0:Int)≤(j:Int):=by omega
   have HBW:Hid (Below w.heap.size w wr):=Lib.hid (hO1.below.trans (hb.mono hO1.below.size))
   by_cases hlt:j<rs.length
   ·have hd1:decide ((j:Int)<(rs.length:Int))=true:=decide_eq_true (by omega)
    have hwr1:IntKind.i64.wrap ((j:Int)+1)=(j:Int)+1:=by rw [IntKind.wrap_i64]; omega
    have hd2:decide (j<rs.length)=true:=decide_eq_true hlt
    have hjl:(j:Int)<(rs.length:Int):=by omega
    obtain ⟨b,off,k,o,n,v,A1,m1,c1,k2,o2,n2,v2,A2,m2,c2,rfl,hb1,hL1,hL2,y0,y1,y2,y3,y4,y5,y6,y7,y8,y9⟩:=(HP.out.below' HBW.out hB).at_ j hlt
    have hO4:=one_new wr #[.int .i64 k,.int .i64 o,.string n,.int .i64 v,.slice A1 m1 c1,.int .i64 k2,.int .i64 o2,.string n2,.int .i64 v2,.slice A2 m2 c2] 40
    have HB:=Lib.hid hb
    have hlo:B≤wr.heap.size:=Nat.le_trans hB HBW.out.size
    have HSTEP:=Lib.hid (chkR_at hck.out hlt)
    have HT1:Hid (∀ W,Below wr.heap.size wr W→Calls Tryz.prog 27 #[.agg (exC k o n v A1 m1 c1).toArray,.int .i64 2,.pointer (some ⟨w2.heap.size,0,none⟩)] W (Ret (.int .i64 (tyE rs[j].cond 2:Nat)) W)):=Lib.hid (fun W hW=>by
     have hV:BdOk ks:=by rw [HKS.out]; exact bdok_kd
     have h3:=HB.out.trans (hW.mono HB.out.size)
     have:=pck1_any ks hV Ak ck w2.heap.size w2.heap.size 2 rs[j].cond B _ W (hL1.below' hW hlo) (Nat.le_trans hlo hW.size) (Rd.below' HRK.out h3 (by omega)) (by have:=h3.size; omega) ((h3.cell (p:=⟨w2.heap.size,0,none⟩) (by show w2.heap.size<w3.heap.size; omega)).trans HC3.out)
     rwa [show tyB ks rs[j].cond 2=tyE rs[j].cond 2 from by rw [HKS.out]; rfl] at this)
    have HT2:Hid (∀ W,Below wr.heap.size wr W→Calls Tryz.prog 27 #[.agg (exC k2 o2 n2 v2 A2 m2 c2).toArray,.int .i64 1,.pointer (some ⟨w2.heap.size,0,none⟩)] W (Ret (.int .i64 (tyE rs[j].key 1:Nat)) W)):=Lib.hid (fun W hW=>by
     have hV:BdOk ks:=by rw [HKS.out]; exact bdok_kd
     have h3:=HB.out.trans (hW.mono HB.out.size)
     have:=pck1_any ks hV Ak ck w2.heap.size w2.heap.size 1 rs[j].key B _ W (hL2.below' hW hlo) (Nat.le_trans hlo hW.size) (Rd.below' HRK.out h3 (by omega)) (by have:=h3.size; omega) ((h3.cell (p:=⟨w2.heap.size,0,none⟩) (by show w2.heap.size<w3.heap.size; omega)).trans HC3.out)
     rwa [show tyB ks rs[j].key 1=tyE rs[j].key 1 from by rw [HKS.out]; rfl] at this)
    generalize tyE rs[j].cond 2=f1 at HT1 HSTEP
    generalize tyE rs[j].key 1=f2 at HT2 HSTEP
    unfold exC Ret at HT1 HT2
    have HO1:=Lib.hid hO1
    have HO2:=Lib.hid hO2
    clear hb hck hL1 hL2 x0 hO1 hO2
    go_upto_region 8 with fail
    clear y0 y1 y2 y3 y4 y5 y6 y7 y8 y9
    generalize wr.alloc _=w4 at hO4 ⊢
    obtain ⟨q0,q1,q2,q3,q4,q5,q6,q7,q8,q9⟩:=bx10 hO4.fst
    by_cases h1:f1=0
    rotate_left
    ·have e1:((f1:Int) != 0)=true:=by simpa using h1
     have e2:(f1 != 0)=true:=by simpa using h1
     have HV:=Lib.hid (HSTEP.out.1 h1)
     clear h1
     go_wp2_with fail
     refine (HT1.out _ hO4.below).mono ?_
     rintro e w5 ⟨rfl,hb5⟩
     have HB9:=Lib.hid (HBW.out.trans ((hO4.below.trans (hb5.mono hO4.below.size)).mono HBW.out.size))
     clear q0 q1 q2 q3 q4 q5 q6 q7 q8 q9 hb5 hO4
     go_wp2_with fail
     go_ret
     exact ⟨by rw [HCP.out,HV.out]; rfl,HB9.out⟩
    ·subst h1
     go_wp2_with fail
     refine (HT1.out _ hO4.below).mono ?_
     rintro e w5 ⟨rfl,hb5⟩
     replace hO4:=hO4.next hb5
     clear q0 q1 q2 q3 q4 q5 q6 q7 q8 q9 hb5
     obtain ⟨q0,q1,q2,q3,q4,q5,q6,q7,q8,q9⟩:=bx10 hO4.fst
     by_cases h2:f2=0
     rotate_left
     ·have e1:((f2:Int) != 0)=true:=by simpa using h2
      have e2:(f2 != 0)=true:=by simpa using h2
      have HV:=Lib.hid (HSTEP.out.2.1 (by first | rfl | exact True.intro) h2)
      clear h2
      go_wp2_with fail
      refine (HT2.out _ hO4.below).mono ?_
      rintro e w6 ⟨rfl,hb6⟩
      have HB9:=Lib.hid (HBW.out.trans ((hO4.below.trans (hb6.mono hO4.below.size)).mono HBW.out.size))
      clear q0 q1 q2 q3 q4 q5 q6 q7 q8 q9 hb6 hO4
      go_wp2_with fail
      go_ret
      exact ⟨by rw [HCP.out,HV.out]; rfl,HB9.out⟩
     ·subst h2
      have HV:=Lib.hid (HSTEP.out.2.2 (by first | rfl | exact True.intro) (by first | rfl | exact True.intro))
      go_wp2_with fail
      refine (HT2.out _ hO4.below).mono ?_
      rintro e w6 ⟨rfl,hb6⟩
      have HB9:=Lib.hid (HB.out.trans ((hO4.below.trans (hb6.mono hO4.below.size)).mono HB.out.size))
      clear q0 q1 q2 q3 q4 q5 q6 q7 q8 q9 hb6 hO4
      go_wp2_with fail
      exact ⟨⟨rfl,j+1,by go_num,by omega,Lib.hid HV.out,HB9.out⟩,by simp [intOf]; omega⟩
   ·have hd1:decide ((j:Int)<(rs.length:Int))=false:=decide_eq_false (by omega)
    have hd2:decide (j<rs.length)=false:=decide_eq_false hlt
    have HV:Hid (chkR rs=0):=Lib.hid (by
     have:=hck.out
     rwa [List.take_of_length_le (by omega)] at this)
    clear hck
    go_wp2_with fail
    go_ret
    exact ⟨by rw [HCP.out,HV.out]; rfl,HBW.out⟩
end Go.Proofs.YtmbffkemfepekaaGreatDoor

namespace Go.Proofs.YtmbffkemfepekaaGreatDoor
open Go.RowKit
theorem set2 {W:World} {B:Nat} {u0 u1:Value} (h0:W.cell? ⟨B,0,none⟩=some u0) (h1:W.cell? ⟨B,1,none⟩=some u1) (v0 v1:Value) :
  ((W.setCell ⟨B,0,none⟩ v0).setCell ⟨B,1,none⟩ v1).cell? ⟨B,0,none⟩=some v0∧((W.setCell ⟨B,0,none⟩ v0).setCell ⟨B,1,none⟩ v1).cell? ⟨B,1,none⟩=some v1:=by
 have n01:(⟨B,1,none⟩:Addr)≠⟨B,0,none⟩:=by intro e; cases e
 exact ⟨(World.cell?_setCell_other _ _ _ _ n01).trans (World.cell?_setCell_same _ _ _ h0),World.cell?_setCell_same _ _ _ ((World.cell?_setCell_other _ _ _ _ n01.symm).trans h1)⟩
theorem evalE_ne (l:List Bd) (e:Ex) (f:Nat) (h:evalE l e=.er f):f≠0:=by
 unfold evalE at h
 cases ht:typeE l e with
 | er g=>rw [ht] at h; injection h with h; subst h; exact typeE_ne _ _ _ ht
 | ok t=>rw [ht] at h; exact valE_ne _ _ _ h
/-- The first rules do not apply. -/
def RkAt (bs:List Bd) (rs:List Rl) (j:Nat):Prop:=rankF bs j (rs.drop j)=rankR rs bs
theorem rk_none {bs:List Bd} {rs:List Rl} {j:Nat} (h:RkAt bs rs j) (hj:j<rs.length) (hk:keyR bs rs[j]=none):RkAt bs rs (j+1):=by
 unfold RkAt at h ⊢
 rw [← h,List.drop_eq_getElem_cons hj,rankF,hk]
theorem rk_some {bs:List Bd} {rs:List Rl} {j:Nat} {k:Int} (h:RkAt bs rs j) (hj:j<rs.length) (hk:keyR bs rs[j]=some k):rankR rs bs=((j:Int),k):=by
 unfold RkAt at h
 rw [← h,List.drop_eq_getElem_cons hj,rankF,hk]
theorem rk_end {bs:List Bd} {rs:List Rl} {j:Nat} (h:RkAt bs rs j) (hj:j=rs.length):rankR rs bs=((rs.length:Int),0):=by
 unfold RkAt at h
 rw [← h,List.drop_of_length_le (by omega),rankF,hj]
theorem frz2 (w:World) (a b:Array Value) (s t:TypeId) (j:Nat):((w.alloc (.cells a s)).alloc (.cells b t)).frozen? ⟨w.heap.size+1,j,none⟩=false:=fresh2 w _ b t j
set_option maxRecDepth 100000 in
set_option maxHeartbeats 6400000 in
theorem rankOf_any (bs:List Bd) (V:BdOk bs) (Ab:Option Addr) (cb Bb:Nat) (A:Option Addr) (c B:Nat) (rs:List Rl) (w:World) (hP:LiesP w B A c rs) (hB:B≤w.heap.size) (hR:RdB w Bb Ab bs) (hBb:Bb≤w.heap.size) :
  Calls Tryz.prog 34 #[.agg #[.slice A rs.length c],.slice Ab bs.length cb] w (Ret (.agg #[.int .i64 (rankR rs bs).1,.int .i64 (rankR rs bs).2]) w):=by
 have hl:=hP.len
 have HP:=Lib.hid hP
 have HEV:Hid (∀ (e:Ex) (lo:Nat) (vs:List Value) (W W':World),Below w.heap.size w W→Below W.heap.size W W'→LiesE W lo vs e→lo≤w.heap.size→Calls Tryz.prog 63 #[.agg vs.toArray,.slice Ab bs.length cb] W' (Ret (ansV (evalE bs e)) W')):=Lib.hid (fun e lo vs W W' h1 h2 hL hlo=>by
  have h3:=h1.trans (h2.mono h1.size)
  exact eval_any bs V Ab cb Bb e lo vs W' (hL.below' h2 (Nat.le_trans hlo h1.size)) (Nat.le_trans hlo h3.size) (Rd.below' hR h3 hBb) (Nat.le_trans hBb h3.size))
 have HRK0:Hid (RkAt bs rs 0):=Lib.hid rfl
 have hT:=two_new w #[.slice A rs.length c] #[.int .i64 0,.int .i64 0] 24 83
 have hF:∀ j,((w.alloc (.cells #[.slice A rs.length c] 24)).alloc (.cells #[.int .i64 0,.int .i64 0] 83)).frozen? ⟨w.heap.size+1,j,none⟩=false:=fun j=>frz2 w _ _ _ _ j
 clear hP hR V
 unfold Ret
 go_enter Tryz.func34,Tryz.ntmps34
 go_upto_region 1 with fail
 obtain ⟨RB,hRBe⟩:∃ RB,RB=w.heap.size+1:=⟨_,rfl⟩
 rw [← hRBe] at hF ⊢
 generalize World.alloc _ _=w3 at hT hF ⊢
 have x0:=hT.fst 0 _ rfl
 have hd:=hT.snd
 have hsz:=hT.size
 have HB3:=Lib.hid hT.below
 rw [← hRBe] at hd
 have D0:=Lib.hid (hd 0 _ rfl)
 have D1:=Lib.hid (hd 1 _ rfl)
 have G0:=Lib.hid (hF 0)
 have G1:=Lib.hid (hF 1)
 have hRB:w.heap.size≤RB:=by omega
 have hRB2:RB<w3.heap.size:=by omega
 have hXB:w.heap.size<w3.heap.size:=by omega
 have hXB1:w.heap.size+1<w3.heap.size:=by omega
 have X0:=Lib.hid x0
 clear hd hF hT hRBe
 go_wp2_with fail
 go_loopw [14] (fun i wr=>∃ j:Nat,i=.int .i64 (j:Nat)∧j≤rs.length∧Hid (RkAt bs rs j)∧Below w3.heap.size w3 wr) (fun i _=>rs.length - (intOf i).toNat)
 case atStart=>exact ⟨0,rfl,Nat.zero_le _,HRK0,Below.refl _ _⟩
 case round=>
  clear x0
  obtain ⟨j,rfl,hj,hrk,hb⟩:=hrel
  have hj0:(0:Int)≤(j:Int):=by omega
  have HBW:Hid (Below w.heap.size w wr):=Lib.hid (HB3.out.trans (hb.mono HB3.out.size))
  have HB:=Lib.hid hb
  by_cases hlt:j<rs.length
  ·have hd1:decide ((j:Int)<(rs.length:Int))=true:=decide_eq_true (by omega)
   have hwr1:IntKind.i64.wrap ((j:Int)+1)=(j:Int)+1:=by rw [IntKind.wrap_i64]; omega
   have hd2:decide (j<rs.length)=true:=decide_eq_true hlt
   have hjl:(j:Int)<(rs.length:Int):=by omega
   obtain ⟨b,off,k,o,n,v,A1,m1,c1,k2,o2,n2,v2,A2,m2,c2,rfl,hb1,hL1,hL2,y0,y1,y2,y3,y4,y5,y6,y7,y8,y9⟩:=(HP.out.below' HBW.out hB).at_ j hlt
   have hO4:=one_new wr #[.int .i64 k,.int .i64 o,.string n,.int .i64 v,.slice A1 m1 c1,.int .i64 k2,.int .i64 o2,.string n2,.int .i64 v2,.slice A2 m2 c2] 40
   have HE1:Hid (∀ W,Below wr.heap.size wr W→Calls Tryz.prog 63 #[.agg (exC k o n v A1 m1 c1).toArray,.slice Ab bs.length cb] W (Ret (ansV (evalE bs rs[j].cond)) W)):=Lib.hid (fun W hW=>HEV.out rs[j].cond B _ wr W HBW.out hW hL1 hB)
   have HE2:Hid (∀ W,Below wr.heap.size wr W→Calls Tryz.prog 63 #[.agg (exC k2 o2 n2 v2 A2 m2 c2).toArray,.slice Ab bs.length cb] W (Ret (ansV (evalE bs rs[j].key)) W)):=Lib.hid (fun W hW=>HEV.out rs[j].key B _ wr W HBW.out hW hL2 hB)
   have HNX:Hid (keyR bs rs[j]=none→RkAt bs rs (j+1)):=Lib.hid (fun h=>rk_none hrk.out hlt h)
   have HYS:Hid (∀ q,keyR bs rs[j]=some q→rankR rs bs=((j:Int),q)):=Lib.hid (fun q h=>rk_some hrk.out hlt h)
   have HN1:Hid (∀ f,evalE bs rs[j].cond=.er f→f≠0):=Lib.hid (fun f h=>evalE_ne _ _ _ h)
   have HN2:Hid (∀ f,evalE bs rs[j].key=.er f→f≠0):=Lib.hid (fun f h=>evalE_ne _ _ _ h)
   have HKR:Hid (keyR bs rs[j]=match evalE bs rs[j].cond with | .er _=>none | .ok n=>if n=1 then (match evalE bs rs[j].key with | .er _=>none | .ok k=>some k) else none):=Lib.hid rfl
   generalize keyR bs rs[j]=kr at HNX HYS HKR
   unfold exC ansV Ret at HE1 HE2
   have hzw:=Nat.lt_of_lt_of_le hXB hb.size
   clear hb hrk hL1 hL2
   go_upto_region 4 with fail
   clear y0 y1 y2 y3 y4 y5 y6 y7 y8 y9
   generalize wr.alloc _=w4 at hO4 ⊢
   obtain ⟨q0,q1,q2,q3,q4,q5,q6,q7,q8,q9⟩:=bx10 hO4.fst
   generalize evalE bs rs[j].cond=ac at HE1 HN1 HKR
   generalize evalE bs rs[j].key=ak at HE2 HN2 HKR
   cases ac with
   | er f=>
    have hf0:=HN1.out f rfl
    have e1:((f:Int) != 0)=true:=by simpa using hf0
    have e2:(f != 0)=true:=by simpa using hf0
    have e3:((f:Int) == 0)=false:=by simpa using hf0
    have e4:(f == 0)=false:=by simpa using hf0
    simp only [Ans.n,Ans.f] at HE1
    clear hf0
    go_wp2_with fail
    refine (HE1.out _ hO4.below).mono ?_
    rintro e w5 ⟨rfl,hb5⟩
    clear q0 q1 q2 q3 q4 q5 q6 q7 q8 q9
    replace hO4:=hO4.next hb5
    clear hb5
    have HKV:Hid (kr=none):=Lib.hid (by rw [HKR.out] <;> rfl)
    have HBN:=Lib.hid (HB.out.trans (hO4.below.mono HB.out.size))
    clear hO4
    go_wp2_with fail
    exact ⟨⟨j+1,by go_num,by omega,Lib.hid (HNX.out HKV.out),HBN.out⟩,by simp [intOf]; omega⟩
   | ok n1=>
    simp only [Ans.n,Ans.f] at HE1
    by_cases h1:n1=1
    rotate_left
    ·have e1:(n1 != 1)=true:=by simpa using h1
     have HKV0:Hid (kr=none):=Lib.hid (by rw [HKR.out]; simp only; rw [if_neg h1])
     clear h1
     go_wp2_with fail
     refine (HE1.out _ hO4.below).mono ?_
     rintro e w5 ⟨rfl,hb5⟩
     clear q0 q1 q2 q3 q4 q5 q6 q7 q8 q9
     replace hO4:=hO4.next hb5
     clear hb5
     have HKV:Hid (kr=none):=Lib.hid (HKV0.out)
     have HBN:=Lib.hid (HB.out.trans (hO4.below.mono HB.out.size))
     clear hO4
     go_wp2_with fail
     exact ⟨⟨j+1,by go_num,by omega,Lib.hid (HNX.out HKV.out),HBN.out⟩,by simp [intOf]; omega⟩
    ·subst h1
     go_wp2_with fail
     refine (HE1.out _ hO4.below).mono ?_
     rintro e w5 ⟨rfl,hb5⟩
     clear q0 q1 q2 q3 q4 q5 q6 q7 q8 q9
     replace hO4:=hO4.next hb5
     clear hb5
     obtain ⟨q0,q1,q2,q3,q4,q5,q6,q7,q8,q9⟩:=bx10 hO4.fst
     cases ak with
     | er g=>
      have hg0:=HN2.out g rfl
      have e5:((g:Int) == 0)=false:=by simpa using hg0
      have e6:(g == 0)=false:=by simpa using hg0
      simp only [Ans.n,Ans.f] at HE2
      clear hg0
      go_wp2_with fail
      refine (HE2.out _ hO4.below).mono ?_
      rintro e w6 ⟨rfl,hb6⟩
      clear q0 q1 q2 q3 q4 q5 q6 q7 q8 q9
      replace hO4:=hO4.next hb6
      clear hb6
      have HKV:Hid (kr=none):=Lib.hid (by rw [HKR.out] <;> rfl)
      have HBN:=Lib.hid (HB.out.trans (hO4.below.mono HB.out.size))
      clear hO4
      go_wp2_with fail
      exact ⟨⟨j+1,by go_num,by omega,Lib.hid (HNX.out HKV.out),HBN.out⟩,by simp [intOf]; omega⟩
     | ok kv=>
      simp only [Ans.n,Ans.f] at HE2
      go_wp2_with fail
      refine (HE2.out _ hO4.below).mono ?_
      rintro e w6 ⟨rfl,hb6⟩
      clear q0 q1 q2 q3 q4 q5 q6 q7 q8 q9
      replace hO4:=hO4.next hb6
      clear hb6
      have HV:Hid (rankR rs bs=((j:Int),kv)):=Lib.hid (HYS.out kv (by rw [HKR.out] <;> rfl))
      have hbn:=HB.out.trans (hO4.below.mono HB.out.size)
      have d0:=(hbn.cell (p:=⟨RB,0,none⟩) hRB2).trans D0.out
      have d1:=(hbn.cell (p:=⟨RB,1,none⟩) hRB2).trans D1.out
      have g0:=(hbn.frozen (p:=⟨RB,0,none⟩) hRB2).trans G0.out
      have g1:=(hbn.frozen (p:=⟨RB,1,none⟩) hRB2).trans G1.out
      have hbw:=HB3.out.trans (hbn.mono HB3.out.size)
      clear hbn hO4
      go_wp2_with fail
      obtain ⟨s0,s1⟩:=set2 d0 d1 (.int .i64 (j:Int)) (.int .i64 kv)
      have hby:=(hbw.setCell (p:=⟨RB,0,none⟩) hRB (.int .i64 (j:Int))).setCell (p:=⟨RB,1,none⟩) hRB (.int .i64 kv)
      clear d0 d1 g0 g1
      generalize World.setCell _ _ _=w9 at s0 s1 hby ⊢
      refine bodyPost_ret (v:=.agg #[.int .i64 (j:Int),.int .i64 kv]) (results_cell1 rfl rfl (by go_simp)) rfl ⟨by rw [HV.out],hby⟩
  ·have hd1:decide ((j:Int)<(rs.length:Int))=false:=decide_eq_false (by omega)
   have hd2:decide (j<rs.length)=false:=decide_eq_false hlt
   have HV:Hid (rankR rs bs=((rs.length:Int),0)):=Lib.hid (rk_end hrk.out (by omega))
   have x0:=(hb.cell (p:=⟨w.heap.size,0,none⟩) hXB).trans X0.out
   have d0:=(hb.cell (p:=⟨RB,0,none⟩) hRB2).trans D0.out
   have d1:=(hb.cell (p:=⟨RB,1,none⟩) hRB2).trans D1.out
   have g0:=(hb.frozen (p:=⟨RB,0,none⟩) hRB2).trans G0.out
   have g1:=(hb.frozen (p:=⟨RB,1,none⟩) hRB2).trans G1.out
   have hbw:=HBW.out
   clear hrk
   go_wp2_with fail
   obtain ⟨s0,s1⟩:=set2 d0 d1 (.int .i64 (rs.length:Int)) (.int .i64 0)
   have hby:=(hbw.setCell (p:=⟨RB,0,none⟩) hRB (.int .i64 (rs.length:Int))).setCell (p:=⟨RB,1,none⟩) hRB (.int .i64 0)
   clear d0 d1 g0 g1
   generalize World.setCell _ _ _=w9 at s0 s1 hby ⊢
   refine bodyPost_ret (v:=.agg #[.int .i64 (rs.length:Int),.int .i64 0]) (results_cell1 rfl rfl (by go_simp)) rfl ⟨by rw [HV.out],hby⟩
end Go.Proofs.YtmbffkemfepekaaGreatDoor

namespace Go.Proofs.YtmbffkemfepekaaGreatDoor
open Go.RowKit
set_option maxRecDepth 100000 in
theorem fit1_any (na nb:ByteArray) (ta tb va vb:Int) (w:World) :
  Calls Tryz.prog 62 #[.agg #[.string na,.int .i64 ta,.int .i64 va],.agg #[.string nb,.int .i64 tb,.int .i64 vb]] w (Ret (.bool (fitB ⟨nb,tb⟩ ⟨na,ta,va⟩)) w):=by
 have key:∀ b:Bool,b=fitB ⟨nb,tb⟩ ⟨na,ta,va⟩→Ending.returned (.bool b)=Ending.returned (.bool (fitB ⟨nb,tb⟩ ⟨na,ta,va⟩)):=fun b h=>by rw [h]
 have hn:(na == nb)=(na.toList == nb.toList):=by rw [beq_toListBytes]
 have hO:=two_new w #[.string na,.int .i64 ta,.int .i64 va] #[.string nb,.int .i64 tb,.int .i64 vb] 89 89
 unfold Ret
 go_enter Tryz.func62,Tryz.ntmps62
 go_wp2_with fail
 all_goals (go_ret; refine ⟨key _ ?_,(two_new w _ _ _ _).below⟩; unfold fitB; dsimp only; rw [hn]; clear hn hO; simp_all)
 ·rw [Bool.eq_iff_iff]; simp; omega
 ·omega
end Go.Proofs.YtmbffkemfepekaaGreatDoor

namespace Go.Proofs.YtmbffkemfepekaaGreatDoor
open Go.RowKit
def eqF (l ks:List Bd):Bool:=l.length == ks.length && (ks.zip l).all fun x=>fitB ⟨x.1.name,x.1.ty⟩ x.2
theorem eqF_kd (l:List Bd):eqF l kdB=fits l:=by
 unfold eqF fits
 rw [show kdB.length=11 from rfl]
 congr 1
 have:∀ (ks:List Kd) (l:List Bd),(((ks.map fun k=>(⟨k.name,k.ty,0⟩:Bd)).zip l).all fun x=>fitB ⟨x.1.name,x.1.ty⟩ x.2)=(ks.zip l).all fun x=>fitB x.1 x.2:=by
  intro ks
  induction ks with
  | nil=>intro l; rfl
  | cons k ks ih=>
   intro l
   cases l with
   | nil=>rfl
   | cons b l=>simp only [List.map_cons,List.zip_cons_cons,List.all_cons,ih]
 exact this kds l
theorem eqF_len {l ks:List Bd} (h:l.length≠ks.length):eqF l ks=false:=by
 unfold eqF
 rw [show (l.length == ks.length)=false from by simpa using h]; rfl
theorem eqF_no {l ks:List Bd} {k:Nat} (h1:k<l.length) (h2:k<ks.length) (hf:fitB ⟨ks[k].name,ks[k].ty⟩ l[k]=false):eqF l ks=false:=by
 unfold eqF
 rw [Bool.and_eq_false_iff]
 right
 rw [List.all_eq_false]
 have h3:k<(ks.zip l).length:=by rw [List.length_zip]; omega
 refine ⟨(ks[k],l[k]),?_,by simpa using hf⟩
 have:=List.getElem_mem h3
 rwa [List.getElem_zip] at this
theorem eqF_yes {l ks:List Bd} (h:l.length=ks.length) (hf:∀ (k:Nat) (h1:k<l.length) (h2:k<ks.length),fitB ⟨ks[k].name,ks[k].ty⟩ l[k]=true):eqF l ks=true:=by
 unfold eqF
 rw [show (l.length == ks.length)=true from by simpa using h,Bool.true_and,List.all_eq_true]
 intro x hx
 obtain ⟨k,hk,rfl⟩:=List.getElem_of_mem hx
 rw [List.length_zip] at hk
 rw [List.getElem_zip]
 exact hf k (by omega) (by omega)
set_option maxRecDepth 100000 in
set_option maxHeartbeats 3200000 in
theorem eqf_any (A1 A2:Option Addr) (c1 c2 B1 B2:Nat) (l ks:List Bd) (w:World) (h1:RdB w B1 A1 l) (hB1:B1≤w.heap.size) (h2:RdB w B2 A2 ks) (hB2:B2≤w.heap.size) (hl:l.length≤9223372036854775807) :
  Calls Tryz.prog 61 #[.slice A1 l.length c1,.slice A2 ks.length c2,.func (.func 62) #[] #[]] w (Ret (.bool (eqF l ks)) w):=by
 have H1:=Lib.hid h1
 have H2:=Lib.hid h2
 unfold Ret
 clear h1 h2
 by_cases hne:l.length=ks.length
 rotate_left
 ·have e1:((l.length:Int) != (ks.length:Int))=true:=by simpa using (by omega:¬ (l.length:Int)=(ks.length:Int))
  have e2:(l.length != ks.length)=true:=by simpa using hne
  have HV:=Lib.hid (eqF_len hne)
  clear hne
  go_enter Tryz.func61,Tryz.ntmps61
  go_wp2_with fail
  go_ret
  exact ⟨by rw [HV.out]; rfl,Below.refl _ _⟩
 ·have e1:((l.length:Int) != (ks.length:Int))=false:=by simpa using (by omega:(l.length:Int)=(ks.length:Int))
  have e2:(l.length != ks.length)=false:=by simpa using hne
  have HNE:=Lib.hid hne
  clear hne
  go_enter Tryz.func61,Tryz.ntmps61
  go_wp2_with fail
  go_loopw [6,17] (fun r i wr=>r=.bool false∧∃ k:Nat,i=.int .i64 (k:Nat)∧k≤l.length∧Hid (∀ (j:Nat) (h1:j<l.length) (h2:j<ks.length),j<k→fitB ⟨ks[j].name,ks[j].ty⟩ l[j]=true)∧Below w.heap.size w wr) (fun _ i _=>l.length - (intOf i).toNat)
  case atStart=>exact ⟨rfl,0,rfl,by omega,Lib.hid (fun j h1 h2 h=>by omega),Below.refl _ _⟩
  case round=>
   obtain ⟨rfl,k,rfl,hk,hall,hb⟩:=hrel
   have hk0:(0:Int)≤(k:Int):=by omega
   by_cases hlk:k<l.length
   ·have hd1:decide ((k:Int)<(l.length:Int))=true:=decide_eq_true (by omega)
    have hwr1:IntKind.i64.wrap ((k:Int)+1)=(k:Int)+1:=by rw [IntKind.wrap_i64]; omega
    have hd2:decide (k<l.length)=true:=decide_eq_true hlk
    have hkl:(k:Int)<(l.length:Int):=by omega
    have hlk2:k<ks.length:=by have:=HNE.out; omega
    have hkl2:(k:Int)<(ks.length:Int):=by omega
    have hR1:RdB wr B1 A1 l:=Rd.below' H1.out hb hB1
    have hR2:RdB wr B2 A2 ks:=Rd.below' H2.out hb hB2
    obtain ⟨b,off,rfl,hbB,y0,y1,y2⟩:=hR1.at_ hlk
    obtain ⟨b',off',rfl,hbB',z0,z1,z2⟩:=hR2.at_ hlk2
    have HYES:Hid (fitB ⟨ks[k].name,ks[k].ty⟩ l[k]=true→∀ (j:Nat) (h1:j<l.length) (h2:j<ks.length),j<k+1→fitB ⟨ks[j].name,ks[j].ty⟩ l[j]=true):=Lib.hid (fun e j h1 h2 hjk=>by
     by_cases e2:j=k
     ·subst e2; exact e
     ·exact hall.out j h1 h2 (by omega))
    have HNO:Hid (fitB ⟨ks[k].name,ks[k].ty⟩ l[k]=false→eqF l ks=false):=Lib.hid (fun e=>eqF_no hlk hlk2 e)
    have hO:=two_new wr #[.string l[k].name,.int .i64 l[k].ty,.int .i64 l[k].val] #[.string ks[k].name,.int .i64 ks[k].ty,.int .i64 ks[k].val] 89 89
    have HF:Hid (∀ W,Calls Tryz.prog 62 #[.agg #[.string l[k].name,.int .i64 l[k].ty,.int .i64 l[k].val],.agg #[.string ks[k].name,.int .i64 ks[k].ty,.int .i64 ks[k].val]] W (Ret (.bool (fitB ⟨ks[k].name,ks[k].ty⟩ l[k])) W)):=Lib.hid (fun W=>fit1_any _ _ _ _ _ _ W)
    have HB:=Lib.hid hb
    generalize hq:fitB ⟨ks[k].name,ks[k].ty⟩ l[k]=q at HF HYES HNO
    have HQ:=Lib.hid hq
    have z0a:=fun ob=>(World.cell?_alloc_lt wr ob ⟨b',off'+k * 3,none⟩ (World.block_lt_of_cell? _ _ z0)).trans z0
    have z1a:=fun ob=>(World.cell?_alloc_lt wr ob ⟨b',off'+k * 3+1,none⟩ (World.block_lt_of_cell? _ _ z1)).trans z1
    have z2a:=fun ob=>(World.cell?_alloc_lt wr ob ⟨b',off'+k * 3+2,none⟩ (World.block_lt_of_cell? _ _ z2)).trans z2
    generalize l[k].name=nmk at y0 HF hO
    generalize l[k].ty=tyk at y1 HF hO
    generalize l[k].val=vk at y2 HF hO
    generalize ks[k].name=nmj at z0a HF hO
    generalize ks[k].ty=tyj at z1a HF hO
    generalize ks[k].val=vj at z2a HF hO
    unfold Ret at HF
    clear hb hall hq hR1 hR2 z0 z1 z2
    go_upto_region 7 with fail
    clear y0 y1 y2 z0a z1a z2a
    generalize World.alloc _ _=w4 at hO ⊢
    obtain ⟨x0,x1,x2⟩:=bx3 hO.fst
    obtain ⟨u0,u1,u2⟩:=bx3 hO.snd
    have HO:=Lib.hid (HB.out.trans (hO.below.mono HB.out.size))
    clear hO
    cases q with
    | true=>
     go_wp2_with (go_at_call 62; refine (HF.out _).mono ?_; rintro e w5 ⟨rfl,hb5⟩)
     exact ⟨⟨rfl,k+1,by go_num,by omega,Lib.hid (HYES.out (by first | rfl | exact True.intro)),HO.out.trans (hb5.mono HO.out.size)⟩,by simp [intOf]; omega⟩
    | false=>
     go_wp2_with (go_at_call 62; refine (HF.out _).mono ?_; rintro e w5 ⟨rfl,hb5⟩)
     go_ret
     exact ⟨by rw [HNO.out (by first | rfl | exact True.intro)]; rfl,HO.out.trans (hb5.mono HO.out.size)⟩
   ·have hd1:decide ((k:Int)<(l.length:Int))=false:=decide_eq_false (by omega)
    have hd2:decide (k<l.length)=false:=decide_eq_false hlk
    have HV:Hid (eqF l ks=true):=Lib.hid (eqF_yes HNE.out fun j h1 h2=>hall.out j h1 h2 (by omega))
    clear hall
    go_wp2_with fail
    go_ret
    exact ⟨by rw [HV.out]; rfl,hb⟩
set_option maxRecDepth 100000 in
set_option maxHeartbeats 1600000 in
theorem fits_any (A:Option Addr) (c B:Nat) (l:List Bd) (w:World) (h:RdB w B A l) (hB:B≤w.heap.size) (hl:l.length≤9223372036854775807) :
  Calls Tryz.prog 33 #[.slice A l.length c] w (Ret (.bool (fits l)) w):=by
 have HK:=Lib.hid (kinds_any w)
 have H:=Lib.hid h
 have HE:=Lib.hid (eqF_kd l)
 unfold KdsR at HK
 unfold Ret
 clear h
 obtain ⟨ks,hks⟩:∃ ks,ks=kdB:=⟨_,rfl⟩
 rw [← hks] at HK HE
 clear hks
 go_enter Tryz.func33,Tryz.ntmps33
 go_wp2_with fail
 refine HK.out.mono ?_
 rintro e w1 ⟨A2,c2,rfl,hb1,hR⟩
 have HC:=Lib.hid (eqf_any A A2 c c2 B w1.heap.size l ks w1 (Rd.below' H.out hb1 hB) (Nat.le_trans hB hb1.size) hR (Nat.le_refl _) hl)
 unfold Ret at HC
 clear hR HK
 go_wp2_with fail
 refine HC.out.mono ?_
 rintro e w2 ⟨rfl,hb2⟩
 clear HC
 go_wp2_with fail
 go_ret
 exact ⟨by rw [HE.out]; rfl,hb1.trans (hb2.mono hb1.size)⟩
end Go.Proofs.YtmbffkemfepekaaGreatDoor
