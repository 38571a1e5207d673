/- nurseryref09.IsName at a valid name, walked. Conditions: the name is valid. -/
import Derived.Test.YtedpopbaipnamaaGreatDoorPoNam
import Derived.Test.YtedpopbaipnamaaGreatDoorPoGr2
import Derived.BigQuiet
namespace Go.Proofs.YtedpopbaipnamaaGreatDoor
open Go.RowKit
theorem nmB_parts {s:ByteArray} (h:nmB s=true):1≤s.size∧s.size≤30∧∀ (j:Nat) (hj:j<s.size),inB s[j]=true∧(j=0→letB s[j]=true):=by
 have hl:s.data.toList.length=s.size:=by simp
 unfold nmB nmL at h
 rw [hl] at h
 simp only [Bool.and_eq_true,decide_eq_true_eq] at h
 obtain ⟨⟨⟨h1,h2⟩,h3⟩,h4⟩:=h
 refine ⟨h1,h2,fun j hj=>?_⟩
 have hg:=get_list s j hj
 refine ⟨List.all_eq_true.1 h4 _ (List.mem_of_getElem? hg),fun h0=>?_⟩
 subst h0
 cases e:s.data.toList with
 | nil=>rw [e] at hg; simp at hg
 | cons c r=>
  rw [e] at hg h3
  simp at hg h3
  rw [← hg]; exact h3
set_option maxRecDepth 100000 in
set_option maxHeartbeats 1600000 in
theorem rname_yes (s:ByteArray) (h:nmB s=true) (w:World):Calls Tryz.prog 65 #[.string s] w fun e W=>e=.returned (.bool true)∧W=w:=by
 obtain ⟨h1,h2,hc⟩:=nmB_parts h
 have HC:=Lib.hid hc
 have e0:s.toList.isEmpty=false:=by
  have:=str_nl (n:=s) (by omega:¬ s.size=0)
  simpa using this
 have e1:decide ((s.size:Int) > 30)=false:=decide_eq_false (by omega)
 have e2:decide (30<(s.size:Int))=false:=decide_eq_false (by omega)
 have e3:decide (30<s.size)=false:=decide_eq_false (by omega)
 clear hc h
 go_enter Tryz.func65,Tryz.ntmps65
 go_wp2_with fail
 go_loopw [3] (fun i wr=>wr=w∧∃ j:Nat,i=.int .i64 (j:Nat)∧j≤s.size) (fun i _=>s.size - (intOf i).toNat)
 case atStart=>exact ⟨rfl,0,rfl,Nat.zero_le _⟩
 case round=>
  obtain ⟨rfl,j,rfl,hj⟩:=hrel
  have hj0:(0:Int)≤(j:Int):=by omega
  by_cases hlt:j<s.size
  ·have hd1:decide ((j:Int)<(s.size:Int))=true:=decide_eq_true (by omega)
   have hd2:decide (j<s.size)=true:=decide_eq_true hlt
   have hjl:(j:Int)<(s.size:Int):=by omega
   have hwr1:IntKind.i64.wrap ((j:Int)+1)=(j:Int)+1:=by rw [IntKind.wrap_i64]; omega
   obtain ⟨g1,g2⟩:=HC.out j hlt
   have hlen:=hlt
   unfold inB letB digB at g1
   unfold letB at g2
   simp only [Bool.or_eq_true,Bool.and_eq_true,decide_eq_true_eq,beq_iff_eq] at g1 g2
   generalize hcd:(s[j]'hlt).toNat=c at g1 g2
   have hcd2:s[j]!.toNat=c:=by rw [getElem!_pos s j hlt]; exact hcd
   by_cases hle:97≤c∧c≤122
   ·have a1:decide ((c:Int) ≥ 97)=true:=decide_eq_true (by omega)
    have a2:decide (97≤(c:Int))=true:=decide_eq_true (by omega)
    have a3:decide (97≤c)=true:=decide_eq_true hle.1
    have a4:decide ((c:Int)≤122)=true:=decide_eq_true (by omega)
    have a5:decide (c≤122)=true:=decide_eq_true hle.2
    clear g1 g2
    go_wp2_with fail
    exact ⟨⟨trivial,j+1,by go_num,by omega⟩,by simp [intOf]; omega⟩
   ·have hj1:j≠0:=fun h=>hle (g2 h)
    have hc1:(48≤c∧c≤57)∨c=95:=by omega
    have a1:decide ((c:Int) ≥ 97)=false:=decide_eq_false (by omega)
    have a2:decide (97≤(c:Int))=false:=decide_eq_false (by omega)
    have a3:decide (97≤c)=false:=decide_eq_false (by omega)
    have b1:((j:Int) == 0)=false:=by simpa using hj1
    have b2:(j == 0)=false:=by simpa using hj1
    have b3:decide ((c:Int) ≥ 48)=true:=decide_eq_true (by omega)
    have b4:decide (48≤(c:Int))=true:=decide_eq_true (by omega)
    have b5:decide (48≤c)=true:=decide_eq_true (by omega)
    clear g1 g2
    rcases hc1 with hc1 | rfl
    ·have b6:decide ((c:Int)≤57)=true:=decide_eq_true (by omega)
     have b7:decide (c≤57)=true:=decide_eq_true hc1.2
     go_wp2_with fail
     exact ⟨⟨trivial,j+1,by go_num,by omega⟩,by simp [intOf]; omega⟩
    ·go_wp2_with fail
     exact ⟨⟨trivial,j+1,by go_num,by omega⟩,by simp [intOf]; omega⟩
  ·have hd1:decide ((j:Int)<(s.size:Int))=false:=decide_eq_false (by omega)
   have hd2:decide (j<s.size)=false:=decide_eq_false hlt
   go_wp2_with fail
   go_ret
   exact ⟨rfl,rfl⟩
end Go.Proofs.YtedpopbaipnamaaGreatDoor

namespace Go.Proofs.YtedpopbaipnamaaGreatDoor
open Go.RowKit
theorem szL_eq {zs:List Ex} (h:∀ a∈zs,∀ n,n+nP a≤100→szE a n=n+nP a):∀ n,n+nPL zs≤100→szL zs n=n+nPL zs:=by
 induction zs with
 | nil=>intro n hn; simp [szL,nPL]
 | cons a zs ih=>
  intro n hn
  simp only [nPL] at hn
  simp only [szL]
  rw [if_neg (by omega),h a (by simp) n (by omega),ih (fun b hb=>h b (by simp [hb])) _ (by omega)]
  simp only [nPL]; omega
theorem szE_eq:∀ (e:Ex) (n:Nat),n+nP e≤100→szE e n=n+nP e:=by
 intro e
 induction e using Ex.ind with
 | h k o nm v zs ih=>
  intro n hn
  simp only [nP] at hn
  simp only [szE]
  rw [szL_eq ih (n+1) (by omega)]
  simp only [nP]; omega
theorem sizeE_ok {e:Ex} (h:nP e≤100):sizeE e=nP e:=by
 unfold sizeE
 rw [szE_eq e 0 (by omega),Nat.zero_add,if_neg (by omega)]
set_option maxRecDepth 100000 in
set_option maxHeartbeats 3200000 in
theorem depth_any:∀ (e:Ex) (lo:Nat) (vs:List Value) (w:World),dP e≤100→LiesE w lo vs e→lo≤w.heap.size →
  Calls Tryz.prog 138 #[.agg vs.toArray] w (Ret (.int .i64 (dP e:Nat)) w):=by
 intro e
 induction e using Ex.ind with
 | h k o nm v xs ih=>
  intro lo vs w hd hL hlo
  obtain ⟨A,cap,rfl,bd,harg⟩:=hL.arg
  have hO:=one_new w #[.int .i64 k,.int .i64 o,.string nm,.int .i64 v,.slice A xs.length cap] 45
  have HARG:=Lib.hid harg
  have HIH:=Lib.hid (fun a ha=>ih a ha)
  have hbd:=bd.2.2.2.2.1
  simp only [Ex.kind,Ex.op,Ex.name,Ex.val,Ex.args] at HARG hbd ⊢
  have HR:Hid (dP (.mk k o nm v xs)=dPL xs+1):=Lib.hid (by simp [dP])
  have HD:Hid (dPL xs≤99):=Lib.hid (by have:=HR.out; omega)
  generalize dP (.mk k o nm v xs)=R at HR ⊢
  clear harg ih hL bd hd
  unfold exC Ret
  go_enter Tryz.func138,Tryz.ntmps138
  go_upto_region 1 with fail
  generalize w.alloc _=w1 at hO ⊢
  obtain ⟨x0,x1,x2,x3,x4⟩:=bx5 hO.fst
  go_wp2_with fail
  go_loopw [3,4] (fun n i wr=>∃ j:Nat,i=.int .i64 (j:Nat)∧n=.int .i64 (dPL (xs.take j):Nat)∧j≤xs.length∧Below w1.heap.size w1 wr) (fun _ i _=>xs.length - (intOf i).toNat)
  case atStart=>exact ⟨0,rfl,rfl,Nat.zero_le _,Below.refl _ _⟩
  case round=>
   clear x0 x1 x2 x3 x4
   obtain ⟨j,rfl,rfl,hj,hb⟩:=hrel
   have hj0:(0:Int)≤(j:Int):=by omega
   have hOr:=hO.next hb
   obtain ⟨x0,x1,x2,x3,x4⟩:=bx5 hOr.fst
   have HBW:=Lib.hid hOr.below
   have HB:=Lib.hid hb
   clear hOr hb
   by_cases hlt:j<xs.length
   ·have hd1:decide ((j:Int)<(xs.length:Int))=true:=decide_eq_true (by omega)
    have hwr1:IntKind.i64.wrap ((j:Int)+1)=(j:Int)+1:=by rw [IntKind.wrap_i64]; omega
    have hd2:decide (j<xs.length)=true:=decide_eq_true hlt
    have hjl:(j:Int)<(xs.length:Int):=by omega
    obtain ⟨b1,off,k1,o1,n1,v1,A1,m1,cap1,rfl,hb1,hL1,y0,y1,y2,y3,y4⟩:=HARG.out j hlt
    have z0:=(HBW.out.cell (p:=⟨b1,off+j * 5,none⟩) (by show b1<w.heap.size; omega)).trans y0
    have z1:=(HBW.out.cell (p:=⟨b1,off+j * 5+1,none⟩) (by show b1<w.heap.size; omega)).trans y1
    have z2:=(HBW.out.cell (p:=⟨b1,off+j * 5+2,none⟩) (by show b1<w.heap.size; omega)).trans y2
    have z3:=(HBW.out.cell (p:=⟨b1,off+j * 5+3,none⟩) (by show b1<w.heap.size; omega)).trans y3
    have z4:=(HBW.out.cell (p:=⟨b1,off+j * 5+4,none⟩) (by show b1<w.heap.size; omega)).trans y4
    have hm:=dP_le_mem (List.getElem_mem hlt)
    have hs:=HIH.out xs[j] (List.getElem_mem _) lo _ wr (by have:=HD.out; omega) (hL1.below' HBW.out hlo) (Nat.le_trans hlo HBW.out.size)
    unfold exC Ret at hs
    have HS:=Lib.hid hs
    have HT:=Lib.hid (dP_take xs j hlt)
    generalize dPL (xs.take j)=m at HT ⊢
    generalize dP xs[j]=q at HS HT
    clear hs hL1 y0 y1 y2 y3 y4 hm
    by_cases hqm:m<q
    ·have c1:decide ((q:Int) > (m:Int))=true:=decide_eq_true (by omega)
     have c2:decide ((m:Int)<(q:Int))=true:=decide_eq_true (by omega)
     have c3:decide (m<q)=true:=decide_eq_true hqm
     have HM:Hid (dPL (xs.take (j+1))=q):=Lib.hid (by rw [HT.out]; omega)
     clear hqm
     go_wp2_with fail
     refine HS.out.mono ?_
     rintro e w5 ⟨rfl,hb5⟩
     have HB5:=Lib.hid (HB.out.trans (hb5.mono HB.out.size))
     clear HS hb5 x0 x1 x2 x3 x4 z0 z1 z2 z3 z4
     go_wp2_with fail
     exact ⟨⟨j+1,by go_num,by rw [HM.out],by omega,HB5.out⟩,by simp [intOf]; omega⟩
    ·have c1:decide ((q:Int) > (m:Int))=false:=decide_eq_false (by omega)
     have c2:decide ((m:Int)<(q:Int))=false:=decide_eq_false (by omega)
     have c3:decide (m<q)=false:=decide_eq_false hqm
     have HM:Hid (dPL (xs.take (j+1))=m):=Lib.hid (by rw [HT.out]; omega)
     clear hqm
     go_wp2_with fail
     refine HS.out.mono ?_
     rintro e w5 ⟨rfl,hb5⟩
     have HB5:=Lib.hid (HB.out.trans (hb5.mono HB.out.size))
     clear HS hb5 x0 x1 x2 x3 x4 z0 z1 z2 z3 z4
     go_wp2_with fail
     exact ⟨⟨j+1,by go_num,by rw [HM.out],by omega,HB5.out⟩,by simp [intOf]; omega⟩
   ·have hd1:decide ((j:Int)<(xs.length:Int))=false:=decide_eq_false (by omega)
    have hd2:decide (j<xs.length)=false:=decide_eq_false hlt
    have HQ:Hid (dPL (xs.take j)=dPL xs):=Lib.hid (by rw [List.take_of_length_le (by omega)])
    rw [HQ.out]
    have HN:IntKind.i64.wrap ((dPL xs:Int)+1)=(R:Nat):=by rw [IntKind.wrap_i64]; have:=HD.out; have:=HR.out; omega
    clear HQ
    go_wp2_with fail
    go_ret
    exact ⟨rfl,HBW.out⟩
end Go.Proofs.YtedpopbaipnamaaGreatDoor

namespace Go.Proofs.YtedpopbaipnamaaGreatDoor
open Go.RowKit
set_option maxRecDepth 100000 in
set_option maxHeartbeats 3200000 in
theorem part_num (v:Int) (hv:0≤v∧v≤1099511627776) (A:Option Addr) (c:Nat) (w:World):Calls Tryz.prog 161 #[.agg #[.int .i64 1,.int .i64 0,.string ⟨#[]⟩,.int .i64 v,.slice A 0 c]] w (Ret (.int .i64 0) w):=by
 have hO:=one_new w #[.int .i64 1,.int .i64 0,.string ⟨#[]⟩,.int .i64 v,.slice A 0 c] 45
 have c1:decide (v<0)=false:=decide_eq_false (by omega)
 have c2:decide (v > 1099511627776)=false:=decide_eq_false (by omega)
 have c3:decide (1099511627776<v)=false:=decide_eq_false (by omega)
 unfold Ret
 go_enter Tryz.func161,Tryz.ntmps161
 go_upto_region 1 with fail
 generalize w.alloc _=w1 at hO ⊢
 obtain ⟨x0,x1,x2,x3,x4⟩:=bx5 hO.fst
 have HB:=Lib.hid hO.below
 clear hO
 go_upto_region 3 with fail
 go_quiet (fail)
 go_wp2_with fail
 go_ret
 exact ⟨rfl,HB.out.trans (below_drews _ _ _)⟩
set_option maxRecDepth 100000 in
set_option maxHeartbeats 3200000 in
theorem part_name (n:ByteArray) (hn:nmB n=true) (A:Option Addr) (c:Nat) (w:World):Calls Tryz.prog 161 #[.agg #[.int .i64 2,.int .i64 0,.string n,.int .i64 0,.slice A 0 c]] w (Ret (.int .i64 0) w):=by
 have hO:=one_new w #[.int .i64 2,.int .i64 0,.string n,.int .i64 0,.slice A 0 c] 45
 have HN:=Lib.hid (fun W=>rname_yes n hn W)
 clear hn
 unfold Ret
 go_enter Tryz.func161,Tryz.ntmps161
 go_upto_region 1 with fail
 generalize w.alloc _=w1 at hO ⊢
 obtain ⟨x0,x1,x2,x3,x4⟩:=bx5 hO.fst
 have HB:=Lib.hid hO.below
 clear hO
 go_upto_region 3 with fail
 go_quiet (fail)
 go_wp2_with (go_at_call 65; refine (HN.out _).mono ?_; rintro e W ⟨rfl,rfl⟩)
 go_ret
 exact ⟨rfl,HB.out.trans (below_drews _ _ _)⟩
set_option maxRecDepth 100000 in
set_option maxHeartbeats 3200000 in
theorem part_neg  (A:Option Addr) (c:Nat) (w:World):Calls Tryz.prog 161 #[.agg #[.int .i64 3,.int .i64 1,.string ⟨#[]⟩,.int .i64 0,.slice A 1 c]] w (Ret (.int .i64 0) w):=by
 have hO:=one_new w #[.int .i64 3,.int .i64 1,.string ⟨#[]⟩,.int .i64 0,.slice A 1 c] 45
 unfold Ret
 go_enter Tryz.func161,Tryz.ntmps161
 go_upto_region 1 with fail
 generalize w.alloc _=w1 at hO ⊢
 obtain ⟨x0,x1,x2,x3,x4⟩:=bx5 hO.fst
 have HB:=Lib.hid hO.below
 clear hO
 go_upto_region 3 with fail
 go_quiet (fail)
 go_wp2_with fail
 go_ret
 exact ⟨rfl,HB.out.trans (below_drews _ _ _)⟩
set_option maxRecDepth 100000 in
set_option maxHeartbeats 3200000 in
theorem part_not  (A:Option Addr) (c:Nat) (w:World):Calls Tryz.prog 161 #[.agg #[.int .i64 3,.int .i64 2,.string ⟨#[]⟩,.int .i64 0,.slice A 1 c]] w (Ret (.int .i64 0) w):=by
 have hO:=one_new w #[.int .i64 3,.int .i64 2,.string ⟨#[]⟩,.int .i64 0,.slice A 1 c] 45
 unfold Ret
 go_enter Tryz.func161,Tryz.ntmps161
 go_upto_region 1 with fail
 generalize w.alloc _=w1 at hO ⊢
 obtain ⟨x0,x1,x2,x3,x4⟩:=bx5 hO.fst
 have HB:=Lib.hid hO.below
 clear hO
 go_upto_region 3 with fail
 go_quiet (fail)
 go_wp2_with fail
 go_ret
 exact ⟨rfl,HB.out.trans (below_drews _ _ _)⟩
set_option maxRecDepth 100000 in
set_option maxHeartbeats 3200000 in
theorem part_bin (o:Int) (ho:3≤o∧o≤15) (A:Option Addr) (c:Nat) (w:World):Calls Tryz.prog 161 #[.agg #[.int .i64 4,.int .i64 o,.string ⟨#[]⟩,.int .i64 0,.slice A 2 c]] w (Ret (.int .i64 0) w):=by
 have hO:=one_new w #[.int .i64 4,.int .i64 o,.string ⟨#[]⟩,.int .i64 0,.slice A 2 c] 45
 have c1:decide (o<3)=false:=decide_eq_false (by omega)
 have c2:decide (o > 15)=false:=decide_eq_false (by omega)
 have c3:decide (15<o)=false:=decide_eq_false (by omega)
 unfold Ret
 go_enter Tryz.func161,Tryz.ntmps161
 go_upto_region 1 with fail
 generalize w.alloc _=w1 at hO ⊢
 obtain ⟨x0,x1,x2,x3,x4⟩:=bx5 hO.fst
 have HB:=Lib.hid hO.below
 clear hO
 go_upto_region 3 with fail
 go_quiet (fail)
 go_wp2_with fail
 go_ret
 exact ⟨rfl,HB.out.trans (below_drews _ _ _)⟩
theorem name_nil {n:ByteArray} (h:n.size=0):n=⟨#[]⟩:=by
 cases n with
 | mk d=>
  have:d=#[]:=Array.eq_empty_of_size_eq_zero h
  rw [this]
theorem part_any (e:Ex) (h:Part e) (A:Option Addr) (c:Nat) (w:World):Calls Tryz.prog 161 #[.agg (exC e.kind e.op e.name e.val A e.args.length c).toArray] w (Ret (.int .i64 0) w):=by
 obtain ⟨lo,hi,hval,hname,hop,hlen,hrange,hnm,hun,hbin⟩:=h
 generalize e.kind=k at *
 generalize e.op=o at *
 generalize e.name=n at *
 generalize e.val=v at *
 generalize e.args.length=m at *
 unfold exC
 have hk:k=1∨k=2∨k=3∨k=4:=by omega
 rcases hk with rfl | rfl | rfl | rfl
 ·obtain rfl:=hop (.inl rfl)
  obtain rfl:=name_nil (hname (by decide))
  obtain rfl:m=0:=hlen
  exact part_num v (hrange rfl) A c w
 ·obtain rfl:=hop (.inr rfl)
  obtain rfl:=hval (by decide)
  obtain rfl:m=0:=hlen
  exact part_name n (hnm rfl) A c w
 ·obtain rfl:=hval (by decide)
  obtain rfl:=name_nil (hname (by decide))
  obtain rfl:m=1:=hlen
  rcases hun rfl with rfl | rfl
  ·exact part_neg A c w
  ·exact part_not A c w
 ·obtain rfl:=hval (by decide)
  obtain rfl:=name_nil (hname (by decide))
  obtain rfl:m=2:=hlen
  exact part_bin o (hbin rfl) A c w
set_option maxRecDepth 100000 in
set_option maxHeartbeats 3200000 in
theorem rparts_any:∀ (e:Ex) (lo:Nat) (vs:List Value) (w:World),Good e→LiesE w lo vs e→lo≤w.heap.size →
  Calls Tryz.prog 139 #[.agg vs.toArray] w (Ret (.int .i64 0) w):=by
 intro e
 induction e using Ex.ind with
 | h k o nm v xs ih=>
  intro lo vs w hg hL hlo
  obtain ⟨A,cap,rfl,bd,harg⟩:=hL.arg
  have hO:=one_new w #[.int .i64 k,.int .i64 o,.string nm,.int .i64 v,.slice A xs.length cap] 45
  have HARG:=Lib.hid harg
  have HIH:=Lib.hid (fun a ha=>ih a ha)
  have HG:=Lib.hid (fun a ha=>hg.arg (a:=a) ha)
  have HPT:=Lib.hid (fun W=>part_any (.mk k o nm v xs) (part_of hg.self) A cap W)
  have hbd:=bd.2.2.2.2.1
  simp only [Ex.kind,Ex.op,Ex.name,Ex.val,Ex.args] at HARG HPT hbd ⊢
  clear harg ih hL bd hg
  unfold exC Ret at HPT
  unfold exC Ret
  go_enter Tryz.func139,Tryz.ntmps139
  go_upto_region 1 with fail
  generalize w.alloc _=w1 at hO ⊢
  obtain ⟨x0,x1,x2,x3,x4⟩:=bx5 hO.fst
  go_wp2_with fail
  refine (HPT.out _).mono ?_
  rintro e w2 ⟨rfl,hb2⟩
  clear x0 x1 x2 x3 x4 HPT
  replace hO:=hO.next hb2
  clear hb2
  go_wp2_with fail
  go_loopw [2,4] (fun r i wr=>r=.int .i64 0∧∃ j:Nat,i=.int .i64 (j:Nat)∧j≤xs.length∧Below w2.heap.size w2 wr) (fun _ i _=>xs.length - (intOf i).toNat)
  case atStart=>exact ⟨rfl,0,rfl,Nat.zero_le _,Below.refl _ _⟩
  case round=>
   obtain ⟨rfl,j,rfl,hj,hb⟩:=hrel
   have hj0:(0:Int)≤(j:Int):=by omega
   have hOr:=hO.next hb
   obtain ⟨x0,x1,x2,x3,x4⟩:=bx5 hOr.fst
   have HBW:=Lib.hid hOr.below
   have HB:=Lib.hid hb
   clear hOr hb
   by_cases hlt:j<xs.length
   ·have hd1:decide ((j:Int)<(xs.length:Int))=true:=decide_eq_true (by omega)
    have hwr1:IntKind.i64.wrap ((j:Int)+1)=(j:Int)+1:=by rw [IntKind.wrap_i64]; omega
    have hd2:decide (j<xs.length)=true:=decide_eq_true hlt
    have hjl:(j:Int)<(xs.length:Int):=by omega
    obtain ⟨b1,off,k1,o1,n1,v1,A1,m1,cap1,rfl,hb1,hL1,y0,y1,y2,y3,y4⟩:=HARG.out j hlt
    have z0:=(HBW.out.cell (p:=⟨b1,off+j * 5,none⟩) (by show b1<w.heap.size; omega)).trans y0
    have z1:=(HBW.out.cell (p:=⟨b1,off+j * 5+1,none⟩) (by show b1<w.heap.size; omega)).trans y1
    have z2:=(HBW.out.cell (p:=⟨b1,off+j * 5+2,none⟩) (by show b1<w.heap.size; omega)).trans y2
    have z3:=(HBW.out.cell (p:=⟨b1,off+j * 5+3,none⟩) (by show b1<w.heap.size; omega)).trans y3
    have z4:=(HBW.out.cell (p:=⟨b1,off+j * 5+4,none⟩) (by show b1<w.heap.size; omega)).trans y4
    have hs:=HIH.out xs[j] (List.getElem_mem _) lo _ wr (HG.out _ (List.getElem_mem _)) (hL1.below' HBW.out hlo) (Nat.le_trans hlo HBW.out.size)
    unfold exC Ret at hs
    have HS:=Lib.hid hs
    clear hs hL1 y0 y1 y2 y3 y4
    go_wp2_with fail
    refine HS.out.mono ?_
    rintro e w5 ⟨rfl,hb5⟩
    have HB5:=Lib.hid (HB.out.trans (hb5.mono HB.out.size))
    clear HS hb5 x0 x1 x2 x3 x4 z0 z1 z2 z3 z4
    go_wp2_with fail
    exact ⟨⟨rfl,j+1,by go_num,by omega,HB5.out⟩,by simp [intOf]; omega⟩
   ·have hd1:decide ((j:Int)<(xs.length:Int))=false:=decide_eq_false (by omega)
    have hd2:decide (j<xs.length)=false:=decide_eq_false hlt
    go_wp2_with fail
    go_ret
    exact ⟨rfl,HBW.out⟩
set_option maxRecDepth 100000 in
set_option maxHeartbeats 3200000 in
theorem rcheck_any (e:Ex) (h:chkE e=0) (lo:Nat) (vs:List Value) (w:World) (hL:LiesE w lo vs e) (hlo:lo≤w.heap.size) :
  Calls Tryz.prog 98 #[.agg vs.toArray] w (Ret (.int .i64 0) w):=by
 obtain ⟨hg,hn,hd⟩:=good_of e h
 have HSZ:=Lib.hid (fun (W:World) (hb:Below w.heap.size w W)=>sizeE_any e lo vs W (hL.below' hb hlo) (Nat.le_trans hlo hb.size))
 have HDP:=Lib.hid (fun (W:World) (hb:Below w.heap.size w W)=>depth_any e lo vs W (by omega) (hL.below' hb hlo) (Nat.le_trans hlo hb.size))
 have HPT:=Lib.hid (fun (W:World) (hb:Below w.heap.size w W)=>rparts_any e lo vs W hg (hL.below' hb hlo) (Nat.le_trans hlo hb.size))
 rw [sizeE_ok hn] at HSZ
 obtain ⟨A,cap,rfl,bd,-⟩:=hL.arg
 have hO:=one_new w #[.int .i64 e.kind,.int .i64 e.op,.string e.name,.int .i64 e.val,.slice A e.args.length cap] 45
 unfold exC Ret at HSZ HDP HPT
 unfold exC Ret
 generalize nP e=p at HSZ hn
 generalize dP e=d at HDP hd
 generalize e.kind=k at *
 generalize e.op=o at *
 generalize e.name=n at *
 generalize e.val=v at *
 generalize e.args.length=m at *
 have c1:decide ((p:Int) > 100)=false:=decide_eq_false (by omega)
 have c2:decide (100<(p:Int))=false:=decide_eq_false (by omega)
 have c3:decide (100<p)=false:=decide_eq_false (by omega)
 have c4:decide ((d:Int) > 12)=false:=decide_eq_false (by omega)
 have c5:decide (12<(d:Int))=false:=decide_eq_false (by omega)
 have c6:decide (12<d)=false:=decide_eq_false (by omega)
 clear hL bd hg h
 go_enter Tryz.func98,Tryz.ntmps98
 go_upto_region 1 with fail
 generalize w.alloc _=w1 at hO ⊢
 obtain ⟨x0,x1,x2,x3,x4⟩:=bx5 hO.fst
 go_wp2_with fail
 refine (HSZ.out _ hO.below).mono ?_
 rintro e2 w2 ⟨rfl,hb2⟩
 clear x0 x1 x2 x3 x4
 replace hO:=hO.next hb2
 obtain ⟨x0,x1,x2,x3,x4⟩:=bx5 hO.fst
 clear hb2
 go_wp2_with fail
 refine (HDP.out _ hO.below).mono ?_
 rintro e3 w3 ⟨rfl,hb3⟩
 clear x0 x1 x2 x3 x4
 replace hO:=hO.next hb3
 obtain ⟨x0,x1,x2,x3,x4⟩:=bx5 hO.fst
 clear hb3
 go_wp2_with fail
 refine (HPT.out _ hO.below).mono ?_
 rintro e4 w4 ⟨rfl,hb4⟩
 have HB:=Lib.hid (hO.below.trans (hb4.mono hO.below.size))
 go_wp2_with fail
 go_ret
 exact ⟨rfl,HB.out⟩
end Go.Proofs.YtedpopbaipnamaaGreatDoor

namespace Go.Proofs.YtedpopbaipnamaaGreatDoor
open Go.RowKit
set_option maxRecDepth 100000 in
set_option maxHeartbeats 1600000 in
theorem rname_long (s:ByteArray) (h:30<s.size) (w:World):Calls Tryz.prog 65 #[.string s] w fun e W=>e=.returned (.bool false)∧W=w:=by
 have e0:s.toList.isEmpty=false:=by
  have:=str_nl (n:=s) (by omega:¬ s.size=0)
  simpa using this
 have e1:decide ((s.size:Int) > 30)=true:=decide_eq_true (by omega)
 have e2:decide (30<(s.size:Int))=true:=decide_eq_true (by omega)
 have e3:decide (30<s.size)=true:=decide_eq_true (by omega)
 go_enter Tryz.func65,Tryz.ntmps65
 go_wp2_with fail
 go_ret
 exact ⟨rfl,rfl⟩
set_option maxRecDepth 100000 in
set_option maxHeartbeats 1600000 in
theorem rname_empty (w:World):Calls Tryz.prog 65 #[.string ⟨#[]⟩] w fun e W=>e=.returned (.bool false)∧W=w:=by
 go_enter Tryz.func65,Tryz.ntmps65
 go_wp2_with fail
 go_ret
 exact ⟨rfl,rfl⟩
set_option maxRecDepth 100000 in
set_option maxHeartbeats 6400000 in
theorem rname_any (s:ByteArray) (w:World):Calls Tryz.prog 65 #[.string s] w fun e W=>e=.returned (.bool (nmB s))∧W=w:=by
 by_cases h1:s.size=0
 ·rw [nmB_len (.inl (by omega))]
  obtain rfl:=name_nil h1
  exact rname_empty w
 by_cases h2:30<s.size
 ·rw [nmB_len (.inr h2)]
  exact rname_long s h2 w
 have e0:s.toList.isEmpty=false:=by
  have:=str_nl (n:=s) h1
  simpa using this
 have e1:decide ((s.size:Int) > 30)=false:=decide_eq_false (by omega)
 have e2:decide (30<(s.size:Int))=false:=decide_eq_false (by omega)
 have e3:decide (30<s.size)=false:=decide_eq_false (by omega)
 go_enter Tryz.func65,Tryz.ntmps65
 go_wp2_with fail
 go_loopw [3] (fun i wr=>wr=w∧∃ j:Nat,i=.int .i64 (j:Nat)∧j≤s.size∧Hid (okTo s j)) (fun i _=>s.size - (intOf i).toNat)
 case atStart=>exact ⟨rfl,0,rfl,Nat.zero_le _,Lib.hid (fun j h hj=>by omega)⟩
 case round=>
  obtain ⟨rfl,j,rfl,hj,HOK⟩:=hrel
  have hj0:(0:Int)≤(j:Int):=by omega
  by_cases hlt:j<s.size
  ·have hd1:decide ((j:Int)<(s.size:Int))=true:=decide_eq_true (by omega)
   have hd2:decide (j<s.size)=true:=decide_eq_true hlt
   have hjl:(j:Int)<(s.size:Int):=by omega
   have hwr1:IntKind.i64.wrap ((j:Int)+1)=(j:Int)+1:=by rw [IntKind.wrap_i64]; omega
   have HIB:Hid (inB s[j]=(decide (97≤(s[j]).toNat) && decide ((s[j]).toNat≤122) || (decide (48≤(s[j]).toNat) && decide ((s[j]).toNat≤57)) || (s[j]).toNat == 95)):=Lib.hid rfl
   have HLB:Hid (letB s[j]=(decide (97≤(s[j]).toNat) && decide ((s[j]).toNat≤122))):=Lib.hid rfl
   have HN:=Lib.hid (fun h=>nmB_no (s:=s) j hlt h)
   have HS:Hid (inB s[j]=true→(j=0→letB s[j]=true)→okTo s (j+1)):=Lib.hid (fun h1 h2 q hq hq2=>by
    by_cases e:q=j
    ·subst e; exact ⟨h1,h2⟩
    ·exact HOK.out q hq (by omega))
   have hlen:=hlt
   generalize inB s[j]=ib at HIB HN HS
   generalize letB s[j]=lb at HLB HN HS
   generalize hcd:(s[j]'hlt).toNat=c at HIB HLB
   have hcd2:s[j]!.toNat=c:=by rw [getElem!_pos s j hlt]; exact hcd
   clear HOK
   by_cases hA:97≤c
   ·by_cases hB:c≤122
    ·have a1:decide ((c:Int) ≥ 97)=true:=decide_eq_true (by omega)
     have a2:decide (97≤(c:Int))=true:=decide_eq_true (by omega)
     have a3:decide (97≤c)=true:=decide_eq_true (by omega)
     have b1:decide ((c:Int)≤122)=true:=decide_eq_true (by omega)
     have b2:decide (c≤122)=true:=decide_eq_true (by omega)
     have HOK2:Hid (okTo s (j+1)):=Lib.hid (HS.out (by rw [HIB.out,decide_eq_true (by omega:97≤c),decide_eq_true (by omega:c≤122)]; rfl) (fun _=>by rw [HLB.out,decide_eq_true (by omega:97≤c),decide_eq_true (by omega:c≤122)]; rfl))
     clear HIB HLB HN HS
     go_wp2_with fail
     exact ⟨⟨trivial,j+1,by go_num,by omega,HOK2⟩,by simp [intOf]; omega⟩
    ·by_cases h0:j=0
     ·have a1:decide ((c:Int) ≥ 97)=true:=decide_eq_true (by omega)
      have a2:decide (97≤(c:Int))=true:=decide_eq_true (by omega)
      have a3:decide (97≤c)=true:=decide_eq_true (by omega)
      have b1:decide ((c:Int)≤122)=false:=decide_eq_false (by omega)
      have b2:decide (c≤122)=false:=decide_eq_false (by omega)
      have d1:decide ((c:Int) ≥ 48)=true:=decide_eq_true (by omega)
      have d2:decide (48≤(c:Int))=true:=decide_eq_true (by omega)
      have d3:decide (48≤c)=true:=decide_eq_true (by omega)
      have e1:decide ((c:Int)≤57)=false:=decide_eq_false (by omega)
      have e2:decide (c≤57)=false:=decide_eq_false (by omega)
      have f1:((c:Int) == 95)=false:=by simpa using (by omega:¬ (c:Int)=95)
      have f2:(c == 95)=false:=by simpa using (by omega:¬ c=95)
      have g1:((j:Int) == 0)=true:=by simpa using h0
      have g2:(j == 0)=true:=by simpa using h0
      have HNO:=Lib.hid (HN.out (.inr ⟨h0,by rw [HLB.out]; simp <;> omega⟩))
      clear HIB HLB HN HS h0
      go_wp2_with fail
      go_ret
      exact ⟨by rw [HNO.out]; rfl,rfl⟩
     ·have a1:decide ((c:Int) ≥ 97)=true:=decide_eq_true (by omega)
      have a2:decide (97≤(c:Int))=true:=decide_eq_true (by omega)
      have a3:decide (97≤c)=true:=decide_eq_true (by omega)
      have b1:decide ((c:Int)≤122)=false:=decide_eq_false (by omega)
      have b2:decide (c≤122)=false:=decide_eq_false (by omega)
      have d1:decide ((c:Int) ≥ 48)=true:=decide_eq_true (by omega)
      have d2:decide (48≤(c:Int))=true:=decide_eq_true (by omega)
      have d3:decide (48≤c)=true:=decide_eq_true (by omega)
      have e1:decide ((c:Int)≤57)=false:=decide_eq_false (by omega)
      have e2:decide (c≤57)=false:=decide_eq_false (by omega)
      have f1:((c:Int) == 95)=false:=by simpa using (by omega:¬ (c:Int)=95)
      have f2:(c == 95)=false:=by simpa using (by omega:¬ c=95)
      have g1:((j:Int) == 0)=false:=by simpa using h0
      have g2:(j == 0)=false:=by simpa using h0
      have HNO:=Lib.hid (HN.out (.inl (by rw [HIB.out]; simp <;> omega)))
      clear HIB HLB HN HS h0
      go_wp2_with fail
      go_ret
      exact ⟨by rw [HNO.out]; rfl,rfl⟩
   ·by_cases hC:c<48
    ·by_cases h0:j=0
     ·have a1:decide ((c:Int) ≥ 97)=false:=decide_eq_false (by omega)
      have a2:decide (97≤(c:Int))=false:=decide_eq_false (by omega)
      have a3:decide (97≤c)=false:=decide_eq_false (by omega)
      have d1:decide ((c:Int) ≥ 48)=false:=decide_eq_false (by omega)
      have d2:decide (48≤(c:Int))=false:=decide_eq_false (by omega)
      have d3:decide (48≤c)=false:=decide_eq_false (by omega)
      have f1:((c:Int) == 95)=false:=by simpa using (by omega:¬ (c:Int)=95)
      have f2:(c == 95)=false:=by simpa using (by omega:¬ c=95)
      have g1:((j:Int) == 0)=true:=by simpa using h0
      have g2:(j == 0)=true:=by simpa using h0
      have HNO:=Lib.hid (HN.out (.inr ⟨h0,by rw [HLB.out]; simp <;> omega⟩))
      clear HIB HLB HN HS h0
      go_wp2_with fail
      go_ret
      exact ⟨by rw [HNO.out]; rfl,rfl⟩
     ·have a1:decide ((c:Int) ≥ 97)=false:=decide_eq_false (by omega)
      have a2:decide (97≤(c:Int))=false:=decide_eq_false (by omega)
      have a3:decide (97≤c)=false:=decide_eq_false (by omega)
      have d1:decide ((c:Int) ≥ 48)=false:=decide_eq_false (by omega)
      have d2:decide (48≤(c:Int))=false:=decide_eq_false (by omega)
      have d3:decide (48≤c)=false:=decide_eq_false (by omega)
      have f1:((c:Int) == 95)=false:=by simpa using (by omega:¬ (c:Int)=95)
      have f2:(c == 95)=false:=by simpa using (by omega:¬ c=95)
      have g1:((j:Int) == 0)=false:=by simpa using h0
      have g2:(j == 0)=false:=by simpa using h0
      have HNO:=Lib.hid (HN.out (.inl (by rw [HIB.out]; simp <;> omega)))
      clear HIB HLB HN HS h0
      go_wp2_with fail
      go_ret
      exact ⟨by rw [HNO.out]; rfl,rfl⟩
    ·by_cases hD:c≤57
     ·by_cases h0:j=0
      ·have a1:decide ((c:Int) ≥ 97)=false:=decide_eq_false (by omega)
       have a2:decide (97≤(c:Int))=false:=decide_eq_false (by omega)
       have a3:decide (97≤c)=false:=decide_eq_false (by omega)
       have d1:decide ((c:Int) ≥ 48)=true:=decide_eq_true (by omega)
       have d2:decide (48≤(c:Int))=true:=decide_eq_true (by omega)
       have d3:decide (48≤c)=true:=decide_eq_true (by omega)
       have e1:decide ((c:Int)≤57)=true:=decide_eq_true (by omega)
       have e2:decide (c≤57)=true:=decide_eq_true (by omega)
       have g1:((j:Int) == 0)=true:=by simpa using h0
       have g2:(j == 0)=true:=by simpa using h0
       have HNO:=Lib.hid (HN.out (.inr ⟨h0,by rw [HLB.out]; simp <;> omega⟩))
       clear HIB HLB HN HS h0
       go_wp2_with fail
       go_ret
       exact ⟨by rw [HNO.out]; rfl,rfl⟩
      ·have a1:decide ((c:Int) ≥ 97)=false:=decide_eq_false (by omega)
       have a2:decide (97≤(c:Int))=false:=decide_eq_false (by omega)
       have a3:decide (97≤c)=false:=decide_eq_false (by omega)
       have d1:decide ((c:Int) ≥ 48)=true:=decide_eq_true (by omega)
       have d2:decide (48≤(c:Int))=true:=decide_eq_true (by omega)
       have d3:decide (48≤c)=true:=decide_eq_true (by omega)
       have e1:decide ((c:Int)≤57)=true:=decide_eq_true (by omega)
       have e2:decide (c≤57)=true:=decide_eq_true (by omega)
       have g1:((j:Int) == 0)=false:=by simpa using h0
       have g2:(j == 0)=false:=by simpa using h0
       have HOK2:Hid (okTo s (j+1)):=Lib.hid (HS.out (by rw [HIB.out,decide_eq_true (by omega:48≤c),decide_eq_true (by omega:c≤57)]; simp) (fun h=>absurd h h0))
       clear HIB HLB HN HS h0
       go_wp2_with fail
       exact ⟨⟨trivial,j+1,by go_num,by omega,HOK2⟩,by simp [intOf]; omega⟩
     ·by_cases hE:c=95
      ·subst hE
       by_cases h0:j=0
       ·have g1:((j:Int) == 0)=true:=by simpa using h0
        have g2:(j == 0)=true:=by simpa using h0
        have HNO:=Lib.hid (HN.out (.inr ⟨h0,by rw [HLB.out]; simp <;> omega⟩))
        clear HIB HLB HN HS h0
        go_wp2_with fail
        go_ret
        exact ⟨by rw [HNO.out]; rfl,rfl⟩
       ·have g1:((j:Int) == 0)=false:=by simpa using h0
        have g2:(j == 0)=false:=by simpa using h0
        have HOK2:Hid (okTo s (j+1)):=Lib.hid (HS.out (by rw [HIB.out]; simp) (fun h=>absurd h h0))
        clear HIB HLB HN HS h0
        go_wp2_with fail
        exact ⟨⟨trivial,j+1,by go_num,by omega,HOK2⟩,by simp [intOf]; omega⟩
      ·by_cases h0:j=0
       ·have a1:decide ((c:Int) ≥ 97)=false:=decide_eq_false (by omega)
        have a2:decide (97≤(c:Int))=false:=decide_eq_false (by omega)
        have a3:decide (97≤c)=false:=decide_eq_false (by omega)
        have d1:decide ((c:Int) ≥ 48)=true:=decide_eq_true (by omega)
        have d2:decide (48≤(c:Int))=true:=decide_eq_true (by omega)
        have d3:decide (48≤c)=true:=decide_eq_true (by omega)
        have e1:decide ((c:Int)≤57)=false:=decide_eq_false (by omega)
        have e2:decide (c≤57)=false:=decide_eq_false (by omega)
        have f1:((c:Int) == 95)=false:=by simpa using (by omega:¬ (c:Int)=95)
        have f2:(c == 95)=false:=by simpa using (by omega:¬ c=95)
        have g1:((j:Int) == 0)=true:=by simpa using h0
        have g2:(j == 0)=true:=by simpa using h0
        have HNO:=Lib.hid (HN.out (.inr ⟨h0,by rw [HLB.out]; simp <;> omega⟩))
        clear HIB HLB HN HS h0
        go_wp2_with fail
        go_ret
        exact ⟨by rw [HNO.out]; rfl,rfl⟩
       ·have a1:decide ((c:Int) ≥ 97)=false:=decide_eq_false (by omega)
        have a2:decide (97≤(c:Int))=false:=decide_eq_false (by omega)
        have a3:decide (97≤c)=false:=decide_eq_false (by omega)
        have d1:decide ((c:Int) ≥ 48)=true:=decide_eq_true (by omega)
        have d2:decide (48≤(c:Int))=true:=decide_eq_true (by omega)
        have d3:decide (48≤c)=true:=decide_eq_true (by omega)
        have e1:decide ((c:Int)≤57)=false:=decide_eq_false (by omega)
        have e2:decide (c≤57)=false:=decide_eq_false (by omega)
        have f1:((c:Int) == 95)=false:=by simpa using (by omega:¬ (c:Int)=95)
        have f2:(c == 95)=false:=by simpa using (by omega:¬ c=95)
        have g1:((j:Int) == 0)=false:=by simpa using h0
        have g2:(j == 0)=false:=by simpa using h0
        have HNO:=Lib.hid (HN.out (.inl (by rw [HIB.out]; simp <;> omega)))
        clear HIB HLB HN HS h0
        go_wp2_with fail
        go_ret
        exact ⟨by rw [HNO.out]; rfl,rfl⟩
  ·have hd1:decide ((j:Int)<(s.size:Int))=false:=decide_eq_false (by omega)
   have hd2:decide (j<s.size)=false:=decide_eq_false hlt
   have HNO:=Lib.hid (nmB_yes (s:=s) (by have:=HOK.out; rwa [show j=s.size from by omega] at this) (by omega) (by omega))
   clear HOK
   go_wp2_with fail
   go_ret
   exact ⟨by rw [HNO.out]; rfl,rfl⟩
end Go.Proofs.YtedpopbaipnamaaGreatDoor
