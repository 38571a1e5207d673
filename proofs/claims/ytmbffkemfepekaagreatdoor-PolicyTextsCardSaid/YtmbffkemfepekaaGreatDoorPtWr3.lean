/- expr.write of a number and of a name, walked. Conditions: the expression is valid and lies below the builder. -/
import Derived.Test.YtmbffkemfepekaaGreatDoorPtWr1
namespace Go.Proofs.YtmbffkemfepekaaGreatDoor
open Go.Shelf Go.RowKit Go.Sort
theorem decF_eq:∀ (f u:Nat),u<10 ^ (f+1)→decF (f+1) u=Lib.decDigits u
 | 0,u,h=>by
  rw [decF,Lib.decDigits]
  rw [if_pos (by omega),dif_pos (by omega)]
 | f+1,u,h=>by
  rw [decF,Lib.decDigits]
  by_cases h1:u<10
  ·rw [if_pos h1,dif_pos h1]
  ·rw [if_neg h1,dif_neg h1,decF_eq f (u / 10) (by rw [Nat.pow_succ] at h; omega)]
theorem itoa_dec (v:Int) (h0:0≤v) (h1:v≤1099511627776):Lib.itoa v=decL v.toNat:=by
 unfold Lib.itoa decL
 rw [if_neg (by omega)]
 exact (decF_eq 19 v.toNat (by
  have:v.toNat≤1099511627776:=by omega
  have h2:1099511627776<10 ^ (19+1):=by decide
  omega)).symm
theorem grow_below (w:World) (k:Nat) (os:Array Obj):Below w.heap.size w (grow (w.drewN k) os):=
 ⟨rfl,rfl,rfl,by simp [grow],fun i hi=>by simp [grow,Array.getElem?_append,hi]⟩
theorem Bld.str {B b:Nat} {l:List UInt8} {s:ByteArray} {W:World} (h:Lib.BuilderAt 55 5 B b (.pointer (some ⟨b,0,none⟩)) (Lib.byteCells l++Lib.strCells s) W):Bld B b (l++s.data.toList) W:=Bld.put h rfl
/-- A write of a text, met at a later world. -/
theorem wr_str {B b:Nat} {l:List UInt8} {w:World} (hbd:Bld B b l w) (hB:B≤w.heap.size) (s:ByteArray) (hl:l.length+s.size≤140737488355328) (W:World) (hb:Below w.heap.size w W) :
  Calls Tryz.prog 18 #[.pointer (some ⟨b,0,none⟩),.string s] W fun e W'=>e=.returned (.tuple #[.int .i64 s.size,.nilIface])∧Bld B b (l++s.data.toList) W'∧Wrote B b W W':=by
 refine (wStr B b (Lib.byteCells l) s W (hbd.old hb) (by rw [byteCells_len]; exact hl) (Nat.le_trans hB hb.size)).mono ?_
 rintro e W' ⟨h1,h2,h3⟩
 exact ⟨h1,Bld.str h2,h3⟩
set_option maxRecDepth 100000 in
set_option maxHeartbeats 3200000 in
theorem write_num (v:Int) (hv:0≤v∧v≤1099511627776):WrC (exNum v):=by
 intro lo vs B b l w hg h hlo hB hbd hT hlen
 obtain ⟨A,c,-,e1,-⟩:=h.form
 simp only [exNum,Ex.kind,Ex.op,Ex.name,Ex.val,Ex.args,List.length_nil,exC] at e1
 have ht:wrE (exNum v)=decL v.toNat:=by unfold exNum; rw [wrE,outB]; rfl
 rw [ht] at hlen ⊢
 subst e1
 have hsz:(⟨(decL v.toNat).toArray⟩:ByteArray).size=(decL v.toNat).length:=by show (decL v.toNat).toArray.size=_; simp
 have HS:=Lib.hid (fun W hb=>wr_str hbd hB ⟨(decL v.toNat).toArray⟩ (by rw [hsz]; exact hlen) W hb)
 have HI:Hid (∀ W,Below B w W→Calls Tryz.prog 69 #[.int .i64 v] W fun e W'=>e=.returned (.string ⟨(decL v.toNat).toArray⟩)∧Below W.heap.size W W'):=Lib.hid (fun W hb=>by
  refine (Tryz.strconv_Itoa v (by omega) (by omega) W (hT W hb)).mono ?_
  rintro e W' ⟨h1,k,os,rfl⟩
  rw [itoa_dec v hv.1 hv.2] at h1
  exact ⟨h1,grow_below _ _ _⟩)
 have hlt:=hbd.lt
 have HBS:Hid (B≤w.heap.size):=Lib.hid hB
 unfold WrP
 generalize decL v.toNat=t at HS HI ⊢
 have hO:=one_new w #[.int .i64 1,.int .i64 0,.string ByteArray.empty,.int .i64 v,.slice A 0 c] 38
 clear hT hbd hlen hsz ht h hg hB
 go_enter Tryz.func41,Tryz.ntmps41
 go_upto_region 1 with fail
 have hz1:=hO.size
 generalize w.alloc _=w1 at hO hz1 ⊢
 have HB1:=Lib.hid hO.below
 obtain ⟨d0,d1,d2,d3,d4⟩:=bx5 hO.fst
 clear hO
 go_wp2_with (first | (go_at_call 69; refine (HI.out _ (HB1.out.mono HBS.out)).mono ?_; rintro e' W2 ⟨rfl,hb2⟩) | (go_at_call 18; refine (HS.out _ (HB1.out.trans (hb2.mono HB1.out.size))).mono ?_; rintro e3 W4 ⟨rfl,hbd4,hw4⟩))
 first | go_end0 | (simp only [Exit.inBlock,Exit.then]; refine bodyPost_ret (results_none rfl _ _ _) rfl ?_)
 exact ⟨rfl,hbd4,(Wrote.old (HB1.out.trans (hb2.mono HB1.out.size)) HBS.out hlt).trans hw4⟩
set_option maxRecDepth 100000 in
set_option maxHeartbeats 3200000 in
theorem write_name (n:ByteArray):WrC (exName n):=by
 intro lo vs B b l w hg h hlo hB hbd hT hlen
 obtain ⟨A,c,-,e1,-⟩:=h.form
 simp only [exName,Ex.kind,Ex.op,Ex.name,Ex.val,Ex.args,List.length_nil,exC] at e1
 have ht:wrE (exName n)=n.data.toList:=by unfold exName; rw [wrE,outB]; rfl
 rw [ht] at hlen ⊢
 subst e1
 have hsz:n.size=n.data.toList.length:=by rw [Array.length_toList]; rfl
 have HS:=Lib.hid (fun W hb=>wr_str hbd hB n (by rw [hsz]; exact hlen) W hb)
 have hlt:=hbd.lt
 have HBS:Hid (B≤w.heap.size):=Lib.hid hB
 unfold WrP
 have hO:=one_new w #[.int .i64 2,.int .i64 0,.string n,.int .i64 0,.slice A 0 c] 38
 clear hT hbd hlen hsz ht h hg hB
 go_enter Tryz.func41,Tryz.ntmps41
 go_upto_region 1 with fail
 have hz1:=hO.size
 generalize w.alloc _=w1 at hO hz1 ⊢
 have HB1:=Lib.hid hO.below
 obtain ⟨d0,d1,d2,d3,d4⟩:=bx5 hO.fst
 clear hO
 go_wp2_with (go_at_call 18; refine (HS.out _ HB1.out).mono ?_; rintro e3 W4 ⟨rfl,hbd4,hw4⟩)
 first | go_end0 | (simp only [Exit.inBlock,Exit.then]; refine bodyPost_ret (results_none rfl _ _ _) rfl ?_)
 exact ⟨rfl,hbd4,(Wrote.old HB1.out HBS.out hlt).trans hw4⟩
end Go.Proofs.YtmbffkemfepekaaGreatDoor

namespace Go.Proofs.YtmbffkemfepekaaGreatDoor
open Go.Shelf Go.RowKit Go.Sort
set_option maxRecDepth 100000 in
set_option maxHeartbeats 3200000 in
theorem write_un (o:Int) (a:Ex) (ho:o=1∨o=2) (hW:WrC a):WrC (exUn o a):=by
 intro lo vs B b l w hg h hlo hB hbd hT hlen
 obtain ⟨A,c,e1,-,harg⟩:=h.arg
 obtain ⟨b0,off,k1,o1,n1,v1,A1,m1,c1,rfl,hb0,hla,x0,x1,x2,x3,x4⟩:=harg 0 (by show 0<1; omega)
 change LiesE w lo _ a at hla
 simp only [Nat.zero_mul,Nat.add_zero] at x0 x1 x2 x3 x4
 simp only [exUn,Ex.kind,Ex.op,Ex.name,Ex.val,Ex.args,exC,List.length_cons,List.length_nil,Nat.zero_add] at e1
 subst e1
 rw [wr_un] at hlen ⊢
 have HAR:=Lib.hid (fun (W:World) (l':List UInt8) (hb:Below B w W) (hbd':Bld B b l' W) hl=>arg_of a hW lo _ B b l' W 6 hg.un (hla.below' hb hlo) hlo (Nat.le_trans hB hb.size) hbd' (hT.next hb) hl)
 change Hid (∀ (W:World) (l':List UInt8),Below B w W→Bld B b l' W→_→Calls Tryz.prog 70 #[.pointer (some ⟨b,0,none⟩),.agg #[.int .i64 k1,.int .i64 o1,.string n1,.int .i64 v1,.slice A1 m1 c1],.int .i64 6] W (WrP B b l' (parB 6 (precE a,wrE a)) W)) at HAR
 have hs:∃ s:UInt8,(if o=2 then (33:UInt8) else 45)=s∧(o=1∧s=45∨o=2∧s=33):=⟨_,rfl,by rcases ho with rfl | rfl <;> simp⟩
 obtain ⟨s,hs1,hs2⟩:=hs
 rw [hs1] at hlen ⊢
 clear hs1 ho
 generalize parB 6 (precE a,wrE a)=t at HAR hlen ⊢
 have HL:Hid (l.length+(t.length+1)≤140737488355328):=Lib.hid (by simpa using hlen)
 have HL2:Hid ((l++[s]).length+t.length≤140737488355328):=Lib.hid (by have:=HL.out; simp; omega)
 have HS:=Lib.hid (fun W hb=>wr_str hbd hB ⟨#[s]⟩ (by have:=HL.out; show l.length+1≤_; omega) W hb)
 have HBS:Hid (B≤w.heap.size):=Lib.hid hB
 have HBD:=Lib.hid hbd
 have hlt:=hbd.lt
 have HAC:Hid (∀ W,Below B w W→W.cell? ⟨b0,off,none⟩=some (.int .i64 k1)∧W.cell? ⟨b0,off+1,none⟩=some (.int .i64 o1)∧W.cell? ⟨b0,off+2,none⟩=some (.string n1)∧W.cell? ⟨b0,off+3,none⟩=some (.int .i64 v1)∧W.cell? ⟨b0,off+4,none⟩=some (.slice A1 m1 c1)):=Lib.hid (fun W hb=>
  ⟨(hb.cell (p:=⟨b0,off,none⟩) (by show b0<_; omega)).trans x0,(hb.cell (p:=⟨b0,off+1,none⟩) (by show b0<_; omega)).trans x1,(hb.cell (p:=⟨b0,off+2,none⟩) (by show b0<_; omega)).trans x2,(hb.cell (p:=⟨b0,off+3,none⟩) (by show b0<_; omega)).trans x3,(hb.cell (p:=⟨b0,off+4,none⟩) (by show b0<_; omega)).trans x4⟩)
 unfold WrP at HAR ⊢
 have hO:=one_new w #[.int .i64 3,.int .i64 o,.string ByteArray.empty,.int .i64 0,.slice (some ⟨b0,off,none⟩) 1 c] 38
 clear hT hbd hlen h hg hB harg hla x0 x1 x2 x3 x4 hW
 go_enter Tryz.func41,Tryz.ntmps41
 go_upto_region 1 with fail
 have hz1:=hO.size
 generalize w.alloc _=w1 at hO hz1 ⊢
 obtain ⟨X,hX⟩:∃ X,X=w.heap.size:=⟨_,rfl⟩
 have HX:=Lib.hid hX
 have hbx:=hO.fst
 have HB1:=Lib.hid hO.below
 rw [← hX] at hbx hz1 ⊢
 clear hX hO
 have HBX:=Lib.hid hbx
 obtain ⟨d0,d1,d2,d3,d4⟩:=bx5 hbx
 clear hbx
 have HCA:Hid (∀ W2 W4,Below w1.heap.size w1 W2→Wrote B b W2 W4→Bx W4 X [.int .i64 3,.int .i64 o,.string ByteArray.empty,.int .i64 0,.slice (some ⟨b0,off,none⟩) 1 c]∧Wrote B b w W4):=Lib.hid (fun W2 W4 hb hw=>by
  have hb2:=HB1.out.trans (hb.mono HB1.out.size)
  have hap:=HBD.out.apart hb2 (X:=X) (by rw [HX.out]; exact Nat.le_refl _) (by have:=hb.size; omega)
  exact ⟨fun j u hu=>(cell_block (hw.apart X hap).1).trans (HBX.out.below hb (by omega) j u hu),(Wrote.old hb2 HBS.out hlt).trans hw⟩)
 have hzl:X<w1.heap.size:=by omega
 have q1:=fun ob=>(World.cell?_alloc_lt w1 ob ⟨X,1,none⟩ hzl).trans d1
 rcases hs2 with ⟨rfl,rfl⟩ | ⟨rfl,rfl⟩
 ·go_wp2_with (go_at_call 18; refine (HS.out _ (HB1.out.trans ((below_alloc _ _).mono HB1.out.size))).mono ?_; rintro e3 W4 ⟨rfl,hbd4,hw4⟩; obtain ⟨hbx4,hW4⟩:=HCA.out _ _ (below_alloc _ _) hw4; have y:=bx5 hbx4; have z:=HAC.out _ hW4.below; clear d0 d1 d2 d3 d4)
  refine (HAR.out W4 _ hW4.below hbd4 HL2.out).mono ?_
  rintro e5 W5 ⟨rfl,hbd5,hw5⟩
  go_wp2_with fail
  first | go_end0 | (simp only [Exit.inBlock,Exit.then]; refine bodyPost_ret (results_none rfl _ _ _) rfl ?_)
  exact ⟨rfl,by rw [List.append_assoc] at hbd5; exact hbd5,hW4.trans hw5⟩
 ·go_wp2_with (go_at_call 18; refine (HS.out _ (HB1.out.trans ((below_alloc _ _).mono HB1.out.size))).mono ?_; rintro e3 W4 ⟨rfl,hbd4,hw4⟩; obtain ⟨hbx4,hW4⟩:=HCA.out _ _ (below_alloc _ _) hw4; have y:=bx5 hbx4; have z:=HAC.out _ hW4.below; clear d0 d1 d2 d3 d4)
  refine (HAR.out W4 _ hW4.below hbd4 HL2.out).mono ?_
  rintro e5 W5 ⟨rfl,hbd5,hw5⟩
  go_wp2_with fail
  first | go_end0 | (simp only [Exit.inBlock,Exit.then]; refine bodyPost_ret (results_none rfl _ _ _) rfl ?_)
  exact ⟨rfl,by rw [List.append_assoc] at hbd5; exact hbd5,hW4.trans hw5⟩
end Go.Proofs.YtmbffkemfepekaaGreatDoor
