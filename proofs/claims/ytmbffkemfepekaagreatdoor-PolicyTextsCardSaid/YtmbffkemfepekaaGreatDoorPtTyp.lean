/- expr.typed, walked. Conditions: the expression and the bindings lie in memory, all parts are valid. -/
import Derived.Test.YtmbffkemfepekaaGreatDoorPtOps
import Derived.Test.YtmbffkemfepekaaGreatDoorPtPolL
import Derived.Laws.OwnMore
import Derived.Test.YtmbffkemfepekaaGreatDoorPtExC
namespace Go.Proofs.YtmbffkemfepekaaGreatDoor
open Go.RowKit
theorem intInfo:(Tryz.prog.info? 3).map (fun i=>(i.zero,i.size,i.bytes))=some (some (.int .i64 0),1,8):=by kernel_rfl
theorem cell_one (w:World) (v:Value) (t:TypeId):∀ j u,([v]:List Value)[j]? = some u→(w.alloc (.cells #[v] t)).cell? ((⟨w.heap.size,0,none⟩:Addr).add j)=some u:=by
 intro j u hu
 match j with
 | 0=>injection hu with hu; subst hu; simp [Addr.add]
 | _+1=>cases hu
theorem typL_ne {l:List Bd} {zs:List Ex} (h:∀ a∈zs,∀ f,typE l a=.er f→f≠0):∀ (acc:List Int) (f:Nat),typL l (.ok acc) zs=.er f→f≠0:=by
 induction zs with
 | nil=>intro acc f h; simp [typL] at h
 | cons a zs ih=>
  intro acc f hf
  simp only [typL] at hf
  cases e:typE l a with
  | er g=>
   rw [e] at hf
   simp only [AnsL.push] at hf
   rw [typL_er] at hf
   injection hf with hf
   subst hf
   exact h a (by simp) g e
  | ok n=>
   rw [e] at hf
   exact ih (fun b hb=>h b (by simp [hb])) _ f hf
theorem typ1_ne {l:List Bd} {k o:Int} {n:ByteArray} {ts:List Int} {f:Nat} (h:typ1 l k o n ts=.er f):f≠0:=by
 unfold typ1 at h
 repeat' split at h
 all_goals first | (injection h with h; omega) | (cases h)
theorem typE_ne (l:List Bd):∀ (e:Ex) (f:Nat),typE l e=.er f→f≠0:=by
 intro e
 induction e using Ex.ind with
 | h k o n v zs ih=>
  intro f hf
  rw [typE_mk] at hf
  cases hL:typL l (.ok []) zs with
  | er g=>rw [hL] at hf; injection hf with hf; subst hf; exact typL_ne ih _ _ hL
  | ok ts=>rw [hL] at hf; exact typ1_ne hf
theorem own_next {w w':World} {base e size n:Nat} {v:Value} {xs:List Value} (h:w.ownsRow base e size v n xs) (hb:Below w.heap.size w w'):w'.ownsRow base e size v n xs:=by
 have hg:w.grownBy w' none:=⟨hb.os,hb.tape,hb.output,hb.size,fun k hk _=>hb.block k hk⟩
 rcases h.2 with ⟨rfl,_⟩ | ⟨g,cap,cur,rfl,_⟩
 ·exact World.ownsRow.kept h hg (.inl rfl)
 ·exact World.ownsRow.kept h hg (.inr (by simp [Value.ownBlock]))
theorem set5_23 {W:World} {B:Nat} {u2 u3:Value} (h2:W.cell? ⟨B,2,none⟩=some u2) (h3:W.cell? ⟨B,3,none⟩=some u3) (v0 v1 v2 v3 v4:Value) :
  (((((W.setCell ⟨B,0,none⟩ v0).setCell ⟨B,1,none⟩ v1).setCell ⟨B,2,none⟩ v2).setCell ⟨B,3,none⟩ v3).setCell ⟨B,4,none⟩ v4).cell? ⟨B,2,none⟩=some v2∧(((((W.setCell ⟨B,0,none⟩ v0).setCell ⟨B,1,none⟩ v1).setCell ⟨B,2,none⟩ v2).setCell ⟨B,3,none⟩ v3).setCell ⟨B,4,none⟩ v4).cell? ⟨B,3,none⟩=some v3:=by
 have n (i j:Nat) (h:i≠j):(⟨B,i,none⟩:Addr)≠⟨B,j,none⟩:=by intro e; injection e; omega
 constructor
 ·rw [World.cell?_setCell_other _ _ _ _ (n 4 2 (by omega)),World.cell?_setCell_other _ _ _ _ (n 3 2 (by omega))]
  exact World.cell?_setCell_same _ _ _ ((World.cell?_setCell_other _ _ _ _ (n 1 2 (by omega))).trans ((World.cell?_setCell_other _ _ _ _ (n 0 2 (by omega))).trans h2))
 ·rw [World.cell?_setCell_other _ _ _ _ (n 4 3 (by omega))]
  exact World.cell?_setCell_same _ _ _ ((World.cell?_setCell_other _ _ _ _ (n 2 3 (by omega))).trans ((World.cell?_setCell_other _ _ _ _ (n 1 3 (by omega))).trans ((World.cell?_setCell_other _ _ _ _ (n 0 3 (by omega))).trans h3)))
theorem find_typ {M:Nat} {o:Int} (h:3≤o∧o≤15):∃ (i:Nat) (s:ByteArray) (p:Int) (g:Fn) (c:Array Value),findKV (opsKV M) o 0=some (i,.agg #[.string s,.int .i64 p,.int .i64 (opArg o),.int .i64 (opRes o),.func g #[] c]):=by
 have hc:o=3∨o=4∨o=5∨o=6∨o=7∨o=8∨o=9∨o=10∨o=11∨o=12∨o=13∨o=14∨o=15:=by omega
 rcases hc with rfl | rfl | rfl | rfl | rfl | rfl | rfl | rfl | rfl | rfl | rfl | rfl | rfl <;> exact ⟨_,_,_,_,_,rfl⟩
/-- operators' contract for a region that fetches a known operator. -/
theorem ops_val (V:World) (b:Nat) (o:Int) (hk:3≤o∧o≤15) (h1:V.cell? ⟨b,1,none⟩=some (.int .i64 o)) (h2:b<V.heap.size):Calls Tryz.prog 71 #[] V fun e W=>∃ (M:Nat) (s:ByteArray) (p:Int) (g:Fn) (c:Array Value),e=.returned (.map (some M)) ∧
  W.cell? ⟨b,1,none⟩=some (.int .i64 o)∧b<W.heap.size∧Below V.heap.size V W∧(Instr.lookup 125 (.map (some M)) (.int .i64 o) false).run Tryz.prog W=.ok (.agg #[.string s,.int .i64 p,.int .i64 (opArg o),.int .i64 (opRes o),.func g #[] c]) W ∧
  (∀ ob,(Instr.lookup 125 (.map (some M)) (.int .i64 o) false).run Tryz.prog (W.alloc ob)=.ok (.agg #[.string s,.int .i64 p,.int .i64 (opArg o),.int .i64 (opRes o),.func g #[] c]) (W.alloc ob)) ∧
  (∀ ob,(W.alloc ob).cell? ⟨b,1,none⟩=some (.int .i64 o))∧∀ ob:Obj,b<(W.alloc ob).heap.size:=by
 refine (operators_any V).mono ?_
 rintro e W ⟨rfl,hS⟩
 obtain ⟨i,s,p,g,c,hf⟩:=find_typ (M:=V.heap.size) hk
 have hl:∀ W',Below W.heap.size W W'→(Instr.lookup 125 (.map (some V.heap.size)) (.int .i64 o) false).run Tryz.prog W'=.ok (.agg #[.string s,.int .i64 p,.int .i64 (opArg o),.int .i64 (opRes o),.func g #[] c]) W':=fun W' hb=>by rw [(hS.map.below hb hS.map.lt).look o false,hf]; rfl
 have q1:=(hS.below.cell (p:=⟨b,1,none⟩) h2).trans h1
 have q2:=Nat.lt_of_lt_of_le h2 hS.below.size
 exact ⟨_,s,p,g,c,rfl,q1,q2,hS.below,hl W (Below.refl _ _),fun _=>hl _ (below_alloc _ _),fun ob=>(World.cell?_alloc_lt W ob ⟨b,1,none⟩ q2).trans q1,fun ob=>Nat.lt_of_lt_of_le q2 (below_alloc W ob).size⟩
/-- An answer as a function's two results. -/
def ansV (x:Ans):Value:=.tuple #[.int .i64 x.n,.int .i64 (x.f:Nat)]
set_option maxRecDepth 100000 in
set_option maxHeartbeats 6400000 in
theorem typed_any (bs:List Bd) (Ab:Option Addr) (cb Bb:Nat) (hbl:bs.length≤140737488355328):∀ (e:Ex) (lo:Nat) (vs:List Value) (w:World),Good e→LiesE w lo vs e→lo≤w.heap.size→RdB w Bb Ab bs→Bb≤w.heap.size →
  Calls Tryz.prog 57 #[.agg vs.toArray,.slice Ab bs.length cb] w (Ret (ansV (typE bs e)) w):=by
 intro e
 induction e using Ex.ind with
 | h k o n v xs ih=>
  intro lo vs w hG hL hlo hR hBb
  obtain ⟨A,cap,rfl,bd,harg⟩:=hL.arg
  obtain ⟨i0,hi,hz0,hz1,hz2⟩:=info_parts intInfo
  have hP:=part_of hG.self
  have hlen:xs.length≤2:=by
   have h1:=hP.len
   simp only [Ex.args,Ex.kind] at h1
   rw [h1]; unfold argsN; split
   ·omega
   ·split <;> omega
  have hO:=one_new w #[.int .i64 k,.int .i64 o,.string n,.int .i64 v,.slice A xs.length cap] 38
  have hz:(w.alloc (.cells #[.int .i64 k,.int .i64 o,.string n,.int .i64 v,.slice A xs.length cap] 38)).heap.size=w.heap.size+1:=by simp
  have HARG:=Lib.hid harg
  have HIH:=Lib.hid (fun a ha=>ih a ha)
  have HG:=Lib.hid (fun a (ha:a∈xs)=>hG.arg ha)
  have HR:=Lib.hid hR
  have HP:=Lib.hid hP
  simp only [Ex.kind,Ex.op,Ex.name,Ex.val,Ex.args] at HARG HP ⊢
  clear harg ih hL bd hG hR hP
  unfold exC Ret
  go_enter Tryz.func57,Tryz.ntmps57
  go_upto_region 1 with fail
  generalize w.alloc _=w1 at hO hz ⊢
  obtain ⟨x0,x1,x2,x3,x4⟩:=bx5 hO.fst
  go_wp2_with fail
  clear x0 x1 x2 x3 x4
  have HLEN:=Lib.hid hlen
  go_loopw [4,5,6,18] (fun r4 r5 tv i wr=>r4=.int .i64 0∧r5=.int .i64 0∧∃ (j:Nat) (ts:List Int),i=.int .i64 (j:Nat)∧j≤xs.length∧Hid (typL bs (.ok []) (xs.take j)=.ok ts)∧wr.ownsRow (w.heap.size+1) 3 1 tv ts.length (i64s ts)∧Below (w.heap.size+1) w1 wr) (fun _ _ _ i _=>xs.length - (intOf i).toNat)
  case atStart=>exact ⟨rfl,rfl,0,[],rfl,Nat.zero_le _,Lib.hid (by simp [typL]),World.ownsRow_nil _ _ _ _,Below.refl _ _⟩
  case round=>
   obtain ⟨rfl,rfl,j,ts,rfl,hj,hts,hown,hb⟩:=hrel
   have hj0:(0:Int)≤(j:Int):=by omega
   have hwr1:IntKind.i64.wrap ((j:Int)+1)=(j:Int)+1:=by rw [IntKind.wrap_i64]; omega
   have hbw:Below w.heap.size w wr:=hO.below.trans (hb.mono (Nat.le_succ _))
   have hz3:w.heap.size+1≤wr.heap.size:=by have:=hb.size; omega
   have htl:ts.length=j:=by
    have:=typL_len bs _ _ _ hts.out
    simp [List.length_take] at this; omega
   by_cases hlt:j<xs.length
   ·have hd1:decide ((j:Int)<(xs.length:Int))=true:=decide_eq_true (by omega)
    have hd3:decide (j<xs.length)=true:=decide_eq_true hlt
    have hjl:(j:Int)<(xs.length:Int):=by omega
    obtain ⟨b1,off,k1,o1,n1,v1,A1,m1,cap1,rfl,hb1,hL1,y0,y1,y2,y3,y4⟩:=HARG.out j hlt
    have z0:=(hbw.cell (p:=⟨b1,off+j * 5,none⟩) (by show b1<w.heap.size; omega)).trans y0
    have z1:=(hbw.cell (p:=⟨b1,off+j * 5+1,none⟩) (by show b1<w.heap.size; omega)).trans y1
    have z2:=(hbw.cell (p:=⟨b1,off+j * 5+2,none⟩) (by show b1<w.heap.size; omega)).trans y2
    have z3:=(hbw.cell (p:=⟨b1,off+j * 5+3,none⟩) (by show b1<w.heap.size; omega)).trans y3
    have z4:=(hbw.cell (p:=⟨b1,off+j * 5+4,none⟩) (by show b1<w.heap.size; omega)).trans y4
    have hO4:=one_new wr #[.int .i64 k1,.int .i64 o1,.string n1,.int .i64 v1,.slice A1 m1 cap1] 38
    have hown4:=World.ownsRow.alloc hown (.cells #[.int .i64 k1,.int .i64 o1,.string n1,.int .i64 v1,.slice A1 m1 cap1] 38)
    have HO:=Lib.hid hO
    clear y0 y1 y2 y3 y4 hown hO
    go_upto_region 5 with fail
    generalize wr.alloc _=w4 at hO4 hown4 ⊢
    obtain ⟨x0,x1,x2,x3,x4⟩:=bx5 hO4.fst
    have hb4:Below w.heap.size w w4:=hbw.trans (hO4.below.mono (by omega))
    have hbb4:Below (w.heap.size+1) w1 w4:=hb.trans (hO4.below.mono hz3)
    have hz4:=hO4.size
    have hs:=HIH.out xs[j] (List.getElem_mem _) lo (exC k1 o1 n1 v1 A1 m1 cap1) w4 (HG.out _ (List.getElem_mem _)) (hL1.below' hb4 hlo) (by omega) (Rd.below' HR.out hb4 hBb) (by omega)
    unfold exC ansV at hs
    have HS:=Lib.hid hs
    have HTK:=Lib.hid (typL_take bs xs j hlt)
    have HER:Hid (∀ f,typE bs xs[j]=.er f→typE bs (Ex.mk k o n v xs)=.er f∧f≠0):=Lib.hid (fun f hf=>⟨by rw [typE_mk,typL_split bs xs j f hlt ts hts.out hf],typE_ne bs _ f hf⟩)
    clear hO4 hs hL1 hb hbw z0 z1 z2 z3 z4
    cases hans:typE bs xs[j] with
    | er f=>
     have HE:=Lib.hid (HER.out f hans)
     have hf0:=HE.out.2
     have e1:((f:Int) != 0)=true:=by simpa using hf0
     have e2:(f != 0)=true:=by simpa using hf0
     rw [hans] at HS
     simp only [Ans.n,Ans.f] at HS
     have HF0:=Lib.hid hf0
     clear hf0 hans HER
     go_wp2_with fail
     refine HS.out.mono ?_
     rintro e w5 ⟨rfl,hb5⟩
     clear x0 x1 x2 x3 x4 HS
     go_wp2_with fail
     go_ret2
     exact ⟨by rw [HE.out.1]; rfl,hb4.trans (hb5.mono hb4.size)⟩
    | ok t=>
     rw [hans] at HS
     simp only [Ans.n,Ans.f] at HS
     have HT2:Hid (typL bs (.ok []) (xs.take (j+1))=.ok (ts++[t])):=Lib.hid (by rw [HTK.out,hts.out,hans]; rfl)
     clear hans HER HTK hts
     go_wp2_with fail
     refine HS.out.mono ?_
     rintro e w5 ⟨rfl,hb5⟩
     have hown5:=own_next hown4 hb5
     have hbb5:Below (w.heap.size+1) w1 w5:=hbb4.trans (hb5.mono (by omega))
     have hz5:w.heap.size+1≤w5.heap.size:=by have:=hb5.size; omega
     have hmx:ts.length+1≤maxLen:=by unfold maxLen; omega
     have hby:(ts.length+1) * 8≤140737488355328:=by omega
     have hbs:w.heap.size+1≤(w5.alloc (.cells #[.int .i64 t] 3)).heap.size:=by simp; omega
     have hbl6:=hbb5.trans ((below_alloc w5 (.cells #[.int .i64 t] 3)).mono hz5)
     clear x0 x1 x2 x3 x4 HS hown4 hb5
     go_wp2_with (at_builtin; refine wpList_append_own _ rfl (.tmp 31) (.tmp 33) _ rfl (w.heap.size+1) 3 i0 (.int .i64 0) 1 8 Tryz.underlying41 hi hz0 hz1 hz2 rfl (by omega) _ _ _ rfl (World.ownsRow.alloc hown5 _) ⟨w5.heap.size,0,none⟩ 1 1 [.int .i64 t] rfl rfl (cell_one _ _ _) (by simp [Value.oneCell']) hmx hby hbs ?_; intro v2 w6 hown6 hg6 _)
     exact ⟨⟨rfl,rfl,j+1,ts++[t],by go_num,by omega,HT2,by rw [List.length_append,i64s_append]; exact hown6,hbl6.grown hg6 hbs (fun g e=>(World.ownsRow.lt hown5 g e).1)⟩,by simp [intOf]; omega⟩
   ·have hd1:decide ((j:Int)<(xs.length:Int))=false:=decide_eq_false (by omega)
    have hd3:decide (j<xs.length)=false:=decide_eq_false hlt
    have HTS:Hid (typE bs (Ex.mk k o n v xs)=typ1 bs k o n ts):=Lib.hid (by
     have:=hts.out
     rw [List.take_of_length_le (by omega)] at this
     rw [typE_mk,this])
    have hlk:ts.length=argsN k:=by have h1:=HP.out.len; simp only [Ex.args,Ex.kind] at h1; omega
    have HLK:=Lib.hid hlk
    have hBx:=hO.fst.below hb (by omega)
    obtain ⟨x0,x1,x2,x3,x4⟩:=bx5 hBx
    have HO:=Lib.hid hO
    have HBW:=Lib.hid hbw
    have HB:=Lib.hid hb
    clear hts htl hlk hBx hO hbw hb hj hlt
    go_upto_region 10 with fail
    have hk1:=HP.out.lo
    have hk4:=HP.out.hi
    simp only [Ex.kind] at hk1 hk4
    have hkk:k=1∨k=2∨k=3∨k=4:=by omega
    clear hk1 hk4
    rcases hkk with rfl | rfl | rfl | rfl
    ·have HV:Hid (typE bs (Ex.mk 1 o n v xs)=.ok 1):=Lib.hid (by rw [HTS.out]; rfl)
     clear HTS hown
     go_wp2_with fail
     go_ret2
     exact ⟨by rw [HV.out]; rfl,HBW.out⟩
    ·have hnm:(∃ m:ByteArray,m=n):=⟨n,rfl⟩
     clear hnm hown
     have HFN:=Lib.hid (fun (W:World) (hbW:Below w.heap.size w W)=>find_any Ab cb Bb bs n W (Rd.below' HR.out hbW hBb) (Nat.le_trans hBb hbW.size) hbl)
     have HT1:Hid (typE bs (Ex.mk 2 o n v xs)=match findB bs n with | none=>.er 7 | some b=>.ok b.ty):=Lib.hid (by rw [HTS.out]; rfl)
     clear HTS
     generalize findB bs n=fb at HFN HT1
     cases fb with
     | none=>
      unfold fndV at HFN
      dsimp only at HFN HT1
      go_wp2_with (go_at_call 105; refine (HFN.out _ HBW.out).mono ?_; rintro e w5 ⟨rfl,hb5⟩)
      go_ret2
      exact ⟨by rw [HT1.out]; rfl,(HBW.out.trans (hb5.mono HBW.out.size)).alloc (Nat.le_trans HBW.out.size hb5.size) _⟩
     | some b=>
      unfold fndV at HFN
      dsimp only at HFN HT1
      go_wp2_with (go_at_call 105; refine (HFN.out _ HBW.out).mono ?_; rintro e w5 ⟨rfl,hb5⟩)
      go_ret2
      exact ⟨by rw [HT1.out]; rfl,(HBW.out.trans (hb5.mono HBW.out.size)).alloc (Nat.le_trans HBW.out.size hb5.size) _⟩
    ·have hun:=HP.out.un rfl
     simp only [Ex.op] at hun
     have hl1:ts.length=1:=HLK.out
     obtain ⟨t0,rfl⟩:∃ t0,ts=[t0]:=by
      match ts,hl1 with
      | [t],_=>exact ⟨t,rfl⟩
     obtain ⟨g,gc,rfl,-,hgl⟩:=hown.form (by simp)
     have c0:wr.cell? ⟨g,0,none⟩=some (.int .i64 t0):=by
      have:=hown.cells (g:=g) rfl 0 _ rfl
      simpa [Addr.add] using this
     clear hown hl1
     rcases hun with rfl | rfl
     ·by_cases ht:t0=1
      ·have e1:(t0 != 1)=false:=by simpa using ht
       have HV:Hid (typE bs (Ex.mk 3 1 n v xs)=.ok 1):=Lib.hid (by rw [HTS.out,ht]; rfl)
       clear HTS ht
       go_wp2_with fail
       go_ret2
       exact ⟨by rw [HV.out]; rfl,HBW.out⟩
      ·have e1:(t0 != 1)=true:=by simpa using ht
       have HV:Hid (typE bs (Ex.mk 3 1 n v xs)=.er 15):=Lib.hid (by rw [HTS.out]; simp [typ1,ht])
       clear HTS ht
       go_wp2_with fail
       go_ret2
       exact ⟨by rw [HV.out]; rfl,HBW.out⟩
     ·by_cases ht:t0=2
      ·have e1:(t0 != 2)=false:=by simpa using ht
       have HV:Hid (typE bs (Ex.mk 3 2 n v xs)=.ok 2):=Lib.hid (by rw [HTS.out,ht]; rfl)
       clear HTS ht
       go_wp2_with fail
       go_ret2
       exact ⟨by rw [HV.out]; rfl,HBW.out⟩
      ·have e1:(t0 != 2)=true:=by simpa using ht
       have HV:Hid (typE bs (Ex.mk 3 2 n v xs)=.er 15):=Lib.hid (by rw [HTS.out]; simp [typ1,ht])
       clear HTS ht
       go_wp2_with fail
       go_ret2
       exact ⟨by rw [HV.out]; rfl,HBW.out⟩
    ·have hbin:=HP.out.bin rfl
     simp only [Ex.op] at hbin
     go_upto_region 25 with fail
     go_cut [14] (fun r14 wx=>∃ X:Nat,r14=.pointer (some ⟨X,0,none⟩)∧wx.cell? ⟨X,2,none⟩=some (.int .i64 (opArg o))∧wx.cell? ⟨X,3,none⟩=some (.int .i64 (opRes o))∧Below wr.heap.size wr wx)
     case first=>
      have hzd0:w.heap.size<wr.heap.size:=hz3
      replace x0:wr.drew.cell? ⟨w.heap.size,0,none⟩=_:=x0
      have y1:wr.drew.cell? ⟨w.heap.size,1,none⟩=some (.int .i64 o):=x1
      have hzd:w.heap.size<wr.drew.heap.size:=hzd0
      have hbe:Below wr.heap.size wr wr.drew:=⟨rfl,rfl,rfl,Nat.le_refl _,fun _ _=>rfl⟩
      refine wp_region_held_drew (S:=fun w'=>w'.cell? ⟨w.heap.size,1,none⟩=some (.int .i64 o)∧w.heap.size<w'.heap.size) (by kernel_rfl) ⟨y1,hzd⟩ (fun hHeld=>?_)
      clear x0 x1 x2 x3 x4 hown hzd0
      generalize wr.drew=we at y1 hzd hHeld hbe ⊢
      have y1a:=fun ob=>(World.cell?_alloc_lt we ob ⟨w.heap.size,1,none⟩ hzd).trans y1
      have hza:=fun ob:Obj=>Nat.lt_of_lt_of_le hzd (below_alloc we ob).size
      have y1b:=y1a (.cells #[.string ⟨#[]⟩,.int .i64 0,.int .i64 0,.int .i64 0,.nilFunc] 124)
      have hzb:=hza (.cells #[.string ⟨#[]⟩,.int .i64 0,.int .i64 0,.int .i64 0,.nilFunc] 124)
      have za0:(we.alloc (.cells #[.string ⟨#[]⟩,.int .i64 0,.int .i64 0,.int .i64 0,.nilFunc] 124)).cell? ⟨we.heap.size,0,none⟩=some (.string ⟨#[]⟩):=bx_new we #[.string ⟨#[]⟩,.int .i64 0,.int .i64 0,.int .i64 0,.nilFunc] 124 0 _ rfl
      have fa0:(we.alloc (.cells #[.string ⟨#[]⟩,.int .i64 0,.int .i64 0,.int .i64 0,.nilFunc] 124)).frozen? ⟨we.heap.size,0,none⟩=false:=by simp
      have za1:(we.alloc (.cells #[.string ⟨#[]⟩,.int .i64 0,.int .i64 0,.int .i64 0,.nilFunc] 124)).cell? ⟨we.heap.size,1,none⟩=some (.int .i64 0):=bx_new we #[.string ⟨#[]⟩,.int .i64 0,.int .i64 0,.int .i64 0,.nilFunc] 124 1 _ rfl
      have fa1:(we.alloc (.cells #[.string ⟨#[]⟩,.int .i64 0,.int .i64 0,.int .i64 0,.nilFunc] 124)).frozen? ⟨we.heap.size,1,none⟩=false:=by simp
      have za2:(we.alloc (.cells #[.string ⟨#[]⟩,.int .i64 0,.int .i64 0,.int .i64 0,.nilFunc] 124)).cell? ⟨we.heap.size,2,none⟩=some (.int .i64 0):=bx_new we #[.string ⟨#[]⟩,.int .i64 0,.int .i64 0,.int .i64 0,.nilFunc] 124 2 _ rfl
      have fa2:(we.alloc (.cells #[.string ⟨#[]⟩,.int .i64 0,.int .i64 0,.int .i64 0,.nilFunc] 124)).frozen? ⟨we.heap.size,2,none⟩=false:=by simp
      have za3:(we.alloc (.cells #[.string ⟨#[]⟩,.int .i64 0,.int .i64 0,.int .i64 0,.nilFunc] 124)).cell? ⟨we.heap.size,3,none⟩=some (.int .i64 0):=bx_new we #[.string ⟨#[]⟩,.int .i64 0,.int .i64 0,.int .i64 0,.nilFunc] 124 3 _ rfl
      have fa3:(we.alloc (.cells #[.string ⟨#[]⟩,.int .i64 0,.int .i64 0,.int .i64 0,.nilFunc] 124)).frozen? ⟨we.heap.size,3,none⟩=false:=by simp
      have za4:(we.alloc (.cells #[.string ⟨#[]⟩,.int .i64 0,.int .i64 0,.int .i64 0,.nilFunc] 124)).cell? ⟨we.heap.size,4,none⟩=some (.nilFunc):=bx_new we #[.string ⟨#[]⟩,.int .i64 0,.int .i64 0,.int .i64 0,.nilFunc] 124 4 _ rfl
      have fa4:(we.alloc (.cells #[.string ⟨#[]⟩,.int .i64 0,.int .i64 0,.int .i64 0,.nilFunc] 124)).frozen? ⟨we.heap.size,4,none⟩=false:=by simp
      have hlz:we.heap.size<(we.alloc (.cells #[.string ⟨#[]⟩,.int .i64 0,.int .i64 0,.int .i64 0,.nilFunc] 124)).heap.size:=by simp
      have hne5:we.heap.size≠w.heap.size:=Nat.ne_of_gt hzd
      have HZ:=Lib.hid (And.intro za0 (And.intro za1 (And.intro za2 (And.intro za3 za4))))
      have HF:=Lib.hid (And.intro fa0 (And.intro fa1 (And.intro fa2 (And.intro fa3 fa4))))
      clear za0 za1 za2 za3 za4 fa0 fa1 fa2 fa3 fa4
      have H25A:Hid (∀ (W5:World) (s5:ByteArray) (p5:Int) (g5:Fn) (c5:Array Value),Below we.heap.size we W5→(fun wx:World=>wx.cell? ⟨W5.heap.size,2,none⟩=some (.int .i64 (opArg o))∧wx.cell? ⟨W5.heap.size,3,none⟩=some (.int .i64 (opRes o))∧Below wr.heap.size wr wx) (W5.alloc (.cells #[.string s5,.int .i64 p5,.int .i64 (opArg o),.int .i64 (opRes o),.func g5 #[] c5] 124))):=Lib.hid (fun W5 s5 p5 g5 c5 hb=>⟨bx_new W5 #[.string s5,.int .i64 p5,.int .i64 (opArg o),.int .i64 (opRes o),.func g5 #[] c5] 124 2 _ rfl,bx_new W5 #[.string s5,.int .i64 p5,.int .i64 (opArg o),.int .i64 (opRes o),.func g5 #[] c5] 124 3 _ rfl,(hbe.trans (hb.mono hbe.size)).alloc (Nat.le_trans hbe.size hb.size) _⟩)
      have H25B:Hid (∀ (W5:World) (s5:ByteArray) (p5:Int) (g5:Fn) (c5:Array Value),Below (we.alloc (.cells #[.string ⟨#[]⟩,.int .i64 0,.int .i64 0,.int .i64 0,.nilFunc] 124)).heap.size (we.alloc (.cells #[.string ⟨#[]⟩,.int .i64 0,.int .i64 0,.int .i64 0,.nilFunc] 124)) W5→W5.cell? ⟨we.heap.size,0,none⟩=some (.string ⟨#[]⟩)→W5.cell? ⟨we.heap.size,1,none⟩=some (.int .i64 0)→W5.cell? ⟨we.heap.size,2,none⟩=some (.int .i64 0)→W5.cell? ⟨we.heap.size,3,none⟩=some (.int .i64 0)→W5.cell? ⟨we.heap.size,4,none⟩=some .nilFunc→(fun wx:World=>wx.cell? ⟨we.heap.size,2,none⟩=some (.int .i64 (opArg o))∧wx.cell? ⟨we.heap.size,3,none⟩=some (.int .i64 (opRes o))∧Below wr.heap.size wr wx) (((((W5.setCell ⟨we.heap.size,0,none⟩ (.string s5)).setCell ⟨we.heap.size,1,none⟩ (.int .i64 p5)).setCell ⟨we.heap.size,2,none⟩ (.int .i64 (opArg o))).setCell ⟨we.heap.size,3,none⟩ (.int .i64 (opRes o))).setCell ⟨we.heap.size,4,none⟩ (.func g5 #[] c5))):=Lib.hid (fun W5 s5 p5 g5 c5 hb h0 h1 h2 h3 h4=>⟨(set5_23 h2 h3 _ _ _ _ _).1,(set5_23 h2 h3 _ _ _ _ _).2,set5_below ((hbe.alloc hbe.size _).trans (hb.mono (Nat.le_of_lt (Nat.lt_of_le_of_lt hbe.size hlz)))) hbe.size _ _ _ _ _⟩)
      refine wpAnyH_take (i:=1) (v:=?_) rfl (by kernel_rfl) (by kernel_rfl) (by kernel_rfl) (fun _ _ _ h=>h) (Or.inl ⟨by kernel_rfl,?_⟩) (by assumption) ?_
      rotate_left
      ·intro w hSw; (try dsimp only at hSw); go_simp; with_reducible rfl
      try simp only [List.getElem_toArray,List.getElem_cons_succ,List.getElem_cons_zero,Act.put,List.setIfInBounds_toArray,List.set_cons_zero,List.set_cons_succ]
      refine wpAnyH_take (i:=2) (v:=?_) rfl (by kernel_rfl) (by kernel_rfl) (by kernel_rfl) (fun _ _ _ h=>h) (Or.inl ⟨by kernel_rfl,?_⟩) (by assumption) ?_
      rotate_left
      ·intro w hSw; (try dsimp only at hSw); go_simp; with_reducible rfl
      try simp only [List.getElem_toArray,List.getElem_cons_succ,List.getElem_cons_zero,Act.put,List.setIfInBounds_toArray,List.set_cons_zero,List.set_cons_succ]
      refine wpAnyH_ready (rs:=[0,4]) (by kernel_rfl) (by simp) ?_
      refine (AllReadyH.cons rfl (fun K hK=>?_) (AllReadyH.cons rfl (fun K hK=>?_) AllReadyH.nil))
      ·go_simp
       first
       | (refine (ops_val we w.heap.size o hbin y1 hzd).mono ?_; rintro e W5 ⟨M5,s5,p5,g5,c5,rfl,q1,q2,hb5a,l1,l2,q1a,q2a⟩)
       | (refine (ops_val _ w.heap.size o hbin y1b hzb).mono ?_; rintro e W5 ⟨M5,s5,p5,g5,c5,rfl,r1,r2,hb5b,l1,l2,r1a,r2a⟩; have z0:=(hb5b.cell (p:=⟨we.heap.size,0,none⟩) hlz).trans HZ.out.1; have g0:=(hb5b.frozen (p:=⟨we.heap.size,0,none⟩) hlz).trans HF.out.1; have z1:=(hb5b.cell (p:=⟨we.heap.size,1,none⟩) hlz).trans HZ.out.2.1; have g1:=(hb5b.frozen (p:=⟨we.heap.size,1,none⟩) hlz).trans HF.out.2.1; have z2:=(hb5b.cell (p:=⟨we.heap.size,2,none⟩) hlz).trans HZ.out.2.2.1; have g2:=(hb5b.frozen (p:=⟨we.heap.size,2,none⟩) hlz).trans HF.out.2.2.1; have z3:=(hb5b.cell (p:=⟨we.heap.size,3,none⟩) hlz).trans HZ.out.2.2.2.1; have g3:=(hb5b.frozen (p:=⟨we.heap.size,3,none⟩) hlz).trans HF.out.2.2.2.1; have z4:=(hb5b.cell (p:=⟨we.heap.size,4,none⟩) hlz).trans HZ.out.2.2.2.2; have g4:=(hb5b.frozen (p:=⟨we.heap.size,4,none⟩) hlz).trans HF.out.2.2.2.2)
       try dsimp only
       refine hK.out _ _ ?_ (fun hHeld=>?_)
       ·first | exact ⟨q1,q2⟩ | exact ⟨r1,r2⟩
       clear hK K
       try simp only [List.getElem_toArray,List.getElem_cons_succ,List.getElem_cons_zero,Act.put,List.setIfInBounds_toArray,List.set_cons_zero,List.set_cons_succ]
       refine wpAnyH_ready (rs:=[3,4]) (by kernel_rfl) (by simp) ?_
       refine (AllReadyH.cons rfl (fun K hK=>?_) (AllReadyH.cons rfl (fun K hK=>?_) AllReadyH.nil))
       ·go_simp
        refine hK.out _ _ ?_ (fun hHeld=>?_)
        ·exact hHeld
        clear hK K
        try simp only [List.getElem_toArray,List.getElem_cons_succ,List.getElem_cons_zero,Act.put,List.setIfInBounds_toArray,List.set_cons_zero,List.set_cons_succ]
        refine wpAnyH_ready (rs:=[4]) (by kernel_rfl) (by simp) ?_
        refine AllReadyH.cons rfl (fun K hK=>?_) AllReadyH.nil
        go_simp
        refine hK.out _ _ ?_ (fun hHeld=>?_)
        ·first | exact ⟨q1a _,q2a _⟩ | exact ⟨y1a _,hza _⟩
        clear hK K
        try simp only [List.getElem_toArray,List.getElem_cons_succ,List.getElem_cons_zero,Act.put,List.setIfInBounds_toArray,List.set_cons_zero,List.set_cons_succ]
        refine wpAnyH_ready (rs:=[5]) (by kernel_rfl) (by simp) ?_
        refine AllReadyH.cons rfl (fun K hK=>?_) AllReadyH.nil
        go_simp
        refine hK.out _ _ ?_ (fun hHeld=>?_)
        ·first | exact ⟨q1a _,q2a _⟩ | exact ⟨(set5_far _ hne5 _ _ _ _ _ _).trans r1,Nat.lt_of_lt_of_eq r2 (set5_size _ _ _ _ _ _ _).symm⟩
        clear hK K
        try simp only [List.getElem_toArray,List.getElem_cons_succ,List.getElem_cons_zero,Act.put,List.setIfInBounds_toArray,List.set_cons_zero,List.set_cons_succ]
        refine wpAnyH_done (by kernel_rfl) ?_ _
        try dsimp only [Exit.then]
        go_wp2_with fail
        go_meet
        case rel=>first | exact ⟨_,rfl,H25A.out W5 _ _ _ _ hb5a⟩ | exact ⟨_,rfl,H25B.out W5 _ _ _ _ hb5b z0 z1 z2 z3 z4⟩
       ·go_simp
        refine hK.out _ _ ?_ (fun hHeld=>?_)
        ·first | exact ⟨q1a _,q2a _⟩ | exact ⟨y1a _,hza _⟩
        clear hK K
        try simp only [List.getElem_toArray,List.getElem_cons_succ,List.getElem_cons_zero,Act.put,List.setIfInBounds_toArray,List.set_cons_zero,List.set_cons_succ]
        refine wpAnyH_ready (rs:=[3]) (by kernel_rfl) (by simp) ?_
        refine AllReadyH.cons rfl (fun K hK=>?_) AllReadyH.nil
        go_simp
        refine hK.out _ _ ?_ (fun hHeld=>?_)
        ·exact hHeld
        clear hK K
        try simp only [List.getElem_toArray,List.getElem_cons_succ,List.getElem_cons_zero,Act.put,List.setIfInBounds_toArray,List.set_cons_zero,List.set_cons_succ]
        refine wpAnyH_ready (rs:=[5]) (by kernel_rfl) (by simp) ?_
        refine AllReadyH.cons rfl (fun K hK=>?_) AllReadyH.nil
        go_simp
        refine hK.out _ _ ?_ (fun hHeld=>?_)
        ·first | exact ⟨q1a _,q2a _⟩ | exact ⟨(set5_far _ hne5 _ _ _ _ _ _).trans r1,Nat.lt_of_lt_of_eq r2 (set5_size _ _ _ _ _ _ _).symm⟩
        clear hK K
        try simp only [List.getElem_toArray,List.getElem_cons_succ,List.getElem_cons_zero,Act.put,List.setIfInBounds_toArray,List.set_cons_zero,List.set_cons_succ]
        refine wpAnyH_done (by kernel_rfl) ?_ _
        try dsimp only [Exit.then]
        go_wp2_with fail
        go_meet
        case rel=>first | exact ⟨_,rfl,H25A.out W5 _ _ _ _ hb5a⟩ | exact ⟨_,rfl,H25B.out W5 _ _ _ _ hb5b z0 z1 z2 z3 z4⟩
      ·go_simp
       refine hK.out _ _ ?_ (fun hHeld=>?_)
       ·first | exact ⟨q1a _,q2a _⟩ | exact ⟨y1a _,hza _⟩
       clear hK K
       try simp only [List.getElem_toArray,List.getElem_cons_succ,List.getElem_cons_zero,Act.put,List.setIfInBounds_toArray,List.set_cons_zero,List.set_cons_succ]
       refine wpAnyH_ready (rs:=[0]) (by kernel_rfl) (by simp) ?_
       refine AllReadyH.cons rfl (fun K hK=>?_) AllReadyH.nil
       go_simp
       first
       | (refine (ops_val we w.heap.size o hbin y1 hzd).mono ?_; rintro e W5 ⟨M5,s5,p5,g5,c5,rfl,q1,q2,hb5a,l1,l2,q1a,q2a⟩)
       | (refine (ops_val _ w.heap.size o hbin y1b hzb).mono ?_; rintro e W5 ⟨M5,s5,p5,g5,c5,rfl,r1,r2,hb5b,l1,l2,r1a,r2a⟩; have z0:=(hb5b.cell (p:=⟨we.heap.size,0,none⟩) hlz).trans HZ.out.1; have g0:=(hb5b.frozen (p:=⟨we.heap.size,0,none⟩) hlz).trans HF.out.1; have z1:=(hb5b.cell (p:=⟨we.heap.size,1,none⟩) hlz).trans HZ.out.2.1; have g1:=(hb5b.frozen (p:=⟨we.heap.size,1,none⟩) hlz).trans HF.out.2.1; have z2:=(hb5b.cell (p:=⟨we.heap.size,2,none⟩) hlz).trans HZ.out.2.2.1; have g2:=(hb5b.frozen (p:=⟨we.heap.size,2,none⟩) hlz).trans HF.out.2.2.1; have z3:=(hb5b.cell (p:=⟨we.heap.size,3,none⟩) hlz).trans HZ.out.2.2.2.1; have g3:=(hb5b.frozen (p:=⟨we.heap.size,3,none⟩) hlz).trans HF.out.2.2.2.1; have z4:=(hb5b.cell (p:=⟨we.heap.size,4,none⟩) hlz).trans HZ.out.2.2.2.2; have g4:=(hb5b.frozen (p:=⟨we.heap.size,4,none⟩) hlz).trans HF.out.2.2.2.2)
       try dsimp only
       refine hK.out _ _ ?_ (fun hHeld=>?_)
       ·first | exact ⟨q1,q2⟩ | exact ⟨r1,r2⟩
       clear hK K
       try simp only [List.getElem_toArray,List.getElem_cons_succ,List.getElem_cons_zero,Act.put,List.setIfInBounds_toArray,List.set_cons_zero,List.set_cons_succ]
       refine wpAnyH_ready (rs:=[3]) (by kernel_rfl) (by simp) ?_
       refine AllReadyH.cons rfl (fun K hK=>?_) AllReadyH.nil
       go_simp
       refine hK.out _ _ ?_ (fun hHeld=>?_)
       ·exact hHeld
       clear hK K
       try simp only [List.getElem_toArray,List.getElem_cons_succ,List.getElem_cons_zero,Act.put,List.setIfInBounds_toArray,List.set_cons_zero,List.set_cons_succ]
       refine wpAnyH_ready (rs:=[5]) (by kernel_rfl) (by simp) ?_
       refine AllReadyH.cons rfl (fun K hK=>?_) AllReadyH.nil
       go_simp
       refine hK.out _ _ ?_ (fun hHeld=>?_)
       ·first | exact ⟨q1a _,q2a _⟩ | exact ⟨(set5_far _ hne5 _ _ _ _ _ _).trans r1,Nat.lt_of_lt_of_eq r2 (set5_size _ _ _ _ _ _ _).symm⟩
       clear hK K
       try simp only [List.getElem_toArray,List.getElem_cons_succ,List.getElem_cons_zero,Act.put,List.setIfInBounds_toArray,List.set_cons_zero,List.set_cons_succ]
       refine wpAnyH_done (by kernel_rfl) ?_ _
       try dsimp only [Exit.then]
       go_wp2_with fail
       go_meet
       case rel=>first | exact ⟨_,rfl,H25A.out W5 _ _ _ _ hb5a⟩ | exact ⟨_,rfl,H25B.out W5 _ _ _ _ hb5b z0 z1 z2 z3 z4⟩
     case rest=>
      obtain ⟨X,rfl,p2,p3,hbX⟩:=hcut
      have hl2:ts.length=2:=HLK.out
      obtain ⟨t0,t1,rfl⟩:∃ t0 t1,ts=[t0,t1]:=by
       match ts,hl2 with
       | [t0,t1],_=>exact ⟨t0,t1,rfl⟩
      obtain ⟨g,gc,rfl,-,hgl⟩:=hown.form (by simp)
      have c0:wr.cell? ⟨g,0,none⟩=some (.int .i64 t0):=by
       have:=hown.cells (g:=g) rfl 0 _ rfl
       simpa [Addr.add] using this
      have c1:wr.cell? ⟨g,1,none⟩=some (.int .i64 t1):=by
       have:=hown.cells (g:=g) rfl 1 _ rfl
       simpa [Addr.add] using this
      have hgw:g<wr.heap.size:=(World.ownsRow.lt hown g rfl).2
      replace c0:=(hbX.cell (p:=⟨g,0,none⟩) hgw).trans c0
      replace c1:=(hbX.cell (p:=⟨g,1,none⟩) hgw).trans c1
      have HBX:=Lib.hid (HBW.out.trans (hbX.mono HBW.out.size))
      clear hown hl2 hbX x0 x1 x2 x3 x4 hgw hgl
      by_cases h01:t0=t1
      ·subst h01
       have e1:(t0 != t0)=false:=by simp
       by_cases ho:opArg o=0
       ·have e2:(opArg o != 0)=false:=by simpa using ho
        have HV:Hid (typE bs (Ex.mk 4 o n v xs)=.ok (opRes o)):=Lib.hid (by rw [HTS.out]; simp [typ1,ho])
        clear HTS ho
        go_wp2_with fail
        go_quiet (fail)
        go_wp2_with fail
        go_ret2
        exact ⟨by rw [HV.out]; rfl,HBX.out.trans (below_drews _ _ _)⟩
       ·have e2:(opArg o != 0)=true:=by simpa using ho
        by_cases hto:t0=opArg o
        ·have e3:(t0 != opArg o)=false:=by simpa using hto
         have HV:Hid (typE bs (Ex.mk 4 o n v xs)=.ok (opRes o)):=Lib.hid (by rw [HTS.out]; simp [typ1,hto])
         clear HTS ho hto
         go_wp2_with fail
         go_quiet (fail)
         go_wp2_with fail
         go_ret2
         exact ⟨by rw [HV.out]; rfl,HBX.out.trans (below_drews _ _ _)⟩
        ·have e3:(t0 != opArg o)=true:=by simpa using hto
         have HV:Hid (typE bs (Ex.mk 4 o n v xs)=.er 15):=Lib.hid (by rw [HTS.out]; simp [typ1,hto,ho])
         clear HTS ho hto
         go_wp2_with fail
         go_quiet (fail)
         go_wp2_with fail
         go_ret2
         exact ⟨by rw [HV.out]; rfl,HBX.out.trans (below_drews _ _ _)⟩
      ·have e1:(t0 != t1)=true:=by simpa using h01
       have HV:Hid (typE bs (Ex.mk 4 o n v xs)=.er 15):=Lib.hid (by rw [HTS.out]; simp [typ1,h01])
       clear HTS h01
       go_wp2_with fail
       go_quiet (fail)
       go_wp2_with fail
       go_ret2
       exact ⟨by rw [HV.out]; rfl,HBX.out.trans (below_drews _ _ _)⟩
end Go.Proofs.YtmbffkemfepekaaGreatDoor

namespace Go.Proofs.YtmbffkemfepekaaGreatDoor
open Go.RowKit
set_option maxRecDepth 100000 in
set_option maxHeartbeats 1600000 in
theorem type_any (bs:List Bd) (Ab:Option Addr) (cb Bb:Nat) (hbl:bs.length≤140737488355328) (e:Ex) (lo:Nat) (vs:List Value) (w:World) (hL:LiesE w lo vs e) (hlo:lo≤w.heap.size) (hR:RdB w Bb Ab bs) (hBb:Bb≤w.heap.size)
  (hbd:∀ W,Below w.heap.size w W→Calls Tryz.prog 56 #[.slice Ab bs.length cb] W (Ret (.bool true) W)) :
  Calls Tryz.prog 28 #[.agg vs.toArray,.slice Ab bs.length cb] w (Ret (ansV (typeE bs e)) w):=by
 obtain ⟨A,cap,rfl,bd,-⟩:=hL.arg
 have HCK:Hid (∀ W,Below w.heap.size w W→Calls Tryz.prog 40 #[.agg (exC e.kind e.op e.name e.val A e.args.length cap).toArray] W (Ret (.int .i64 (chkE e:Nat)) W)):=Lib.hid (fun W hW=>exCheck_any (hL.below' hW hlo) (Nat.le_trans hlo hW.size))
 have HBD:=Lib.hid hbd
 have HTY:Hid (chkE e=0→∀ W,Below w.heap.size w W→Calls Tryz.prog 57 #[.agg (exC e.kind e.op e.name e.val A e.args.length cap).toArray,.slice Ab bs.length cb] W (Ret (ansV (typE bs e)) W)):=Lib.hid (fun h W hW=>typed_any bs Ab cb Bb hbl e lo _ W (good_of e h).1 (hL.below' hW hlo) (Nat.le_trans hlo hW.size) (Rd.below' hR hW hBb) (Nat.le_trans hBb hW.size))
 unfold exC Ret at HCK
 unfold exC ansV Ret at HTY
 unfold Ret at HBD
 clear hL hR hbd bd
 unfold exC ansV Ret
 by_cases hc:chkE e=0
 ·have HV:Hid (typeE bs e=typE bs e):=Lib.hid (by unfold typeE; rw [if_pos hc])
  rw [hc] at HCK
  replace HTY:=Lib.hid (HTY.out hc)
  clear hc
  have hO:=one_new w #[.int .i64 e.kind,.int .i64 e.op,.string e.name,.int .i64 e.val,.slice A e.args.length cap] 38
  go_enter Tryz.func28,Tryz.ntmps28
  go_upto_region 1 with fail
  generalize w.alloc _=w1 at hO ⊢
  obtain ⟨x0,x1,x2,x3,x4⟩:=bx5 hO.fst
  go_wp2_with fail
  refine (HCK.out _ hO.below).mono ?_
  rintro e5 w5 ⟨rfl,hb5⟩
  clear x0 x1 x2 x3 x4
  replace hO:=hO.next hb5
  clear hb5
  go_wp2_with fail
  refine (HBD.out _ hO.below).mono ?_
  rintro e6 w6 ⟨rfl,hb6⟩
  replace hO:=hO.next hb6
  clear hb6
  obtain ⟨x0,x1,x2,x3,x4⟩:=bx5 hO.fst
  go_wp2_with fail
  refine (HTY.out _ hO.below).mono ?_
  rintro e7 w7 ⟨rfl,hb7⟩
  replace hb7:=hO.below.trans (hb7.mono hO.below.size)
  clear x0 x1 x2 x3 x4 hO
  go_wp2_with fail
  go_ret2
  exact ⟨by rw [HV.out]; rfl,hb7⟩
 ·have HV:Hid (typeE bs e=.er (chkE e)):=Lib.hid (by unfold typeE; rw [if_neg hc])
  generalize chkE e=f at HCK HV hc
  have e1:((f:Int) != 0)=true:=by simpa using hc
  have e2:(f != 0)=true:=by simpa using hc
  clear hc HTY HBD
  go_enter Tryz.func28,Tryz.ntmps28
  go_wp2_with (go_at_call 40; refine (HCK.out _ (below_alloc _ _)).mono ?_; rintro e5 w5 ⟨rfl,hb5⟩; replace hb5:=(below_alloc _ _).trans (hb5.mono (below_alloc w _).size))
  go_ret2
  exact ⟨by rw [HV.out]; rfl,hb5⟩
end Go.Proofs.YtmbffkemfepekaaGreatDoor

namespace Go.Proofs.YtmbffkemfepekaaGreatDoor
open Go.RowKit
/-- An operand. -/
def Sm (a:Int):Prop:=-1099511627776≤a∧a≤1099511627776
/-- A value comes back and the world does not change. -/
def RetP (v:Value) (w:World):Ending→World→Prop:=fun e W=>e=.returned v∧W=w
set_option maxRecDepth 100000
theorem abs_any (n:Int) (hn:n.natAbs≤4611686018427387904) (w:World):Calls Tryz.prog 151 #[.int .i64 n] w (RetP (.int .i64 (n.natAbs:Int)) w):=by
 unfold RetP
 have hw:IntKind.i64.wrap (-n) = -n:=by rw [IntKind.wrap_i64]; omega
 go_enter Tryz.func151,Tryz.ntmps151
 go_wp2_with fail
 ·have e3:((n.natAbs:Nat):Int) = -n:=by omega
  rw [e3]
  go_ret
  exact ⟨rfl,rfl⟩
 ·have e3:((n.natAbs:Nat):Int)=n:=by omega
  rw [e3]
  go_ret
  exact ⟨rfl,rfl⟩
theorem add_any (a b:Int) (ha:Sm a) (hb:Sm b) (w:World):Calls Tryz.prog 117 #[.int .i64 a,.int .i64 b] w (RetP (.int .i64 (a+b)) w):=by
 unfold RetP
 unfold Sm at ha hb
 have hw:IntKind.i64.wrap (a+b)=a+b:=by rw [IntKind.wrap_i64]; omega
 go_enter Tryz.func117,Tryz.ntmps117
 go_wp2_with fail
 go_ret
 exact ⟨rfl,rfl⟩
theorem sub_any (a b:Int) (ha:Sm a) (hb:Sm b) (w:World):Calls Tryz.prog 118 #[.int .i64 a,.int .i64 b] w (RetP (.int .i64 (a - b)) w):=by
 unfold RetP
 unfold Sm at ha hb
 have hw:IntKind.i64.wrap (a - b)=a - b:=by rw [IntKind.wrap_i64]; omega
 go_enter Tryz.func118,Tryz.ntmps118
 go_wp2_with fail
 go_ret
 exact ⟨rfl,rfl⟩
theorem eq_any (a b:Int) (w:World):Calls Tryz.prog 124 #[.int .i64 a,.int .i64 b] w (RetP (.bool (decide (a=b))) w):=by
 unfold RetP
 go_enter Tryz.func124,Tryz.ntmps124
 go_wp2_with fail
 go_ret
 exact ⟨rfl,rfl⟩
theorem ne_any (a b:Int) (w:World):Calls Tryz.prog 125 #[.int .i64 a,.int .i64 b] w (RetP (.bool (!decide (a=b))) w):=by
 unfold RetP
 go_enter Tryz.func125,Tryz.ntmps125
 go_wp2_with fail
 go_ret
 exact ⟨rfl,rfl⟩
theorem lt_any (a b:Int) (w:World):Calls Tryz.prog 126 #[.int .i64 a,.int .i64 b] w (RetP (.bool (decide (a<b))) w):=by
 unfold RetP
 go_enter Tryz.func126,Tryz.ntmps126
 go_wp2_with fail
 go_ret
 exact ⟨rfl,rfl⟩
theorem le_any (a b:Int) (w:World):Calls Tryz.prog 127 #[.int .i64 a,.int .i64 b] w (RetP (.bool (decide (a≤b))) w):=by
 unfold RetP
 go_enter Tryz.func127,Tryz.ntmps127
 go_wp2_with fail
 go_ret
 exact ⟨rfl,rfl⟩
theorem gt_any (a b:Int) (w:World):Calls Tryz.prog 128 #[.int .i64 a,.int .i64 b] w (RetP (.bool (decide (b<a))) w):=by
 unfold RetP
 go_enter Tryz.func128,Tryz.ntmps128
 go_wp2_with fail
 go_ret
 exact ⟨rfl,rfl⟩
theorem ge_any (a b:Int) (w:World):Calls Tryz.prog 129 #[.int .i64 a,.int .i64 b] w (RetP (.bool (decide (b≤a))) w):=by
 unfold RetP
 go_enter Tryz.func129,Tryz.ntmps129
 go_wp2_with fail
 go_ret
 exact ⟨rfl,rfl⟩
theorem and_any (a b:Int) (w:World):Calls Tryz.prog 130 #[.int .i64 a,.int .i64 b] w (RetP (.bool (a != 0 && b != 0)) w):=by
 unfold RetP
 by_cases h:a=0
 ·have e1:(a != 0)=false:=by simpa using h
  rw [e1]
  clear h
  go_enter Tryz.func130,Tryz.ntmps130
  go_wp2_with fail
  go_ret
  exact ⟨rfl,rfl⟩
 ·have e1:(a != 0)=true:=by simpa using h
  rw [e1]
  clear h
  go_enter Tryz.func130,Tryz.ntmps130
  go_wp2_with fail
  go_ret
  exact ⟨rfl,rfl⟩
theorem or_any (a b:Int) (w:World):Calls Tryz.prog 131 #[.int .i64 a,.int .i64 b] w (RetP (.bool (a != 0 || b != 0)) w):=by
 unfold RetP
 by_cases h:a=0
 ·have e1:(a != 0)=false:=by simpa using h
  rw [e1]
  clear h
  go_enter Tryz.func131,Tryz.ntmps131
  go_wp2_with fail
  go_ret
  exact ⟨rfl,rfl⟩
 ·have e1:(a != 0)=true:=by simpa using h
  rw [e1]
  clear h
  go_enter Tryz.func131,Tryz.ntmps131
  go_wp2_with fail
  go_ret
  exact ⟨rfl,rfl⟩
theorem number_of (F:Nat) (cc:Array Value) (a b r:Int) (g:Nat) (w:World) (hc:w.cell? ⟨g,0,none⟩=some (.func (.func F) #[] cc)) (eg:∀ (args:Array Value) (W:World),(callFunc F args).run Tryz.prog W=.ok (.enter F args) W) (hF:∀ W:World,Below w.heap.size w W→Calls Tryz.prog F (#[.int .i64 a,.int .i64 b]++cc) W (Ret (.int .i64 r) W)):Calls Tryz.prog 154 #[.int .i64 a,.int .i64 b,.pointer (some ⟨g,0,none⟩)] w (Ret (.tuple #[.int .i64 r,.int .i64 0]) w):=by
 unfold Ret
 have HF:=Lib.hid (hF w (Below.refl _ _))
 unfold Ret at HF
 clear hF
 go_enter Tryz.func154,Tryz.ntmps154
 go_wp2_with (refine HF.out.mono ?_; rintro e w5 ⟨rfl,hb5⟩)
 go_ret2
 exact ⟨rfl,hb5⟩
theorem truth_of (F:Nat) (cc:Array Value) (a b:Int) (r:Bool) (g:Nat) (w:World) (hc:w.cell? ⟨g,0,none⟩=some (.func (.func F) #[] cc)) (eg:∀ (args:Array Value) (W:World),(callFunc F args).run Tryz.prog W=.ok (.enter F args) W) (hF:∀ W:World,Below w.heap.size w W→Calls Tryz.prog F (#[.int .i64 a,.int .i64 b]++cc) W (Ret (.bool r) W)):Calls Tryz.prog 156 #[.int .i64 a,.int .i64 b,.pointer (some ⟨g,0,none⟩)] w (Ret (.int .i64 (oneI r)) w):=by
 unfold Ret
 have HF:=Lib.hid (hF w (Below.refl _ _))
 unfold Ret at HF
 clear hF
 cases r with
 | true=>
  go_enter Tryz.func156,Tryz.ntmps156
  go_wp2_with (refine HF.out.mono ?_; rintro e w5 ⟨rfl,hb5⟩)
  go_ret
  exact ⟨rfl,hb5⟩
 | false=>
  go_enter Tryz.func156,Tryz.ntmps156
  go_wp2_with (refine HF.out.mono ?_; rintro e w5 ⟨rfl,hb5⟩)
  go_ret
  exact ⟨rfl,hb5⟩
theorem divide_no (a:Int) (g:Nat) (w:World):Calls Tryz.prog 155 #[.int .i64 a,.int .i64 0,.pointer (some ⟨g,0,none⟩)] w (Ret (.tuple #[.int .i64 0,.int .i64 24]) w):=by
 unfold Ret
 go_enter Tryz.func155,Tryz.ntmps155
 go_wp2_with fail
 go_ret2
 exact ⟨rfl,Below.refl _ _⟩
theorem divide_of (F:Nat) (cc:Array Value) (a b r:Int) (hb:b≠0) (g:Nat) (w:World) (hc:w.cell? ⟨g,0,none⟩=some (.func (.func F) #[] cc)) (eg:∀ (args:Array Value) (W:World),(callFunc F args).run Tryz.prog W=.ok (.enter F args) W) (hF:∀ W:World,Below w.heap.size w W→Calls Tryz.prog F (#[.int .i64 a,.int .i64 b]++cc) W (Ret (.int .i64 r) W)):Calls Tryz.prog 155 #[.int .i64 a,.int .i64 b,.pointer (some ⟨g,0,none⟩)] w (Ret (.tuple #[.int .i64 r,.int .i64 0]) w):=by
 unfold Ret
 have HF:=Lib.hid (hF w (Below.refl _ _))
 have e1:(b == 0)=false:=by simpa using hb
 have e2:decide (b=0)=false:=decide_eq_false hb
 unfold Ret at HF
 clear hF hb
 go_enter Tryz.func155,Tryz.ntmps155
 go_wp2_with (refine HF.out.mono ?_; rintro e w5 ⟨rfl,hb5⟩)
 go_ret2
 exact ⟨rfl,hb5⟩
theorem quo_any (a b:Int) (ha:Sm a) (hb:b≠0) (w:World):Calls Tryz.prog 121 #[.int .i64 a,.int .i64 b] w (RetP (.int .i64 (a.tdiv b)) w):=by
 unfold RetP
 unfold Sm at ha
 have h2:(a.tdiv b).natAbs≤a.natAbs:=(Int.natAbs_tdiv a b).symm ▸ Nat.div_le_self a.natAbs b.natAbs
 have hw:IntKind.i64.wrap (a.tdiv b)=a.tdiv b:=by rw [IntKind.wrap_i64]; omega
 have e1:(b == 0)=false:=by simpa using hb
 have e2:decide (b=0)=false:=decide_eq_false hb
 clear h2
 go_enter Tryz.func121,Tryz.ntmps121
 go_wp2_with fail
 go_ret
 exact ⟨rfl,rfl⟩
theorem rem_any (a b:Int) (ha:Sm a) (hb:b≠0) (w:World):Calls Tryz.prog 122 #[.int .i64 a,.int .i64 b] w (RetP (.int .i64 (a.tmod b)) w):=by
 unfold RetP
 unfold Sm at ha
 have h2:(a.tmod b).natAbs≤a.natAbs:=(Int.natAbs_tmod a b).symm ▸ Nat.mod_le a.natAbs b.natAbs
 have hw:IntKind.i64.wrap (a.tmod b)=a.tmod b:=by rw [IntKind.wrap_i64]; omega
 have e1:(b == 0)=false:=by simpa using hb
 have e2:decide (b=0)=false:=decide_eq_false hb
 clear h2
 go_enter Tryz.func122,Tryz.ntmps122
 go_wp2_with fail
 go_ret
 exact ⟨rfl,rfl⟩
theorem tdiv_nat (k m:Nat):Int.tdiv (k:Int) (m:Int)=((k / m:Nat):Int):=by simp
theorem times_any (a b:Int) (ha:Sm a) (hb:Sm b) (w:World):Calls Tryz.prog 119 #[.int .i64 a,.int .i64 b] w (Ret (.tuple #[.int .i64 (opV 5 a b).n,.int .i64 ((opV 5 a b).f:Nat)]) w):=by
 unfold Ret
 unfold Sm at ha hb
 have HA:Hid (∀ W,Calls Tryz.prog 151 #[.int .i64 a] W (RetP (.int .i64 (a.natAbs:Int)) W)):=Lib.hid (fun W=>abs_any a (by omega) W)
 have HB:Hid (∀ W,Calls Tryz.prog 151 #[.int .i64 b] W (RetP (.int .i64 (b.natAbs:Int)) W)):=Lib.hid (fun W=>abs_any b (by omega) W)
 unfold RetP at HA HB
 by_cases h0:b=0
 ·subst h0
  have HV:Hid (opV 5 a 0=.ok 0):=Lib.hid (by simp [opV])
  clear ha hb
  go_enter Tryz.func119,Tryz.ntmps119
  go_wp2_with fail
  go_ret2
  exact ⟨by rw [HV.out]; simp [Ans.n,Ans.f],Below.refl _ _⟩
 ·have e1:(b != 0)=true:=by simpa using h0
  have e2:((b.natAbs:Int) == 0)=false:=by simpa using h0
  have e3:decide ((b.natAbs:Int)=0)=false:=decide_eq_false (by omega)
  obtain ⟨q,hq⟩:∃ q:Nat,q=1099511627776 / b.natAbs:=⟨_,rfl⟩
  have hd:q≤1099511627776:=hq ▸ Nat.div_le_self _ _
  have ht:Int.tdiv 1099511627776 (b.natAbs:Int)=(q:Int):=hq ▸ tdiv_nat 1099511627776 b.natAbs
  have hqi:(1099511627776:Int) / (b.natAbs:Int)=(q:Int):=by rw [hq]; exact (Int.natCast_ediv 1099511627776 b.natAbs).symm
  have hw:IntKind.i64.wrap (q:Int)=(q:Int):=by rw [IntKind.wrap_i64]; omega
  by_cases h1:q<a.natAbs
  ·have h3:(q:Int)<(a.natAbs:Int):=by omega
   have e4:decide ((q:Int)<(a.natAbs:Int))=true:=decide_eq_true h3
   have e5:decide (q<a.natAbs)=true:=decide_eq_true h1
   have HV:Hid (opV 5 a b=.er 14):=Lib.hid (by simp only [opV]; rw [hqi]; simp [h0,h3])
   clear ha hb h1 h3 hq hd hqi
   go_enter Tryz.func119,Tryz.ntmps119
   go_wp2_with (first | (refine (HA.out _).mono ?_; rintro e w5 ⟨rfl,rfl⟩) | (refine (HB.out _).mono ?_; rintro e w5 ⟨rfl,rfl⟩))
   go_ret2
   exact ⟨by rw [HV.out]; rfl,Below.refl _ _⟩
  ·have h3:¬ (q:Int)<(a.natAbs:Int):=by omega
   have e4:decide ((q:Int)<(a.natAbs:Int))=false:=decide_eq_false h3
   have e5:decide (q<a.natAbs)=false:=decide_eq_false h1
   have HV:Hid (opV 5 a b=.ok (a * b)):=Lib.hid (by simp only [opV]; rw [hqi]; simp [h0,h3])
   have hm:a.natAbs * b.natAbs≤1099511627776:=(Nat.le_div_iff_mul_le (by omega)).1 (hq ▸ Nat.le_of_not_lt h1)
   rw [← Int.natAbs_mul] at hm
   have hw2:IntKind.i64.wrap (a * b)=a * b:=by rw [IntKind.wrap_i64]; omega
   clear ha hb h1 h3 hq hd hqi hm
   go_enter Tryz.func119,Tryz.ntmps119
   go_wp2_with (first | (refine (HA.out _).mono ?_; rintro e w5 ⟨rfl,rfl⟩) | (refine (HB.out _).mono ?_; rintro e w5 ⟨rfl,rfl⟩))
   go_ret2
   exact ⟨by rw [HV.out]; rfl,Below.refl _ _⟩
end Go.Proofs.YtmbffkemfepekaaGreatDoor
