/- The example programs of the laws: they are valid, and their lock graphs. No conditions. · The reference's Great and the laws' fine, walked. Conditions: the program lies in memory. · The laws' example programs, built. No conditions. -/
import Derived.Test.YtkpjdanfpolimaaGreatLcDg0
import Derived.Test.YtkpjdanfpolimaaGreatLcDg9
set_option maxRecDepth 100000
set_option maxHeartbeats 6400000
namespace Go.Proofs.YtkpjdanfpolimaaGreat
section
open Go.RowKit
def exIns (op a b c:Int):Ins:=⟨op,a,b,c,[],none,0⟩
def exFn (nm:ByteArray) (cd:List Ins) (A:Nat):Fn:=⟨nm,0,1,0,false,cd,some ⟨A,0,none⟩,4⟩
def exMain:List Ins:=[exIns 35 (-1) (-1) 3,exIns 34 0 1 0,exIns 34 0 2 0,exIns 36 0 0 0]
def exLock (a b:Int):List Ins:=[exIns 50 a 0 0,exIns 50 b 0 0,exIns 52 b 0 0,exIns 52 a 0 0]
def exP (M A B F O:Nat) (a b:Int):Prg:=⟨[exFn ⟨#[109,97,105,110]⟩ exMain M,exFn ⟨#[97]⟩ (exLock 0 1) A,exFn ⟨#[98]⟩ (exLock a b) B],some ⟨F,0,none⟩,3,[⟨⟨#[109]⟩,1,0,0⟩,⟨⟨#[110]⟩,1,0,0⟩],some ⟨O,0,none⟩,2,[],none,0⟩
theorem iter_end (p:Prg):∀ (k m:Nat) (s:S),k≤m→(S.iter p k s).ch=false→S.iter p m s=S.iter p k s
 | 0,m,s,_,h=>by
  cases m with
  | zero=>rfl
  | succ m=>
   have h2:s.ch=false:=h;show S.iter p (m+1) s=s;unfold S.iter;rw [h2]; rfl
 | k+1,m,s,hk,h=>by
  obtain ⟨m,rfl⟩:∃ q,m=q+1:=⟨m - 1,by omega⟩
  rw [S.iter,S.iter];rw [S.iter] at h;split
  ·next hc=>rw [if_pos hc] at h; exact iter_end p k m _ (by omega) h
  ·rfl
theorem ex_fuel (M A B F O:Nat) (a b:Int):9≤(exP M A B F O a b).fuel:=by
 have h:1≤(exP M A B F O a b).slots:=Nat.le_of_ble_eq_true (by kernel_rfl);unfold Prg.fuel;omega
theorem ex_graph10 (M A B F O:Nat):graphOf (exP M A B F O 1 0)=[(0,1),(1,0)]:=by
 unfold graphOf analysis;rw [iter_end _ 9 _ _ (ex_fuel M A B F O 1 0) (by kernel_rfl)]
 kernel_rfl
theorem ex_graph01 (M A B F O:Nat):graphOf (exP M A B F O 0 1)=[(0,1)]:=by
 unfold graphOf analysis;rw [iter_end _ 9 _ _ (ex_fuel M A B F O 0 1) (by kernel_rfl)]
 kernel_rfl
theorem ex_lock (M A B F O:Nat) (a b c:Int) (f:Fn) (hf:f.clean=false) (hc:c=0∨c=1):insOk (exP M A B F O a b) f (exIns 50 c 0 0)∧insOk (exP M A B F O a b) f (exIns 52 c 0 0):=by
 have h:opOk (exP M A B F O a b) f 12 1 c:=by
  rcases hc with rfl | rfl
  ·exact ⟨by kernel_rfl,_,rfl,rfl⟩
  ·exact ⟨by kernel_rfl,_,rfl,rfl⟩
 exact ⟨⟨12,1,0,0,0,0,0,by kernel_rfl,fun z=>absurd (hf.symm.trans z) (by decide),h,rfl,rfl,rfl,⟨fun z=>absurd z.1 (by show (50:Int)≠65; decide),fun z=>absurd z.1 (by show (50:Int)≠67; decide)⟩⟩,
  ⟨12,1,0,0,0,0,0,by kernel_rfl,fun z=>absurd (hf.symm.trans z) (by decide),h,rfl,rfl,rfl,⟨fun z=>absurd z.1 (by show (52:Int)≠65; decide),fun z=>absurd z.1 (by show (52:Int)≠67; decide)⟩⟩⟩
theorem ex_code (M A B F O:Nat) (a b c d:Int) (f:Fn) (hf:f.clean=false) (hc:c=0∨c=1) (hd:d=0∨d=1):∀ i∈exLock c d,insOk (exP M A B F O a b) f i:=by
 intro i hi;have hi:i=exIns 50 c 0 0∨i=exIns 50 d 0 0∨i=exIns 52 d 0 0∨i=exIns 52 c 0 0:=by simpa [exLock] using hi
 rcases hi with rfl | rfl | rfl | rfl
 ·exact (ex_lock M A B F O a b c f hf hc).1
 ·exact (ex_lock M A B F O a b d f hf hd).1
 ·exact (ex_lock M A B F O a b d f hf hd).2
 ·exact (ex_lock M A B F O a b c f hf hc).2
theorem ex_regs (f:Fn):regsOk f []:=fun x hx=>by cases hx
theorem ex_main (M A B F O:Nat) (a b:Int):∀ i∈exMain,insOk (exP M A B F O a b) (exFn ⟨#[109,97,105,110]⟩ exMain M) i:=by
 intro i hi;have hi:i=exIns 35 (-1) (-1) 3∨i=exIns 34 0 1 0∨i=exIns 34 0 2 0∨i=exIns 36 0 0 0:=by simpa [exMain] using hi
 rcases hi with rfl | rfl | rfl | rfl
 ·exact ⟨5,0,5,0,7,0,0,by kernel_rfl,fun z=>absurd z (by show ¬ (false=true); decide),(show inR2 _ _ _=true by kernel_rfl),(show inR2 _ _ _=true by kernel_rfl),⟨by kernel_rfl,_,rfl,rfl⟩,rfl,⟨fun z=>absurd z.1 (by show (35:Int)≠65; decide),fun z=>absurd z.1 (by show (35:Int)≠67; decide)⟩⟩
 ·exact ⟨4,0,8,0,0,0,1,by kernel_rfl,fun z=>absurd z (by show ¬ (false=true); decide),(show inR2 _ _ _=true by kernel_rfl),⟨by kernel_rfl,_,rfl,rfl⟩,rfl,⟨⟨_,rfl,rfl⟩,ex_regs _⟩,⟨fun z=>absurd z.1 (by show (34:Int)≠65; decide),fun z=>absurd z.1 (by show (34:Int)≠67; decide)⟩⟩
 ·exact ⟨4,0,8,0,0,0,1,by kernel_rfl,fun z=>absurd z (by show ¬ (false=true); decide),(show inR2 _ _ _=true by kernel_rfl),⟨by kernel_rfl,_,rfl,rfl⟩,rfl,⟨⟨_,rfl,rfl⟩,ex_regs _⟩,⟨fun z=>absurd z.1 (by show (34:Int)≠65; decide),fun z=>absurd z.1 (by show (34:Int)≠67; decide)⟩⟩
 ·exact ⟨4,0,0,0,0,0,0,by kernel_rfl,fun z=>absurd z (by show ¬ (false=true); decide),(show inR2 _ _ _=true by kernel_rfl),rfl,rfl,rfl,⟨fun z=>absurd z.1 (by show (36:Int)≠65; decide),fun z=>absurd z.1 (by show (36:Int)≠67; decide)⟩⟩
theorem ex_ok (M A B F O:Nat) (a b:Int) (ha:a=0∨a=1) (hb:b=0∨b=1):prgOk (exP M A B F O a b):=by
 refine ⟨⟨by simp [exP],by simp [exP],by simp [exP],by simp [exP]⟩,fun k hk=>?_,fun k hk=>?_,fun k hk=>?_⟩
 ·match k,hk with
  | 0,_=>exact ⟨by kernel_rfl,by kernel_rfl,by kernel_rfl,by kernel_rfl,fun h=>absurd h (by show (1:Int)≠3; decide),fun q hq=>(by cases hq)⟩
  | 1,_=>exact ⟨by kernel_rfl,by kernel_rfl,by kernel_rfl,by kernel_rfl,fun h=>absurd h (by show (1:Int)≠3; decide),fun q hq=>(by
    have:q=⟨⟨#[109]⟩,1,0,0⟩:=by simpa [exP] using hq
    subst this; show (⟨#[109]⟩:ByteArray)≠⟨#[110]⟩; decide)⟩
  | k+2,hk=>exact absurd hk (by simp [exP])
 ·exact absurd hk (by simp [exP])
 ·match k,hk with
  | 0,_=>exact ⟨by kernel_rfl,fun q hq=>(by cases hq),by kernel_rfl,by kernel_rfl,by kernel_rfl,fun z=>absurd z.1 (by show ¬ (false=true); decide),by show (4:Nat)≤200; decide,fun _=>⟨rfl,rfl⟩,ex_main M A B F O a b⟩
  | 1,_=>exact ⟨by kernel_rfl,fun q hq=>(by
    have:q=exFn ⟨#[109,97,105,110]⟩ exMain M:=by simpa [exP] using hq
    subst this; show (⟨#[109,97,105,110]⟩:ByteArray)≠⟨#[97]⟩; decide),by kernel_rfl,by kernel_rfl,by kernel_rfl,fun z=>absurd z.1 (by show ¬ (false=true); decide),by show (4:Nat)≤200; decide,fun z=>absurd z (by decide),ex_code M A B F O a b 0 1 _ rfl (.inl rfl) (.inr rfl)⟩
  | 2,_=>exact ⟨by kernel_rfl,fun q hq=>(by
    have:q=exFn ⟨#[109,97,105,110]⟩ exMain M∨q=exFn ⟨#[97]⟩ (exLock 0 1) A:=by simpa [exP] using hq
    rcases this with rfl | rfl
    ·show (⟨#[109,97,105,110]⟩:ByteArray)≠⟨#[98]⟩; decide
    ·show (⟨#[97]⟩:ByteArray)≠⟨#[98]⟩; decide),by kernel_rfl,by kernel_rfl,by kernel_rfl,fun z=>absurd z.1 (by show ¬ (false=true); decide),by show (4:Nat)≤200; decide,fun z=>absurd z (by decide),ex_code M A B F O a b a b _ rfl ha hb⟩
  | k+3,hk=>exact absurd hk (by simp [exP])
theorem ex_fits (M A B F O:Nat) (a b:Int) (ha:a=0∨a=1) (hb:b=0∨b=1):Fits (exP M A B F O a b):=by
 intro f hf i hi
 have key:∀ c d:Int,(c=0∨c=1)→(d=0∨d=1)→∀ i∈exLock c d,I64 i.a∧I64 i.b∧I64 i.c∧∀ x∈i.args,I64 x:=fun c d hc hd i hi=>by
  have hi:i=exIns 50 c 0 0∨i=exIns 50 d 0 0∨i=exIns 52 d 0 0∨i=exIns 52 c 0 0:=by simpa [exLock] using hi
  rcases hi with rfl | rfl | rfl | rfl <;> refine ⟨?_,?_,?_,fun x hx=>(by cases hx)⟩ <;> simp only [exIns,I64] <;> omega
 have hf:f=exFn ⟨#[109,97,105,110]⟩ exMain M∨f=exFn ⟨#[97]⟩ (exLock 0 1) A∨f=exFn ⟨#[98]⟩ (exLock a b) B:=by simpa [exP] using hf
 rcases hf with rfl | rfl | rfl
 ·have hi:i=exIns 35 (-1) (-1) 3∨i=exIns 34 0 1 0∨i=exIns 34 0 2 0∨i=exIns 36 0 0 0:=by simpa [exFn,exMain] using hi
  rcases hi with rfl | rfl | rfl | rfl <;> refine ⟨?_,?_,?_,fun x hx=>(by cases hx)⟩ <;> simp only [exIns,I64] <;> omega
 ·exact key 0 1 (.inl rfl) (.inr rfl) i hi
 ·exact key a b ha hb i hi
end
section
open Go.RowKit Go.Shelf Go.Sort
def RetB (w:World):Ending→World→Prop:=fun e W=>∃ b:Bool,e=.returned (.bool b)∧Below w.heap.size w W
theorem greatInstr_any (i:Ins) (w:World):Calls Tryz.prog 30 #[.agg i.cells.toArray] w (RetB w):=by
 have hb:=below_alloc w (.cells #[.int .i64 i.op,.int .i64 i.a,.int .i64 i.b,.int .i64 i.c,.slice i.argA i.args.length i.argC] 63);unfold Ins.cells;go_enter Tryz.func30,Tryz.ntmps30;go_wp2_with fail;go_ret;exact ⟨_,rfl,hb⟩
theorem great_any (p:Prg) (w:World) (h:Lies w w.heap.size p):Calls Tryz.prog 7 #[p.val] w (RetB w):=by
 have hn1:=h.funN;have hn2:=h.obN;have hn3:=h.vrN;unfold maxLen at hn1 hn2 hn3;have HFN:=hid (fun (W:World) (hb:Below w.heap.size w W) (k:Nat) (hk:k<p.funs.length)=>(h.next hb).fn hk);have HCN:=hid (fun (k:Nat) (hk:k<p.funs.length)=>h.codeN _ (List.getElem_mem hk));have HIN:=hid (fun (W:World) (hb:Below w.heap.size w W) (f:Fn) (hf:f∈p.funs) (k:Nat) (hk:k<f.code.length)=>(h.next hb).ins hf hk);have HOB:=hid (fun (W:World) (hb:Below w.heap.size w W) (k:Nat) (hk:k<p.obs.length)=>(h.next hb).ob hk);have HVR:=hid (fun (W:World) (hb:Below w.heap.size w W) (k:Nat) (hk:k<p.vrs.length)=>(h.next hb).vr hk);unfold Prg.val;clear h;generalize p.funA=fa at HFN ⊢;generalize p.obA=oa at HOB ⊢;generalize p.vrA=va at HVR ⊢;go_enter Tryz.func7,Tryz.ntmps7;go_upto_region 1 with fail
 have hT:=one_new w #[.slice fa p.funs.length p.funC,.slice oa p.obs.length p.obC,.slice va p.vrs.length p.vrC] 26;generalize w.alloc _=w1 at hT ⊢;obtain ⟨x0,x1,x2⟩:=bx3 hT.fst
 cases hc1:decide ((34:Int)<(p.funs.length:Int)) with
 | true=>
  go_wp2_with fail;go_ret;exact ⟨_,rfl,hT.below⟩
 | false=>
  cases hc2:decide ((18:Int)<(p.obs.length:Int)) with
  | true=>
   go_wp2_with fail;go_ret;exact ⟨_,rfl,hT.below⟩
  | false=>
   cases hc3:decide ((18:Int)<(p.vrs.length:Int)) with
   | true=>
    go_wp2_with fail;go_ret;exact ⟨_,rfl,hT.below⟩
   | false=>
    have hl1:p.funs.length≤34:=by have:=of_decide_eq_false hc1; omega
    have hl2:p.obs.length≤18:=by have:=of_decide_eq_false hc2; omega
    have hl3:p.vrs.length≤18:=by have:=of_decide_eq_false hc3; omega
    go_upto_region 5 with fail;clear x0 x1 x2 hc1 hc2 hc3;go_loopw [3,4] (fun nn i wr=>∃ (m:Int) (j:Nat),nn=.int .i64 m∧i=.int .i64 (j:Nat)∧j≤p.funs.length∧One w wr [.slice fa p.funs.length p.funC,.slice oa p.obs.length p.obC,.slice va p.vrs.length p.vrC]) (fun _ i _=>p.funs.length - (intOf i).toNat)
    case atStart=>exact ⟨0,0,rfl,rfl,by omega,hT⟩
    case round=>
     clear hT;obtain ⟨m,j,rfl,rfl,hj,hT⟩:=hrel;obtain ⟨x0,x1,x2⟩:=bx3 hT.fst;have hj0:=zi j;have hwr:=Wi j (by omega);by_cases hlt:j<p.funs.length
     ·have hd1:=Dt (show (j:Int)<p.funs.length by omega)
      have hd2:=Dt hlt;have hjl:(j:Int)<(p.funs.length:Int):=by omega
      obtain ⟨fb,fo,rfl,-,q0,q1,q2,q3,q4,q5⟩:=HFN.out wr hT.below j hlt;obtain ⟨hcl,hnl,-⟩:=HCN.out j hlt;have HMF:=hid (List.getElem_mem hlt)
      have HF5:=hid (fun (W:World) (hb:Below w.heap.size w W)=>(show W.cell? ⟨fb,fo+j * 6+5,none⟩=some (.slice p.funs[j].codeA p.funs[j].code.length p.funs[j].codeC) from by
       obtain ⟨b',o',e,-,-,-,-,-,-,q⟩:=HFN.out W hb j hlt;injection e with e;injection e with e1 e2;subst e1; subst e2;exact q))
      generalize p.funs[j]=f at q0 q1 q2 q3 q4 q5 hcl hnl HMF HF5;unfold maxLen at hcl hnl;obtain ⟨z,hz⟩:∃ z,IntKind.i64.wrap (m+(f.code.length:Int))=z:=⟨_,rfl⟩
      cases hc4:decide ((250:Int)<z) with
      | true=>
       go_wp2_with fail;go_ret;exact ⟨_,rfl,hT.below⟩
      | false=>
       cases hc5:decide ((40:Int)<(f.name.size:Int)) with
       | true=>
        go_wp2_with fail;go_ret;exact ⟨_,rfl,hT.below⟩
       | false=>
        have HII:=hid (fun (W:World) (hb:Below w.heap.size w W) (k:Nat) (hk:k<f.code.length)=>HIN.out W hb f HMF.out k hk);clear HMF;generalize f.codeA=ca at q5 HII HF5;go_upto_region 11 with fail;clear x0 x1 x2 q0 q1 q2 q3 q4 q5 hz hc4 hc5;go_loopw [5] (fun i wr=>∃ (k:Nat),i=.int .i64 (k:Nat)∧k≤f.code.length∧One w wr [.slice (some ⟨fb,fo,none⟩) p.funs.length p.funC,.slice oa p.obs.length p.obC,.slice va p.vrs.length p.vrC]) (fun i _=>f.code.length - (intOf i).toNat)
        case atStart=>exact ⟨0,rfl,by omega,hT⟩
        case round=>
         clear hT;obtain ⟨k,rfl,hk,hT⟩:=hrel;obtain ⟨x0,x1,x2⟩:=bx3 hT.fst;have q5:=HF5.out _ hT.below;have hk0:=zi k;by_cases hkl:k<f.code.length
         ·have hwk:=Wi k (by omega)
          have hd3:=Dt (show (k:Int)<f.code.length by omega);have hd4:=Dt hkl;have hki:(k:Int)<(f.code.length:Int):=by omega
          obtain ⟨ib,io,rfl,-,i0,i1,i2,i3,i4⟩:=HII.out _ hT.below k hkl;have HG:=hid (greatInstr_any f.code[k]);unfold Ins.cells at HG;generalize f.code[k]=ik at i0 i1 i2 i3 i4 HG;have HG3:=hid (HG.out wr);clear HG;go_wp2_with fail;refine HG3.out.mono ?_;rintro e w5 ⟨b5,rfl,hb5⟩;have hT5:=hT.next hb5;clear x0 x1 x2 q5 i0 i1 i2 i3 i4 hT HG3
          cases b5 with
          | true=>
           go_wp2_with fail;go_ret;exact ⟨_,rfl,hT5.below⟩
          | false=>
           go_wp2_with fail;go_round
           case rel=>exact ⟨k+1,rfl,by omega,hT5⟩
           case measure=>exact ms (by omega)
         ·have hd3:=Df (show ¬ (k:Int)<f.code.length by omega)
          have hd4:=Df hkl;go_wp2_with fail;go_round
          case rel=>exact ⟨z,j+1,rfl,rfl,by omega,hT⟩
          case measure=>exact ms (by omega)
     ·have hd1:=Df (show ¬ (j:Int)<p.funs.length by omega)
      have hd2:=Df hlt;go_upto_region 16 with fail;clear x0 x1 x2;go_loopw [6] (fun i wr=>∃ (q:Nat),i=.int .i64 (q:Nat)∧q≤p.obs.length∧One w wr [.slice fa p.funs.length p.funC,.slice oa p.obs.length p.obC,.slice va p.vrs.length p.vrC]) (fun i _=>p.obs.length - (intOf i).toNat)
      case atStart=>exact ⟨0,rfl,by omega,hT⟩
      case round=>
       clear hT;obtain ⟨q,rfl,hq,hT⟩:=hrel;obtain ⟨x0,x1,x2⟩:=bx3 hT.fst;have hq0:=zi q;have hwq:=Wi q (by omega);by_cases hql:q<p.obs.length
       ·have hd3:=Dt (show (q:Int)<p.obs.length by omega)
        have hd4:=Dt hql;have hqi:(q:Int)<(p.obs.length:Int):=by omega
        obtain ⟨ob,oo,rfl,-,q0,q1,q2,q3⟩:=HOB.out wr hT.below q hql;generalize p.obs[q]=o at q0 q1 q2 q3
        cases hc5:decide ((40:Int)<(o.name.size:Int)) with
        | true=>
         go_wp2_with fail;go_ret;exact ⟨_,rfl,hT.below⟩
        | false=>
         go_wp2_with fail;go_round
         case rel=>exact ⟨q+1,rfl,by omega,hT⟩
         case measure=>exact ms (by omega)
       ·have hd3:=Df (show ¬ (q:Int)<p.obs.length by omega)
        have hd4:=Df hql;go_upto_region 21 with fail;clear x0 x1 x2;go_loopw [7] (fun i wr=>∃ (q:Nat),i=.int .i64 (q:Nat)∧q≤p.vrs.length∧One w wr [.slice fa p.funs.length p.funC,.slice oa p.obs.length p.obC,.slice va p.vrs.length p.vrC]) (fun i _=>p.vrs.length - (intOf i).toNat)
        case atStart=>exact ⟨0,rfl,by omega,hT⟩
        case round=>
         clear hT;obtain ⟨q,rfl,hq,hT⟩:=hrel;obtain ⟨x0,x1,x2⟩:=bx3 hT.fst;have hq0:=zi q;have hwq:=Wi q (by omega);by_cases hql:q<p.vrs.length
         ·have hd5:=Dt (show (q:Int)<p.vrs.length by omega)
          have hd6:=Dt hql;have hqi:(q:Int)<(p.vrs.length:Int):=by omega
          obtain ⟨ob,oo,rfl,-,q0,q1,q2⟩:=HVR.out wr hT.below q hql;generalize p.vrs[q]=o at q0 q1 q2
          cases hc5:decide ((40:Int)<(o.name.size:Int)) with
          | true=>
           go_wp2_with fail;go_ret;exact ⟨_,rfl,hT.below⟩
          | false=>
           go_wp2_with fail;go_round
           case rel=>exact ⟨q+1,rfl,by omega,hT⟩
           case measure=>exact ms (by omega)
         ·have hd5:=Df (show ¬ (q:Int)<p.vrs.length by omega)
          have hd6:=Df hql;go_wp2_with fail;go_ret;exact ⟨_,rfl,hT.below⟩
end
section
open Go.RowKit Go.Shelf
theorem rd_block {W:World} {b s n:Nat} {c:Array Value} {t:TypeId} {fr:Nat × Nat} {xs:List Value} (h:W.heap[b]? = some (.cells c t fr)) (hx:c.toList=xs) (hn:xs.length=n * s):Rd W W.heap.size s (some ⟨b,0,none⟩) n xs:=
 ⟨hn,.inr ⟨b,0,rfl,(Array.getElem?_eq_some_iff.1 h).1,fun j u hu=>by
  subst hx;simp only [World.cell?,h,Nat.zero_add];simpa using hu⟩⟩
theorem exLock_any (a b:Int) (w:World):Calls Tryz.prog 56 #[.int .i64 a,.int .i64 b] w fun e W=>e=.returned (.slice (some ⟨w.heap.size,0,none⟩) 4 4)∧W=w.alloc (.cells ((exLock a b).flatMap Ins.cells).toArray 63):=by
 go_enter Tryz.func56,Tryz.ntmps56;go_wp2_with fail;go_ret;exact ⟨rfl,rfl⟩
theorem example_any (a b:Int) (w:World):Calls Tryz.prog 31 #[.int .i64 a,.int .i64 b] w fun e W=>∃ M A B F O,e=.returned (exP M A B F O a b).val∧Lies W W.heap.size (exP M A B F O a b)∧Below w.heap.size w W:=by
 go_enter Tryz.func31,Tryz.ntmps31;go_upto_region 3 with fail;have hR:=(heap_alloc_old (w.alloc (.cells #[.slice none 0 0,.slice none 0 0,.slice none 0 0] 26)) (.cells (exMain.flatMap Ins.cells).toArray 63) (by simp)).trans (heap_alloc_new w (.cells #[.slice none 0 0,.slice none 0 0,.slice none 0 0] 26));have hM:=heap_alloc_new (w.alloc (.cells #[.slice none 0 0,.slice none 0 0,.slice none 0 0] 26)) (.cells (exMain.flatMap Ins.cells).toArray 63);have hb:Below w.heap.size w ((w.alloc (.cells #[.slice none 0 0,.slice none 0 0,.slice none 0 0] 26)).alloc (.cells (exMain.flatMap Ins.cells).toArray 63)):=(below_alloc _ _).trans (below_alloc2 (by simp) _);have hz:((w.alloc (.cells #[.slice none 0 0,.slice none 0 0,.slice none 0 0] 26)).alloc (.cells (exMain.flatMap Ins.cells).toArray 63)).heap.size=w.heap.size+2:=by simp
 rw [World.size_alloc] at hM;change Code.wp _ _ _ _ ((w.alloc (.cells #[.slice none 0 0,.slice none 0 0,.slice none 0 0] 26)).alloc (.cells (exMain.flatMap Ins.cells).toArray 63));generalize (w.alloc (.cells #[.slice none 0 0,.slice none 0 0,.slice none 0 0] 26)).alloc (.cells (exMain.flatMap Ins.cells).toArray 63)=w2 at hR hM hb hz ⊢;go_wp2_with fail;refine (exLock_any 0 1 w2).mono ?_;rintro e w3 ⟨rfl,rfl⟩;have hA:=heap_alloc_new w2 (.cells ((exLock 0 1).flatMap Ins.cells).toArray 63);have hbA:=below_alloc w2 (.cells ((exLock 0 1).flatMap Ins.cells).toArray 63);have hR3:=(hbA.block _ (by omega)).trans hR;have hM3:=(hbA.block _ (by omega)).trans hM;have hb3:=hb.trans (hbA.mono hb.size);have hz3:(w2.alloc (.cells ((exLock 0 1).flatMap Ins.cells).toArray 63)).heap.size=w.heap.size+3:=by simp [hz]
 rw [hz] at hA ⊢;clear hR hM hb hbA hz;generalize w2.alloc _=w3 at hA hR3 hM3 hb3 hz3 ⊢;go_wp2_with fail;refine (exLock_any a b w3).mono ?_;rintro e w4 ⟨rfl,rfl⟩;have hB:=heap_alloc_new w3 (.cells ((exLock a b).flatMap Ins.cells).toArray 63);have hbB:=below_alloc w3 (.cells ((exLock a b).flatMap Ins.cells).toArray 63);have hR4:=(hbB.block _ (by omega)).trans hR3;have hM4:=(hbB.block _ (by omega)).trans hM3;have hA4:=(hbB.block _ (by omega)).trans hA;have hb4:=hb3.trans (hbB.mono hb3.size);have hz4:(w3.alloc (.cells ((exLock a b).flatMap Ins.cells).toArray 63)).heap.size=w.heap.size+4:=by simp [hz3]
 rw [hz3] at hB ⊢;clear hA hR3 hM3 hb3 hbB hz3;generalize w3.alloc _=w4 at hB hA4 hR4 hM4 hb4 hz4 ⊢;have r0:w4.cell? ⟨w.heap.size,0,none⟩=some (.slice none 0 0):=by simp [World.cell?,hR4]
 have r1:w4.cell? ⟨w.heap.size,1,none⟩=some (.slice none 0 0):=by simp [World.cell?,hR4]
 have r2:w4.cell? ⟨w.heap.size,2,none⟩=some (.slice none 0 0):=by simp [World.cell?,hR4]
 have f0:w4.frozen? ⟨w.heap.size,0,none⟩=false:=by simp [World.frozen?,hR4]
 have f1:w4.frozen? ⟨w.heap.size,1,none⟩=false:=by simp [World.frozen?,hR4]
 have f2:w4.frozen? ⟨w.heap.size,2,none⟩=false:=by simp [World.frozen?,hR4]
 go_wp2_with fail;obtain ⟨w5,hw5⟩:∃ w5,w5=((w4.setCell ⟨w.heap.size,0,none⟩ (.slice (some ⟨w.heap.size+4,0,none⟩) 3 3)).setCell ⟨w.heap.size,1,none⟩ (.slice (some ⟨w.heap.size+4+1,0,none⟩) 2 2)).setCell ⟨w.heap.size,2,none⟩ (.slice none 0 0):=⟨_,rfl⟩
 have hz5:w5.heap.size=w.heap.size+4:=by rw [hw5]; simpa using hz4
 have hR5:w5.heap[w.heap.size]? = some (.cells #[.slice (some ⟨w.heap.size+4,0,none⟩) 3 3,.slice (some ⟨w.heap.size+4+1,0,none⟩) 2 2,.slice none 0 0] 26 (0,0)):=by
  rw [hw5]; simp [World.setCell,Array.getElem?_modify,hR4]
 have hk5:∀ k,k≠w.heap.size→w5.heap[k]? = w4.heap[k]?:=fun k hk=>by
  rw [hw5];exact ((heap_setCell_other _ _ _ _ hk).trans (heap_setCell_other _ _ _ _ hk)).trans (heap_setCell_other _ _ _ _ hk)
 have hb5:Below w.heap.size w w5:=by
  rw [hw5];exact ((hb4.setCell (p:=⟨w.heap.size,0,none⟩) (Nat.le_refl _) _).setCell (p:=⟨w.heap.size,1,none⟩) (Nat.le_refl _) _).setCell (p:=⟨w.heap.size,2,none⟩) (Nat.le_refl _) _
 rw [← hw5];have hM5:=(hk5 _ (by omega)).trans hM4;have hA5:=(hk5 _ (by omega)).trans hA4;have hB5:=(hk5 _ (by omega)).trans hB;clear r0 r1 r2 f0 f1 f2 hw5 hk5 hM4 hA4 hB hR4 hb4 hz4;generalize w.heap.size=R at *;have hF:=heap_alloc_new w5 (.cells ((exP (R+1) (R+2) (R+3) (R+4) (R+4+1) a b).funs.flatMap Fn.cells).toArray 60);have hbF:=below_alloc w5 (.cells ((exP (R+1) (R+2) (R+3) (R+4) (R+4+1) a b).funs.flatMap Fn.cells).toArray 60);have hzF:(w5.alloc (.cells ((exP (R+1) (R+2) (R+3) (R+4) (R+4+1) a b).funs.flatMap Fn.cells).toArray 60)).heap.size=R+4+1:=by simp [hz5]
 rw [hz5] at hF;change bodyPost _ _ _ _ _ ((w5.alloc (.cells ((exP (R+1) (R+2) (R+3) (R+4) (R+4+1) a b).funs.flatMap Fn.cells).toArray 60)).alloc (.cells ((exP (R+1) (R+2) (R+3) (R+4) (R+4+1) a b).obs.flatMap Ob.cells).toArray 65));generalize w5.alloc _=w6 at hF hbF hzF ⊢;have hO:=heap_alloc_new w6 (.cells ((exP (R+1) (R+2) (R+3) (R+4) (R+4+1) a b).obs.flatMap Ob.cells).toArray 65);have hbO:=below_alloc w6 (.cells ((exP (R+1) (R+2) (R+3) (R+4) (R+4+1) a b).obs.flatMap Ob.cells).toArray 65);rw [hzF] at hO;generalize w6.alloc _=w7 at hO hbO ⊢;have hk7:∀ k,k<R+4→w7.heap[k]? = w5.heap[k]?:=fun k hk=>(hbO.block k (by omega)).trans (hbF.block k (by omega))
 have hF7:=(hbO.block (R+4) (by omega)).trans hF;have hM7:=(hk7 _ (by omega)).trans hM5;have hA7:=(hk7 _ (by omega)).trans hA5;have hB7:=(hk7 _ (by omega)).trans hB5;have hR7:=(hk7 _ (by omega)).trans hR5;have hb7:Below R w w7:=(hb5.trans (hbF.mono (by omega))).trans (hbO.mono (by omega));have hcs:∀ f∈(exP (R+1) (R+2) (R+3) (R+4) (R+4+1) a b).funs,f=exFn ⟨#[109,97,105,110]⟩ exMain (R+1)∨f=exFn ⟨#[97]⟩ (exLock 0 1) (R+2)∨f=exFn ⟨#[98]⟩ (exLock a b) (R+3):=fun f hf=>by simpa [exP] using hf
 have hia:∀ f∈(exP (R+1) (R+2) (R+3) (R+4) (R+4+1) a b).funs,∀ i∈f.code,i.args=[]∧i.argC=0:=fun f hf i hi=>by
  rcases hcs f hf with rfl | rfl | rfl
  ·have:i=exIns 35 (-1) (-1) 3∨i=exIns 34 0 1 0∨i=exIns 34 0 2 0∨i=exIns 36 0 0 0:=by simpa [exFn,exMain] using hi
   rcases this with rfl | rfl | rfl | rfl <;> exact ⟨rfl,rfl⟩
  ·have:i=exIns 50 0 0 0∨i=exIns 50 1 0 0∨i=exIns 52 1 0 0∨i=exIns 52 0 0 0:=by simpa [exFn,exLock] using hi
   rcases this with rfl | rfl | rfl | rfl <;> exact ⟨rfl,rfl⟩
  ·have:i=exIns 50 a 0 0∨i=exIns 50 b 0 0∨i=exIns 52 b 0 0∨i=exIns 52 a 0 0:=by simpa [exFn,exLock] using hi
   rcases this with rfl | rfl | rfl | rfl <;> exact ⟨rfl,rfl⟩
 refine bodyPost_ret (results_cell1 rfl rfl (run_loadVar_row (P:=Tryz.prog) _ R 26 26 #[.slice (some ⟨R+4,0,none⟩) 3 3,.slice (some ⟨R+4+1,0,none⟩) 2 2,.slice none 0 0] (0,0) _ hR7 Tryz.underlying26 rfl (by kernel_rfl))) rfl ?_;refine ⟨R+1,R+2,R+3,R+4,R+4+1,rfl,?_,hb7⟩;refine ⟨rd_block hF7 rfl rfl,rd_block hO rfl rfl,Rd.nil_,fun f hf=>?_,fun f hf i hi=>?_,by show 3≤maxLen; decide,by show 2≤maxLen; decide,by show 0≤maxLen; decide,fun f hf=>?_,⟨Nat.le_refl _,Nat.le_refl _,Nat.le_refl _⟩,fun f hf i hi=>?_,fun o ho=>?_,fun v hv=>(by cases hv)⟩
 ·rcases hcs f hf with rfl | rfl | rfl
  ·exact rd_block hM7 rfl rfl
  ·exact rd_block hA7 rfl rfl
  ·exact rd_block hB7 rfl rfl
 ·rw [(hia f hf i hi).1]; exact Rd.nil_
 ·rcases hcs f hf with rfl | rfl | rfl
  ·exact ⟨by show 4≤maxLen; decide,by show 4≤maxLen; decide,Nat.le_refl _⟩
  ·exact ⟨by show 4≤maxLen; decide,by show 1≤maxLen; decide,Nat.le_refl _⟩
  ·exact ⟨by show 4≤maxLen; decide,by show 1≤maxLen; decide,Nat.le_refl _⟩
 ·rw [(hia f hf i hi).1,(hia f hf i hi).2]; exact ⟨Nat.zero_le _,Nat.le_refl _⟩
 ·have:o=⟨⟨#[109]⟩,1,0,0⟩∨o=⟨⟨#[110]⟩,1,0,0⟩:=by simpa [exP] using ho
  rcases this with rfl | rfl
  ·show 1≤maxLen; decide
  ·show 1≤maxLen; decide
end
end Go.Proofs.YtkpjdanfpolimaaGreat
