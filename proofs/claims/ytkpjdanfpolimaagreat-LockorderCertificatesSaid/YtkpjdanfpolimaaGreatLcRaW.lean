/- The reference's analysis in memory, and its add, walked. Conditions: none. · The reference's elements, walked: the members of a set in ascending order. Conditions: non · The reference's insert and Next, walked. Conditions: the program is va -/
import Derived.Test.YtkpjdanfpolimaaGreatLcLoC
import Derived.Test.YtkpjdanfpolimaaGreatLcLoW
import Derived.Laws.OwnMore
import Derived.Deep.Onto
set_option maxRecDepth 100000
set_option maxHeartbeats 6400000
namespace Go.Proofs.YtkpjdanfpolimaaGreat
section
open Go.RowKit
structure RLay where
 lo:Nat
 hi:Nat
 A:Nat
 E:Nat
 F:Nat
 B:Nat
 cE:Nat
 cF:Nat
 cB:Nat
 bb:Nat→Nat
 cb:Nat→Nat
def RLay.sA (L:RLay):Slot→Addr
 | .ent f=>⟨L.E,f,none⟩
 | .fin f=>⟨L.F,f,none⟩
 | .at_ f k=>⟨L.bb f,k,none⟩
structure RLay.Ok (p:Prg) (L:RLay):Prop where
 tag:∃ t:Nat→Nat × Nat,t L.A=(0,0)∧t L.E=(1,0)∧t L.F=(2,0)∧t L.B=(3,0)∧∀ f,f<p.funs.length→t (L.bb f)=(4,f)
 rng:∀ b∈[L.A,L.E,L.F,L.B],L.lo≤b∧b<L.hi
 rngB:∀ f,f<p.funs.length→L.lo≤L.bb f∧L.bb f<L.hi
section
variable {p:Prg} {L:RLay} (h:L.Ok p)
include h
theorem RLay.Ok.ss {x y:Slot} (hx:x.In p) (hy:y.In p) (e0:L.sA x=L.sA y):x=y:=by
 obtain ⟨t,t0,t1,t2,t3,t4⟩:=h.tag;have e:=congrArg (fun a:Addr=>(t a.block,a.off)) e0
 cases x with
 | ent f=>cases y with
  | ent g=>simp only [RLay.sA,t1] at e; cases e; rfl
  | fin g=>simp only [RLay.sA,t1,t2] at e; cases e
  | at_ g k=>simp only [RLay.sA,t1,t4 _ hy.1] at e; cases e
 | fin f=>cases y with
  | ent g=>simp only [RLay.sA,t2,t1] at e; cases e
  | fin g=>simp only [RLay.sA,t2] at e; cases e; rfl
  | at_ g k=>simp only [RLay.sA,t2,t4 _ hy.1] at e; cases e
 | at_ f j=>cases y with
  | ent g=>simp only [RLay.sA,t4 _ hx.1,t1] at e; cases e
  | fin g=>simp only [RLay.sA,t4 _ hx.1,t2] at e; cases e
  | at_ g k=>simp only [RLay.sA,t4 _ hx.1,t4 _ hy.1] at e; cases e; rfl
theorem RLay.Ok.head {x:Slot} (hx:x.In p) {b:Nat} (hb:b=L.A∨b=L.B):b≠(L.sA x).block:=by
 obtain ⟨t,t0,t1,t2,t3,t4⟩:=h.tag;intro e;have e:=congrArg t e
 cases x with
 | ent f=>rcases hb with rfl | rfl <;> simp only [RLay.sA,t0,t1,t3] at e <;> cases e
 | fin f=>rcases hb with rfl | rfl <;> simp only [RLay.sA,t0,t2,t3] at e <;> cases e
 | at_ f k=>rcases hb with rfl | rfl <;> simp only [RLay.sA,t0,t3,t4 _ hx.1] at e <;> cases e
theorem RLay.Ok.hdA:L.B≠L.A:=by
 obtain ⟨t,t0,t1,t2,t3,t4⟩:=h.tag;intro e; have e:=congrArg t e; rw [t3,t0] at e; cases e
theorem RLay.Ok.sIn {x:Slot} (hx:x.In p):L.lo≤(L.sA x).block∧(L.sA x).block<L.hi:=by
 cases x with
 | ent f=>exact h.rng L.E (by simp)
 | fin f=>exact h.rng L.F (by simp)
 | at_ f k=>exact h.rngB f hx.1
end
def rv (v:Bool × BS):Int:=if v.1 then (v.2.toNat:Int) else -1
def rhd (p:Prg) (L:RLay) (ch:Bool):Array Value:=
 #[.slice p.funA p.funs.length p.funC,.slice p.obA p.obs.length p.obC,.slice p.vrA p.vrs.length p.vrC,.slice (some ⟨L.B,0,none⟩) p.funs.length L.cB,.slice (some ⟨L.E,0,none⟩) p.funs.length L.cE,.slice (some ⟨L.F,0,none⟩) p.funs.length L.cF,.int .i64 ((allM p).toNat:Int),.int .i64 ((cleanM p).toNat:Int),.bool ch]
structure RMem (p:Prg) (L:RLay) (w:World) (s:S):Prop where
 ok:L.Ok p
 prog:Lies w L.lo p
 hdr:w.heap[L.A]? = some (.cells (rhd p L s.ch) 92 (0,0))
 outB:∀ f,f<p.funs.length→w.cell? ⟨L.B,f,none⟩=some (.slice (some ⟨L.bb f,0,none⟩) (p.len f) (L.cb f))
 slot:∀ x:Slot,x.In p→w.cell? (L.sA x)=some (.int .i64 (rv (s.get x)))∧w.frozen? (L.sA x)=false
 zero:∀ x:Slot,x.In p→(s.get x).1=false→(s.get x).2=0
 sized:s.Sized p
 hi:L.lo≤L.hi∧L.hi≤w.heap.size
theorem RMem.below' {p:Prg} {L:RLay} {w W:World} {s:S} (h:RMem p L w s) (hb:Below L.hi w W):RMem p L W s:=by
 have hk:∀ a:Addr,a.block<L.hi→W.heap[a.block]? = w.heap[a.block]?:=fun a ha=>hb.block _ ha
 have hc:∀ a:Addr,a.block<L.hi→W.cell? a=w.cell? a:=fun a ha=>hb.cell ha
 exact ⟨h.ok,h.prog.below (hb.mono h.hi.1),(hb.block _ (h.ok.rng L.A (by simp)).2).trans h.hdr,fun f hf=>(hc _ (h.ok.rng L.B (by simp)).2).trans (h.outB f hf),fun x hx=>⟨(hc _ (h.ok.sIn hx).2).trans (h.slot x hx).1,(frozen_block (hk _ (h.ok.sIn hx).2)).trans (h.slot x hx).2⟩,h.zero,h.sized,h.hi.1,Nat.le_trans h.hi.2 hb.size⟩
theorem RMem.below {p:Prg} {L:RLay} {w W:World} {s:S} (h:RMem p L w s) (hb:Below w.heap.size w W):RMem p L W s:=h.below' (hb.mono h.hi.2)
theorem RMem.drewN {p:Prg} {L:RLay} {w:World} {s:S} (h:RMem p L w s) (n:Nat):RMem p L (w.drewN n) s:=h.below (below_drews _ _ _)
theorem RMem.hd {p:Prg} {L:RLay} {w:World} {s:S} (h:RMem p L w s) {j:Nat} {v:Value} (hv:(rhd p L s.ch)[j]? = some v):w.cell? ⟨L.A,j,none⟩=some v:=by
 have:=h.hdr;simp only [World.cell?,this];simpa using hv
theorem RMem.c0 {p:Prg} {L:RLay} {w:World} {s:S} (h:RMem p L w s):w.cell? ⟨L.A,0,none⟩=some (.slice p.funA p.funs.length p.funC):=h.hd rfl
theorem RMem.c1 {p:Prg} {L:RLay} {w:World} {s:S} (h:RMem p L w s):w.cell? ⟨L.A,1,none⟩=some (.slice p.obA p.obs.length p.obC):=h.hd rfl
theorem RMem.c2 {p:Prg} {L:RLay} {w:World} {s:S} (h:RMem p L w s):w.cell? ⟨L.A,2,none⟩=some (.slice p.vrA p.vrs.length p.vrC):=h.hd rfl
theorem RMem.c3 {p:Prg} {L:RLay} {w:World} {s:S} (h:RMem p L w s):w.cell? ⟨L.A,3,none⟩=some (.slice (some ⟨L.B,0,none⟩) p.funs.length L.cB):=h.hd rfl
theorem RMem.c4 {p:Prg} {L:RLay} {w:World} {s:S} (h:RMem p L w s):w.cell? ⟨L.A,4,none⟩=some (.slice (some ⟨L.E,0,none⟩) p.funs.length L.cE):=h.hd rfl
theorem RMem.c5 {p:Prg} {L:RLay} {w:World} {s:S} (h:RMem p L w s):w.cell? ⟨L.A,5,none⟩=some (.slice (some ⟨L.F,0,none⟩) p.funs.length L.cF):=h.hd rfl
theorem RMem.c6 {p:Prg} {L:RLay} {w:World} {s:S} (h:RMem p L w s):w.cell? ⟨L.A,6,none⟩=some (.int .i64 ((allM p).toNat:Int)):=h.hd rfl
theorem RMem.c7 {p:Prg} {L:RLay} {w:World} {s:S} (h:RMem p L w s):w.cell? ⟨L.A,7,none⟩=some (.int .i64 ((cleanM p).toNat:Int)):=h.hd rfl
theorem RMem.c8 {p:Prg} {L:RLay} {w:World} {s:S} (h:RMem p L w s):w.cell? ⟨L.A,8,none⟩=some (.bool s.ch):=h.hd rfl
theorem RMem.hdF {p:Prg} {L:RLay} {w:World} {s:S} (h:RMem p L w s) (j:Nat):w.frozen? ⟨L.A,j,none⟩=false:=by
 have:=h.hdr;simp [World.frozen?,this]
theorem RMem.flag {p:Prg} {L:RLay} {w:World} {s:S} (h:RMem p L w s) (c:Bool):RMem p L (w.setCell ⟨L.A,8,none⟩ (.bool c)) { s with ch:=c }:=by
 have hA:=h.ok.rng L.A (by simp);refine ⟨h.ok,h.prog.below ((Below.refl _ _).setCell (p:=⟨L.A,8,none⟩) hA.1 _),?_,fun f hf=>?_,fun x hx=>?_,fun x hx=>?_,⟨h.sized.ent,h.sized.fin,h.sized.cell,h.sized.row⟩,h.hi.1,by simpa using h.hi.2⟩
 ·rw [heap_setCell_same w L.A 8 _ _ _ h.hdr]
  rfl
 ·rw [World.cell?_setCell_far _ _ _ _ (fun e=>h.ok.hdA e.symm)]; exact h.outB f hf
 ·have hne:=h.ok.head hx (b:=L.A) (.inl rfl)
  rw [get_flag,World.cell?_setCell_far _ _ _ _ hne,World.frozen?_setCell]; exact h.slot x hx
 ·rw [get_flag]; exact h.zero x hx
theorem RMem.place {p:Prg} {L:RLay} {w:World} {s:S} (h:RMem p L w s) {x:Slot} (hx:x.In p) (t:BS):RMem p L (w.setCell (L.sA x) (.int .i64 (t.toNat:Int))) (s.set x (true,t)):=by
 have hk:=h.ok.sIn hx;have hA:=h.ok.head hx (b:=L.A) (.inl rfl);have hB:=h.ok.head hx (b:=L.B) (.inr rfl);have hch:(s.set x (true,t)).ch=s.ch:=by cases x <;> rfl
 refine ⟨h.ok,h.prog.below ((Below.refl _ _).setCell hk.1 _),?_,fun f hf=>?_,fun y hy=>?_,fun y hy=>?_,h.sized.set x _,h.hi.1,by simpa using h.hi.2⟩
 ·rw [heap_setCell_other _ _ _ _ hA,hch]; exact h.hdr
 ·rw [World.cell?_setCell_far _ _ _ _ (fun e=>hB e.symm)]; exact h.outB f hf
 ·rw [S.get_set h.sized hx]
  obtain ⟨y1,y2⟩:=h.slot y hy;refine ⟨?_,?_⟩
  ·by_cases e:y=x
   ·subst e; rw [if_pos rfl,World.cell?_setCell_same _ _ _ y1]; rfl
   ·rw [if_neg e,World.cell?_setCell_other _ _ _ _ (fun z=>e (h.ok.ss hx hy z).symm)]; exact y1
  ·rw [World.frozen?_setCell]; exact y2
 ·rw [S.get_set h.sized hx]
  split
  ·intro e; cases e
  ·exact h.zero y hy
def RLeft (p:Prg) (L:RLay) (w:World) (s:S) (v:Value):Ending→World→Prop:=fun e W=>e=.returned v∧RMem p L W s∧Turn L.lo L.hi w W
theorem S.grow_same {p:Prg} {s:S} (h:s.Sized p) {x:Slot} (hx:x.In p) {l:BS} (h1:(s.get x).1=true) (h2:(s.get x).2 ||| l=(s.get x).2):s.grow x l=s:=by
 have hp:(true,(s.get x).2 ||| l)=s.get x:=by rw [h2,← h1]
 unfold S.grow;rw [hp,S.set_self h hx,h1,h2];simp
theorem S.grow_more {s:S} {x:Slot} {l:BS} (h:(!(s.get x).1 || ((s.get x).2 ||| l) != (s.get x).2)=true):s.grow x l={ s.set x (true,(s.get x).2 ||| l) with ch:=true }:=by
 unfold S.grow;rw [Bool.or_assoc,h,Bool.or_true]
theorem bit_i64 (n:Nat) (h:n<9223372036854775808):IntKind.i64.wrap (n:Int)=(n:Int):=by rw [IntKind.wrap_i64]; omega
theorem or_iv (x y:BS):bits .or .i64 (x.toNat:Int) (y.toNat:Int)=((x ||| y).toNat:Int):=by
 have h:IntKind.i64.wrap (((BitVec.ofInt 64 (x.toNat:Int) ||| BitVec.ofInt 64 (y.toNat:Int):BitVec 64).toNat:Nat):Int)=((x ||| y).toNat:Int):=by
  have hx:=x.isLt;have hy:=y.isLt;have hxy:=(x ||| y).isLt;rw [BitVec.ofInt_natCast,BitVec.ofInt_natCast,BitVec.toNat_or,BitVec.toNat_ofNat,BitVec.toNat_ofNat,Nat.mod_eq_of_lt (by omega),Nat.mod_eq_of_lt (by omega),← BitVec.toNat_or];exact bit_i64 _ (by omega)
 exact h
def RGrew (A bx ox:Nat) (kn:Bool) (t l:BS) (w W:World):Prop:=
 ∃ q,W=if !kn || (t ||| l) != t then ((w.drewN q).setCell ⟨bx,ox,none⟩ (.int .i64 ((t ||| l).toNat:Int))).setCell ⟨A,8,none⟩ (.bool true) else w.drewN q
theorem radd_cells (w:World) (A bx ox:Nat) (kn ch:Bool) (t l:BS) (hz:kn=false→t=0) (hx:w.cell? ⟨bx,ox,none⟩=some (.int .i64 (rv (kn,t)))) (hxf:w.frozen? ⟨bx,ox,none⟩=false)
  (hA:w.cell? ⟨A,8,none⟩=some (.bool ch)) (hAf:w.frozen? ⟨A,8,none⟩=false) (h1:A≠bx) :
  Calls Tryz.prog 72 #[.pointer (some ⟨A,0,none⟩),.pointer (some ⟨bx,ox,none⟩),.int .i64 (l.toNat:Int)] w fun e W=>e=.returned (.tuple #[])∧RGrew A bx ox kn t l w W:=by
 go_enter Tryz.func72,Tryz.ntmps72
 cases kn with
 | false=>
  have ht:t=0:=hz rfl;subst ht;have E0:=hid (show (0:BS) ||| l=l from BitVec.zero_or);replace hx:w.cell? ⟨bx,ox,none⟩=some (.int .i64 (-1)):=hx;clear hz;go_wp2_with fail;go_end0;refine ⟨rfl,0,?_⟩;rw [E0.out];rfl
 | true=>
  replace hx:w.cell? ⟨bx,ox,none⟩=some (.int .i64 (t.toNat:Int)):=hx;clear hz;have g0:=Df (show ¬ (t.toNat:Int)<0 by omega);obtain ⟨c,hc⟩:∃ c,((t ||| l) != t)=c:=⟨_,rfl⟩
  have hc2:(bits .or .i64 (t.toNat:Int) (l.toNat:Int) != (t.toNat:Int))=c:=by rw [or_iv,ne_sv]; exact hc
  have HC:=hid hc;clear hc;go_wp2_with fail;go_quiet (fail)
  cases c with
  | true=>
   go_wp2_with fail;go_end0;refine ⟨rfl,nq,?_⟩;rw [HC.out,or_iv];rfl
  | false=>
   go_wp2_with fail;go_end0;refine ⟨rfl,nq,?_⟩;rw [HC.out];rfl
theorem radd_any (p:Prg) (L:RLay) (w:World) (s:S) (h:RMem p L w s) (x:Slot) (hx:x.In p) (l:BS) :
  Calls Tryz.prog 72 #[.pointer (some ⟨L.A,0,none⟩),.pointer (some (L.sA x)),.int .i64 (l.toNat:Int)] w (RLeft p L w (s.grow x l) (.tuple #[])):=by
 obtain ⟨x1,x2⟩:=h.slot x hx;have ek:L.sA x=⟨(L.sA x).block,(L.sA x).off,none⟩:=by cases x <;> rfl
 have hh:=h.ok.head hx (b:=L.A) (.inl rfl);have hA:=h.ok.rng L.A (by simp);have hs:=h.ok.sIn hx;have hg:=radd_cells w L.A (L.sA x).block (L.sA x).off (s.get x).1 s.ch (s.get x).2 l (h.zero x hx) (by rw [← ek]; exact x1) (by rw [← ek]; exact x2) h.c8 (h.hdF 8) hh;rw [← ek] at hg;refine hg.mono ?_;rintro e W ⟨rfl,q,rfl⟩;rcases Bool.eq_false_or_eq_true (!(s.get x).1 || ((s.get x).2 ||| l) != (s.get x).2) with hc | hc
 ·rw [if_pos hc,← ek]
  have h1:=((h.drewN q).place hx ((s.get x).2 ||| l)).flag true;rw [← S.grow_more hc] at h1;exact ⟨rfl,h1,(((Turn.refl _ _ _).drewN q).setCell hs _).setCell (a:=⟨L.A,8,none⟩) hA _⟩
 ·rw [if_neg (by rw [hc]; decide)]
  rw [Bool.or_eq_false_iff] at hc;rw [S.grow_same h.sized hx (by simpa using hc.1) (by simpa using hc.2)];exact ⟨rfl,h.drewN q,(Turn.refl _ _ _).drewN q⟩
end
section
open Go.RowKit
theorem and_iv (x y:BS):bits .and .i64 (x.toNat:Int) (y.toNat:Int)=((x &&& y).toNat:Int):=by
 have h:IntKind.i64.wrap (((BitVec.ofInt 64 (x.toNat:Int) &&& BitVec.ofInt 64 (y.toNat:Int):BitVec 64).toNat:Nat):Int)=((x &&& y).toNat:Int):=by
  have hx:=x.isLt;have hy:=y.isLt;have hxy:=(x &&& y).isLt;rw [BitVec.ofInt_natCast,BitVec.ofInt_natCast,BitVec.toNat_and,BitVec.toNat_ofNat,BitVec.toNat_ofNat,Nat.mod_eq_of_lt (by omega),Nat.mod_eq_of_lt (by omega),← BitVec.toNat_and];exact bit_i64 _ (by omega)
 exact h
theorem bit_test64 (s:BS) (j:Nat):(bits .and .i64 ((s.toNat:Int) / 2 ^ j) 1 == 1)=s.getLsbD j:=by
 have e1:(s.toNat:Int) / 2 ^ j=(((s >>> j:BS).toNat:Nat):Int):=by
  rw [BitVec.toNat_ushiftRight,Nat.shiftRight_eq_div_pow,Int.natCast_ediv,Int.natCast_pow]; rfl
 have e2:(1:Int)=(((1#32:BS).toNat:Nat):Int):=rfl;rw [e1];have e3:=and_iv (s >>> j) 1#32;rw [← e2] at e3;rw [e3,BitVec.and_one_eq_setWidth_ofBool_getLsbD];have e4:(s >>> j:BS).getLsbD 0=s.getLsbD j:=by rw [BitVec.getLsbD_ushiftRight]; rfl
 rw [e4];cases s.getLsbD j <;> rfl
def listE (v:Bool × BS):List Nat:=if v.1 then listM v.2 else []
theorem listM_zero:listM 0=[]:=by decide
theorem ownI_lit (w:World):OwnI (w.alloc (.cells #[] 3)) w.heap.size (.slice (some ⟨w.heap.size,0,none⟩) 0 0) (nats []):=World.ownsRow_lit (e:=3) w #[] 0 (Nat.le_refl _) (by decide) rfl
theorem relem_any (v:Bool × BS) (w:World):Calls Tryz.prog 50 #[.int .i64 (rv v)] w fun e W=>∃ u,e=.returned u∧OwnI W w.heap.size u (nats (listE v))∧Below w.heap.size w W:=by
 obtain ⟨i0,hi,hz⟩:=Option.map_eq_some_iff.1 i64info;have hz0:i0.zero=some (.int .i64 0):=congrArg (fun t=>t.1) hz;have hz1:i0.size=1:=congrArg (fun t=>t.2.1) hz;have hz2:i0.bytes=8:=congrArg (fun t=>t.2.2) hz;clear hz;go_enter Tryz.func50,Tryz.ntmps50;go_upto_region 3 with fail;have hO:=ownI_lit w;have hB:=below_alloc w (.cells #[] 3);have hZ:w.heap.size<(w.alloc (.cells #[] 3)).heap.size:=by simp
 generalize w.alloc _=W1 at hO hB hZ ⊢;generalize (Value.slice (some ⟨w.heap.size,0,none⟩) 0 0)=u0 at hO ⊢;by_cases hpos:0<rv v
 ·obtain ⟨b,s⟩:=v
  cases b with
  | false=>exact absurd hpos (by show ¬ (0<(-1:Int)); decide)
  | true=>
   have hrv:rv (true,s)=(s.toNat:Int):=rfl;rw [hrv] at hpos ⊢;go_loopw [3,4] (fun a k wr=>∃ j:Nat,k=.int .i64 j∧j≤16∧OwnI wr w.heap.size a (nats ((List.range j).filter (fun i=>s.getLsbD i)))∧Below w.heap.size w wr) (fun _ k _=>16 - (intOf k).toNat)
   case atStart=>exact ⟨0,rfl,by omega,hO,hB⟩
   case round=>
    obtain ⟨j,rfl,hj,hown,hb⟩:=hrel;have hp1:decide ((0:Int)<(s.toNat:Int))=true:=decide_eq_true hpos;have hp2:=Dt (show 0<s.toNat by omega);have hj0:=zi j;have hwr1:=Wi j (by omega);clear hO hB hZ;by_cases hlt:j<16
    ·have hd1:=Dt (show (j:Int)<16 by omega)
     have hd2:=Dt hlt;have ht:=bit_test64 s j;have hls:=listTo_succ s j;have hl16:((List.range j).filter (fun i=>s.getLsbD i)).length≤16:=Nat.le_trans (List.length_filter_le _ _) (by rw [List.length_range]; exact hj);obtain ⟨l2,hl2⟩:∃ l2,(List.range (j+1)).filter (fun i=>s.getLsbD i)=l2:=⟨_,rfl⟩
     rw [hl2] at hls;have HE:=hid hl2;clear hl2;generalize (List.range j).filter (fun i=>s.getLsbD i)=l at hown hls hl16;have HLS:=hid hls;clear hls
     cases hbit:s.getLsbD j with
     | true=>
      rw [hbit] at ht;have HL2:=hid (show l2=l++[j] from by rw [HLS.out,hbit]; rfl);clear HLS hbit;obtain ⟨A,c,rfl⟩:=own_form hown;unfold OwnI at hown;have hnl:(nats l).length=l.length:=by simp [nats]
      have hmx:(nats l).length+1≤maxLen:=by unfold maxLen; omega
      have hby:((nats l).length+1) * 8≤140737488355328:=by omega
      have hbs:w.heap.size≤(wr.alloc (.cells #[.int .i64 (j:Int)] 3)).heap.size:=by have:=hb.size; simp; omega
      have hbl:=hb.trans ((below_alloc wr (.cells #[.int .i64 (j:Int)] 3)).mono hb.size);clear hnl hl16;go_wp2_with (at_builtin; refine wpList_append_own _ rfl (.tmp 19) (.tmp 21) _ rfl w.heap.size 3 i0 (.int .i64 0) 1 8 Tryz.underlying27 hi hz0 hz1 hz2 rfl (by omega) _ _ _ rfl (World.ownsRow.alloc hown _) ⟨wr.heap.size,0,none⟩ 1 1 [.int .i64 j] rfl rfl (cell_one _ _ _) (by simp [Value.oneCell']) hmx hby hbs ?_; intro v2 w3 hown2 hg2 _);exact ⟨⟨j+1,by go_num,by omega,by rw [HE.out]; exact ownI_of_eq (by simp [nats,HL2.out]) (by simp [nats,HL2.out,i64s_append]; rfl) hown2,hbl.grown hg2 hbs (fun g e=>(World.ownsRow.lt hown g e).1)⟩,by simp [intOf]; omega⟩
     | false=>
      rw [hbit] at ht;have HL2:=hid (show l2=l from by rw [HLS.out,hbit]; simp);clear HLS hbit;go_wp2_with fail;exact ⟨⟨j+1,by go_num,by omega,by rw [HE.out,HL2.out]; exact hown,hb⟩,by simp [intOf]; omega⟩
    ·have hd1:=Df (show ¬ (j:Int)<16 by omega)
     have hd2:=Df hlt;obtain rfl:j=16:=by omega
     clear hlt hj;go_wp2_with fail;go_ret;refine ⟨_,rfl,?_,hb⟩;rw [show listE (true,s)=listM s from rfl];exact hown
 ·have hlE:listE v=[]:=by
   obtain ⟨b,s⟩:=v
   cases b with
   | false=>rfl
   | true=>
    have h0:s=0:=by
     have:¬ (0<(s.toNat:Int)):=hpos;exact BitVec.eq_of_toNat_eq (by show s.toNat=0; omega)
    rw [h0]; exact listM_zero
  have HLE:=hid hlE;have hp1:=Df hpos;clear hlE hpos;generalize rv v=r at hp1 ⊢;go_loopw [3,4] (fun a k wr=>a=u0∧k=.int .i64 0∧wr=W1) (fun _ _ _=>0)
  case atStart=>exact ⟨rfl,rfl,rfl⟩
  case round=>
   obtain ⟨rfl,rfl,rfl⟩:=hrel;go_wp2_with fail;go_ret;exact ⟨_,rfl,by rw [HLE.out]; exact hO,hB⟩
end
section
open Go.RowKit Go.Shelf
theorem ownI_below {w w':World} {base:Nat} {v:Value} {l:List Int} (h:OwnI w base v l) (hb:Below w.heap.size w w'):OwnI w' base v l:=
 World.ownsRow.kept h (row:=none) ⟨hb.os,hb.tape,hb.output,hb.size,fun k hk _=>hb.block k hk⟩ (by cases v.ownBlock <;> simp)
theorem ownI_mono {w:World} {base base':Nat} {v:Value} {l:List Int} (h:OwnI w base v l) (hb:base'≤base):OwnI w base' v l:=World.ownsRow.mono h hb
def RetN (B:Nat) (l:List Nat) (w:World):Ending→World→Prop:=fun e W=>∃ A c,e=.returned (.slice A l.length c)∧Rd W W.heap.size 1 A l.length (i64s (nats l))∧(∀ b o:Nat,A=some ⟨b,o,none⟩→B≤b)∧Below w.heap.size w W
theorem retN_own {B:Nat} {l:List Nat} {w W:World} {u:Value} (ho:OwnI W B u (nats l)) (hb:Below w.heap.size w W):RetN B l w (.returned u) W:=by
 obtain ⟨A,c,rfl⟩:=own_form ho;have hl:(nats l).length=l.length:=by simp [nats]
 unfold OwnI at ho;rw [hl] at ho ⊢;exact ⟨A,c,rfl,Rd.of_own ho,fun b o e=>(World.ownsRow.lt ho b (by rw [e]; rfl)).1,hb⟩
def insM (l:List Nat) (n:Nat):List Nat:=match l with
 | [m]=>if m=n then [m] else if n<m then [n,m] else [m,n]
 | _=>[n]
theorem rinsert0 (n:Nat) (A:Option Addr) (c:Nat) (w:World) :
  Calls Tryz.prog 117 #[.slice A 0 c,.int .i64 n] w (RetN w.heap.size [n] w):=by
 obtain ⟨i0,hi,hz⟩:=Option.map_eq_some_iff.1 i64info;have hz0:i0.zero=some (.int .i64 0):=congrArg (fun t=>t.1) hz;have hz1:i0.size=1:=congrArg (fun t=>t.2.1) hz;have hz2:i0.bytes=8:=congrArg (fun t=>t.2.2) hz;clear hz;have g1:((n:Int) == -1)=false:=by simp
 go_enter Tryz.func117,Tryz.ntmps117;go_upto_region 4 with fail;have hown:=ownI_lit w;have hb:=below_alloc w (.cells #[] 3);generalize w.alloc _=W1 at hown hb ⊢;generalize (Value.slice (some ⟨w.heap.size,0,none⟩) 0 0)=u0 at hown ⊢;go_loopw [5,6,7] (fun a d k wr=>a=u0∧d=.bool false∧k=.int .i64 0∧wr=W1) (fun _ _ _ _=>0)
 case atStart=>exact ⟨rfl,rfl,rfl,rfl⟩
 case round=>
  obtain ⟨rfl,rfl,rfl,rfl⟩:=hrel;obtain ⟨A,c,rfl⟩:=own_form hown;unfold OwnI at hown;have hmx:(nats []).length+1≤maxLen:=by simp [nats,maxLen]
  have hby:((nats []).length+1) * 8≤140737488355328:=by simp [nats]
  have hbs:w.heap.size≤(wr.alloc (.cells #[.int .i64 (n:Int)] 3)).heap.size:=by have:=hb.size; simp; omega
  have hbl:=hb.trans ((below_alloc wr (.cells #[.int .i64 (n:Int)] 3)).mono hb.size);go_wp2_with (at_builtin; refine wpList_append_own _ rfl (.tmp 47) (.tmp 49) _ rfl w.heap.size 3 i0 (.int .i64 0) 1 8 Tryz.underlying27 hi hz0 hz1 hz2 rfl (by omega) _ _ _ rfl (World.ownsRow.alloc hown _) ⟨wr.heap.size,0,none⟩ 1 1 [.int .i64 (n:Int)] rfl rfl (cell_one _ _ _) (by simp [Value.oneCell']) hmx hby hbs ?_; intro v2 w3 hown2 hg2 _);go_ret;exact retN_own (ownI_of_eq rfl rfl hown2) (hbl.grown hg2 hbs (fun g e=>(World.ownsRow.lt hown g e).1))
theorem rinsert1 (n m:Nat) (A:Option Addr) (c:Nat) (w:World) (h:Rd w w.heap.size 1 A 1 (i64s (nats [m]))) (B:Nat) (hB:∀ b o:Nat,A=some ⟨b,o,none⟩→B≤b) (hBw:B≤w.heap.size) :
  Calls Tryz.prog 117 #[.slice A 1 c,.int .i64 n] w (RetN B (insM [m] n) w):=by
 obtain ⟨i0,hi,hz⟩:=Option.map_eq_some_iff.1 i64info;have hz0:i0.zero=some (.int .i64 0):=congrArg (fun t=>t.1) hz;have hz1:i0.size=1:=congrArg (fun t=>t.2.1) hz;have hz2:i0.bytes=8:=congrArg (fun t=>t.2.2) hz;clear hz;have HRD:=hid h;have HFR:=hid hB;have HBW:=hid hBw;clear hB hBw;obtain ⟨b,off,rfl,hbb,hc⟩:=h.addr (by omega);have x0:=hc 0 _ rfl;rw [Nat.add_zero] at x0;clear h hc;have g1:((n:Int) == -1)=false:=by simp
 by_cases e:m=n
 ·subst e
  have HI:Hid (insM [m] m=[m]):=hid (by simp [insM]);have g2:((m:Int) == (m:Int))=true:=by simp
  go_enter Tryz.func117,Tryz.ntmps117;go_upto_region 4 with fail;have hb:=below_alloc w (.cells #[] 3);have x1:=(hb.cell (p:=⟨b,off,none⟩) hbb).trans x0;generalize w.alloc _=W1 at hb x1 ⊢;generalize (Value.slice (some ⟨w.heap.size,0,none⟩) 0 0)=u0;go_loopw [5,6,7] (fun a d k wr=>a=u0∧d=.bool false∧k=.int .i64 0∧wr=W1) (fun _ _ _ _=>0)
  case atStart=>exact ⟨rfl,rfl,rfl,rfl⟩
  case round=>
   obtain ⟨rfl,rfl,rfl,rfl⟩:=hrel;go_wp2_with fail;go_ret;unfold RetN;rw [HI.out];exact ⟨_,c,rfl,Rd.more (Rd.below' HRD.out hb (Nat.le_refl _)) hb.size,HFR.out,hb⟩
 ·have g2:((m:Int) == (n:Int))=false:=by simp; omega
  by_cases hlt:n<m
  ·have HI:Hid (insM [m] n=[n,m]):=hid (by simp only [insM]; rw [if_neg e,if_pos hlt])
   have g3:=Dt (show (n:Int)<m by omega);have g4:=Dt hlt;clear e hlt;go_enter Tryz.func117,Tryz.ntmps117;go_upto_region 4 with fail;have hown:=ownI_lit w;have hb:=below_alloc w (.cells #[] 3);have x1:=(hb.cell (p:=⟨b,off,none⟩) hbb).trans x0;generalize w.alloc _=W1 at hown hb x1 ⊢;generalize (Value.slice (some ⟨w.heap.size,0,none⟩) 0 0)=u0 at hown ⊢;go_loopw [5,6,7] (fun a d k wr=>(a=u0∧d=.bool false∧k=.int .i64 0∧wr=W1)∨(d=.bool true∧k=.int .i64 1∧OwnI wr w.heap.size a (nats [n,m])∧Below w.heap.size w wr)) (fun _ _ k _=>1 - (intOf k).toNat)
   case atStart=>exact .inl ⟨rfl,rfl,rfl,rfl⟩
   case round=>
    rcases hrel with ⟨rfl,rfl,rfl,rfl⟩ | ⟨rfl,rfl,hown,hb⟩
    ·clear HRD
     obtain ⟨A,c,rfl⟩:=own_form hown;unfold OwnI at hown;have hmx:(nats []).length+1≤maxLen:=by simp [nats,maxLen]
     have hby:((nats []).length+1) * 8≤140737488355328:=by simp [nats]
     have hbs:w.heap.size≤(wr.alloc (.cells #[.int .i64 (n:Int)] 3)).heap.size:=by have:=hb.size; simp; omega
     have hbl:=hb.trans ((below_alloc wr (.cells #[.int .i64 (n:Int)] 3)).mono hb.size);go_upto_region 10 with (at_builtin; refine wpList_append_own _ rfl (.tmp 34) (.tmp 36) _ rfl w.heap.size 3 i0 (.int .i64 0) 1 8 Tryz.underlying27 hi hz0 hz1 hz2 rfl (by omega) _ _ _ rfl (World.ownsRow.alloc hown _) ⟨wr.heap.size,0,none⟩ 1 1 [.int .i64 (n:Int)] rfl rfl (cell_one _ _ _) (by simp [Value.oneCell']) hmx hby hbs ?_; intro v2 w3 hown2 hg2 _)
     have hb3:=hbl.grown hg2 hbs (fun g e=>(World.ownsRow.lt hown g e).1);have x2:=(hb3.cell (p:=⟨b,off,none⟩) hbb).trans x0;have hown3:OwnI w3 w.heap.size v2 (nats [n]):=ownI_of_eq rfl rfl hown2;clear hown2 hown hmx hby hbs hg2 hbl hb x1;obtain ⟨A2,c2,rfl⟩:=own_form hown3;unfold OwnI at hown3;have hmx2:(nats [n]).length+1≤maxLen:=by simp [nats,maxLen]
     have hby2:((nats [n]).length+1) * 8≤140737488355328:=by simp [nats]
     have hbs2:w.heap.size≤(w3.alloc (.cells #[.int .i64 (m:Int)] 3)).heap.size:=by have:=hb3.size; simp; omega
     have hbl2:=hb3.trans ((below_alloc w3 (.cells #[.int .i64 (m:Int)] 3)).mono hb3.size);go_wp2_with (at_builtin; refine wpList_append_own _ rfl (.tmp 38) (.tmp 43) _ rfl w.heap.size 3 i0 (.int .i64 0) 1 8 Tryz.underlying27 hi hz0 hz1 hz2 rfl (by omega) _ _ _ rfl (World.ownsRow.alloc hown3 _) ⟨w3.heap.size,0,none⟩ 1 1 [.int .i64 (m:Int)] rfl rfl (cell_one _ _ _) (by simp [Value.oneCell']) hmx2 hby2 hbs2 ?_; intro v4 w5 hown4 hg4 _);exact ⟨.inr ⟨rfl,rfl,ownI_of_eq rfl rfl hown4,hbl2.grown hg4 hbs2 (fun g e=>(World.ownsRow.lt hown3 g e).1)⟩,by decide⟩
    ·go_wp2_with fail
     go_ret;rw [HI.out];exact retN_own (ownI_mono hown HBW.out) hb
  ·have HI:Hid (insM [m] n=[m,n]):=hid (by simp only [insM]; rw [if_neg e,if_neg hlt])
   have g3:=Df (show ¬ (n:Int)<m by omega);have g4:=Df hlt;clear e hlt;go_enter Tryz.func117,Tryz.ntmps117;go_upto_region 4 with fail;have hown:=ownI_lit w;have hb:=below_alloc w (.cells #[] 3);have x1:=(hb.cell (p:=⟨b,off,none⟩) hbb).trans x0;generalize w.alloc _=W1 at hown hb x1 ⊢;generalize (Value.slice (some ⟨w.heap.size,0,none⟩) 0 0)=u0 at hown ⊢;go_loopw [5,6,7] (fun a d k wr=>(a=u0∧d=.bool false∧k=.int .i64 0∧wr=W1)∨(d=.bool false∧k=.int .i64 1∧OwnI wr w.heap.size a (nats [m])∧Below w.heap.size w wr)) (fun _ _ k _=>1 - (intOf k).toNat)
   case atStart=>exact .inl ⟨rfl,rfl,rfl,rfl⟩
   case round=>
    rcases hrel with ⟨rfl,rfl,rfl,rfl⟩ | ⟨rfl,rfl,hown,hb⟩
    ·clear HRD
     obtain ⟨A,c,rfl⟩:=own_form hown;unfold OwnI at hown;have hmx:(nats []).length+1≤maxLen:=by simp [nats,maxLen]
     have hby:((nats []).length+1) * 8≤140737488355328:=by simp [nats]
     have hbs:w.heap.size≤(wr.alloc (.cells #[.int .i64 (m:Int)] 3)).heap.size:=by have:=hb.size; simp; omega
     have hbl:=hb.trans ((below_alloc wr (.cells #[.int .i64 (m:Int)] 3)).mono hb.size);go_wp2_with (at_builtin; refine wpList_append_own _ rfl (.tmp 38) (.tmp 43) _ rfl w.heap.size 3 i0 (.int .i64 0) 1 8 Tryz.underlying27 hi hz0 hz1 hz2 rfl (by omega) _ _ _ rfl (World.ownsRow.alloc hown _) ⟨wr.heap.size,0,none⟩ 1 1 [.int .i64 (m:Int)] rfl rfl (cell_one _ _ _) (by simp [Value.oneCell']) hmx hby hbs ?_; intro v2 w3 hown2 hg2 _);exact ⟨.inr ⟨rfl,rfl,ownI_of_eq rfl rfl hown2,hbl.grown hg2 hbs (fun g e=>(World.ownsRow.lt hown g e).1)⟩,by decide⟩
    ·clear HRD
     obtain ⟨A,c,rfl⟩:=own_form hown;unfold OwnI at hown;have hmx:(nats [m]).length+1≤maxLen:=by simp [nats,maxLen]
     have hby:((nats [m]).length+1) * 8≤140737488355328:=by simp [nats]
     have hbs:w.heap.size≤(wr.alloc (.cells #[.int .i64 (n:Int)] 3)).heap.size:=by have:=hb.size; simp; omega
     have hbl:=hb.trans ((below_alloc wr (.cells #[.int .i64 (n:Int)] 3)).mono hb.size);go_wp2_with (at_builtin; refine wpList_append_own _ rfl (.tmp 47) (.tmp 49) _ rfl w.heap.size 3 i0 (.int .i64 0) 1 8 Tryz.underlying27 hi hz0 hz1 hz2 rfl (by omega) _ _ _ rfl (World.ownsRow.alloc hown _) ⟨wr.heap.size,0,none⟩ 1 1 [.int .i64 (n:Int)] rfl rfl (cell_one _ _ _) (by simp [Value.oneCell']) hmx hby hbs ?_; intro v2 w3 hown2 hg2 _);go_ret;rw [HI.out];exact retN_own (ownI_mono (ownI_of_eq rfl rfl hown2) HBW.out) (hbl.grown hg2 hbs (fun g e=>(World.ownsRow.lt hown g e).1))
end
section
open Go.RowKit Go.Shelf
def stepL (p:Prg) (f k:Nat):List Nat:=if k+1<p.len f then [k+1] else []
theorem asc2_ins {m n:Nat}:asc2 [m,n]=insM [m] n:=by
 simp only [asc2,insM];by_cases e:m=n
 ·rw [if_pos e,if_pos e]
 ·rw [if_neg e,if_neg e]
  by_cases h:m<n
  ·rw [if_pos h,if_neg (by omega)]
  ·rw [if_neg h,if_pos (by omega)]
theorem filter_two {p:Prg} {f k n:Nat} (hn:n<p.len f):asc2 ([k+1,n].filter (fun n=>decide (n<p.len f)))=insM (stepL p f k) n:=by
 unfold stepL;have e2:=Dt hn;by_cases h:k+1<p.len f
 ·rw [if_pos h]
  simp only [List.filter_cons,List.filter_nil,decide_eq_true h,e2,if_true];exact asc2_ins
 ·rw [if_neg h]
  simp only [List.filter_cons,List.filter_nil,decide_eq_false h,e2,if_true,Bool.false_eq_true,if_false];rfl
theorem nextR {p:Prg} (hW:Wf p) {f k:Nat} (hf:f<p.funs.length) (hk:k<p.len f) :
  ((p.ins f k).op=16∨(p.ins f k).op=21→nextM p f k=[])∧((p.ins f k).op=13→nextM p f k=[(p.ins f k).a.toNat])∧((p.ins f k).op=14→nextM p f k=insM (stepL p f k) (p.ins f k).b.toNat) ∧
  ((p.ins f k).op=35→nextM p f k=insM (stepL p f k) (p.ins f k).c.toNat)∧((p.ins f k).op≠16→(p.ins f k).op≠21→(p.ins f k).op≠13→(p.ins f k).op≠14→(p.ins f k).op≠35→nextM p f k=stepL p f k):=by
 have hI:=hW.ins f k hf hk;have hl:(p.fn f).code.length=p.len f:=rfl;unfold nextM nextRaw;refine ⟨fun e=>?_,fun e=>?_,fun e=>?_,fun e=>?_,fun e1 e2 e3 e4 e5=>?_⟩
 ·rw [if_pos e]; rfl
 ·rw [if_neg (by omega),if_pos e]
  obtain ⟨h0,h1⟩:=hI.jump e;have h2:(p.ins f k).a.toNat<p.len f:=by omega
  simp [h2,asc2]
 ·rw [if_neg (by omega),if_neg (by omega),if_pos e]
  obtain ⟨h0,h1⟩:=hI.cond e;exact filter_two (by omega)
 ·rw [if_neg (by omega),if_neg (by omega),if_neg (by omega),if_pos e]
  obtain ⟨h0,h1⟩:=hI.open_ e;exact filter_two (by omega)
 ·rw [if_neg (by omega),if_neg (by omega),if_neg (by omega),if_neg (by omega)]
  unfold stepL;by_cases h:k+1<p.len f
  ·rw [if_pos h]; simp [h,asc2]
  ·rw [if_neg h]; simp [h,asc2]
theorem rnext_any (p:Prg) (hv:prgOk p) (f k:Nat) (hf:f<p.funs.length) (hk:k<p.len f) (w:World) (h:Lies w w.heap.size p) :
  Calls Tryz.prog 92 #[p.val,.int .i64 f,.int .i64 k] w (RetN w.heap.size (nextM p f k) w):=by
 have hW:=wf_of hv;have hl200:=hW.len f hf;have hfn:=hW.funs.2;have HNX:=hid (nextR hW hf hk);have HCK:=hid (fun (W:World) (hb:Below w.heap.size w W)=>(refCheck_any p W (h.next hb)).mono fun _ _ r=>RetE.ok r hv);have HIN:=hid (hW.ins f k hf hk);obtain ⟨i0,hi,hz⟩:=Option.map_eq_some_iff.1 i64info;have hz0:i0.zero=some (.int .i64 0):=congrArg (fun t=>t.1) hz;have hz1:i0.size=1:=congrArg (fun t=>t.2.1) hz;have hz2:i0.bytes=8:=congrArg (fun t=>t.2.2) hz;clear hz;obtain ⟨b,off,b2,off2,hA,hb,hb2,-,d5,q0,q1,q2,q3,q4⟩:=h.at_ hf hk;unfold Prg.val at HCK ⊢;rw [hA] at HCK ⊢;clear h;go_enter Tryz.func92,Tryz.ntmps92;go_upto_region 2 with fail;have hT:=(one_new w #[.slice (some ⟨b,off,none⟩) p.funs.length p.funC,.slice p.obA p.obs.length p.obC,.slice p.vrA p.vrs.length p.vrC] 26).next (below_alloc _ (.cells #[] 3))
 have hown:=ownI_mono (ownI_lit (w.alloc (.cells #[.slice (some ⟨b,off,none⟩) p.funs.length p.funC,.slice p.obA p.obs.length p.obC,.slice p.vrA p.vrs.length p.vrC] 26))) (base':=w.heap.size) (by simp);rw [World.size_alloc] at hown;generalize World.alloc _ _=W1 at hT hown ⊢;generalize (Value.slice (some ⟨w.heap.size+1,0,none⟩) 0 0)=u0 at hown ⊢;have f0:=zi f;have f1:(f:Int)<(p.funs.length:Int):=by omega
 have k0:=zi k;have k1:(k:Int)<(p.len f:Int):=by omega
 have hw1:=Wj p.funs.length (by omega);have hw2:IntKind.i64.wrap ((p.len f:Int) - 1)=(p.len f:Int) - 1:=by rw [IntKind.wrap_i64]; omega
 have hw3:=Wi k (by omega);have b1:inR2 (f:Int) 0 ((p.funs.length:Int) - 1)=true:=inR2_iff.2 ⟨f0,by omega⟩;have b2':inR2 (k:Int) 0 ((p.len f:Int) - 1)=true:=inR2_iff.2 ⟨k0,by omega⟩;have HD5:=hid d5;have HQ:=hid (And.intro q0 (And.intro q1 (And.intro q2 (And.intro q3 q4))));clear d5 q0 q1 q2 q3 q4;obtain ⟨x0,x1,x2⟩:=bx3 hT.fst;have HC1:=hid (HCK.out W1 hT.below);clear HCK;go_wp2_with fail;refine HC1.out.mono ?_;rintro e W2 ⟨rfl,hb12⟩;have hT2:=hT.next hb12;have hown2:OwnI W2 w.heap.size u0 (nats []):=ownI_below hown hb12;clear x0 x1 x2 hT HC1;obtain ⟨x0,x1,x2⟩:=bx3 hT2.fst;have d5:=(hT2.below.cell (p:=⟨b,off+f * 6+5,none⟩) hb).trans HD5.out;go_wp2_with fail;refine (between_any _ _ _ _).mono ?_;rintro e W3 ⟨rfl,hb23⟩;have hT3:=hT2.next hb23;have hown3:=ownI_below hown2 hb23
 clear x0 x1 x2 d5 hT2 hown2 hb12 hb23 hown;obtain ⟨x0,x1,x2⟩:=bx3 hT3.fst;have d5:=(hT3.below.cell (p:=⟨b,off+f * 6+5,none⟩) hb).trans HD5.out;go_wp2_with fail;refine (between_any _ _ _ _).mono ?_;rintro e W4 ⟨rfl,hb34⟩;have hT4:=hT3.next hb34;have hown4:=ownI_below hown3 hb34;clear x0 x1 x2 d5 hT3 hown3 hb34;obtain ⟨x0,x1,x2⟩:=bx3 hT4.fst;have d5:=(hT4.below.cell (p:=⟨b,off+f * 6+5,none⟩) hb).trans HD5.out;obtain ⟨q0,q1,q2,q3,q4⟩:=HQ.out;replace q0:=(hT4.below.cell (p:=⟨b2,off2+k * 5,none⟩) hb2).trans q0;replace q1:=(hT4.below.cell (p:=⟨b2,off2+k * 5+1,none⟩) hb2).trans q1;replace q2:=(hT4.below.cell (p:=⟨b2,off2+k * 5+2,none⟩) hb2).trans q2;replace q3:=(hT4.below.cell (p:=⟨b2,off2+k * 5+3,none⟩) hb2).trans q3
 replace q4:=(hT4.below.cell (p:=⟨b2,off2+k * 5+4,none⟩) hb2).trans q4;clear HQ;generalize hi2:p.ins f k=i at q0 q1 q2 q3 q4 HNX HIN;clear hi2;obtain ⟨op,a,bb,cc,args,argA,argC⟩:=i;dsimp only at q0 q1 q2 q3 q4 HNX;generalize args.length=N at q4;go_upto_region 5 with fail;clear q0 q1 q2 q3 q4;have hz:=bx_new W4 #[.int .i64 op,.int .i64 a,.int .i64 bb,.int .i64 cc,.slice argA N argC] 63;have hb45:=below_alloc W4 (.cells #[.int .i64 op,.int .i64 a,.int .i64 bb,.int .i64 cc,.slice argA N argC] 63);have hOB:∀ g,u0.ownBlock=some g→g<W4.heap.size:=fun g e=>(World.ownsRow.lt hown4 g e).2
 generalize World.alloc W4 _=W5 at hz hb45 ⊢;have hT5:=hT4.next hb45;have hown5:=ownI_below hown4 hb45;generalize W4.heap.size=G at hz hOB ⊢;clear x0 x1 x2 d5 hT4 hown4 hb45;obtain ⟨x0,x1,x2⟩:=bx3 hT5.fst;obtain ⟨z0,z1,z2,z3,z4⟩:=bx5 hz;have d5:=(hT5.below.cell (p:=⟨b,off+f * 6+5,none⟩) hb).trans HD5.out;have hb5:=hT5.below;clear hz hT5 HD5;by_cases h16:op=16
 ·subst h16
  have HNE:=hid (HNX.out.1 (.inl rfl));go_wp2_with fail;go_ret;rw [HNE.out];exact retN_own hown5 hb5
 by_cases h21:op=21
 ·subst h21
  have HNE:=hid (HNX.out.1 (.inr rfl));clear h16;go_wp2_with fail;go_ret;rw [HNE.out];exact retN_own hown5 hb5
 have g16:(op == 16)=false:=by simpa using h16
 have g21:(op == 21)=false:=by simpa using h21
 by_cases h13:op=13
 ·subst h13
  obtain ⟨n0,n1⟩:=HIN.out.jump rfl;obtain ⟨x,rfl⟩:∃ x:Nat,a=(x:Int):=⟨a.toNat,by dsimp only at n0; omega⟩
  have HNE:=hid (HNX.out.2.1 rfl);clear n0 n1 h16 h21;go_wp2_with fail;go_ret;rw [HNE.out];have hlit:=World.ownsRow_lit (base:=W5.heap.size) (e:=3) (size:=1) W5 #[.int .i64 (x:Int)] 1 (Nat.le_refl _) (by decide) rfl;exact ⟨_,1,rfl,Rd.of_own hlit,fun b o e=>by injection e with e; injection e with e; have:=hb5.size; omega,hb5.trans (below_alloc2 hb5.size _)⟩
 have g13:(op == 13)=false:=by simpa using h13
 by_cases hs:k+1<p.len f
 ·have hstep:stepL p f k=[k+1]:=if_pos hs
  have gs:=Dt (show (k:Int)+1<(p.len f:Int) by omega);have gs2:=Dt hs;clear hs;have hown:=hown5;have hb:=hb5;obtain ⟨A,c,rfl⟩:=own_form hown;unfold OwnI at hown;have hmx:(nats []).length+1≤maxLen:=by simp [nats,maxLen]
  have hby:((nats []).length+1) * 8≤140737488355328:=by simp [nats]
  have hbs:w.heap.size≤(W5.alloc (.cells #[.int .i64 (((k+1:Nat)):Int)] 3)).heap.size:=by have:=hb.size; simp; omega
  have hbl:=hb.trans ((below_alloc W5 (.cells #[.int .i64 (((k+1:Nat)):Int)] 3)).mono hb.size);go_upto_region 11 with (at_builtin; refine wpList_append_own _ rfl (.tmp 70) (.tmp 73) _ rfl w.heap.size 3 i0 (.int .i64 0) 1 8 Tryz.underlying27 hi hz0 hz1 hz2 rfl (by omega) _ _ _ rfl (World.ownsRow.alloc hown _) ⟨W5.heap.size,0,none⟩ 1 1 [.int .i64 (((k+1:Nat)):Int)] rfl rfl (cell_one _ _ _) (by simp [Value.oneCell']) hmx hby hbs ?_; intro v2 w3 hown2 hg2 _)
  have hb3:=hbl.grown hg2 hbs (fun g e=>(World.ownsRow.lt hown g e).1);have hown3:OwnI w3 w.heap.size v2 (nats [k+1]):=ownI_of_eq rfl rfl hown2;have hz3:∀ (j:Nat) (v:Value),W5.cell? ⟨G,j,none⟩=some v→w3.cell? ⟨G,j,none⟩=some v:=fun j v hv=>hg2.cell (((below_alloc W5 _).cell (p:=⟨G,j,none⟩) (block_lt_of_cell hv)).trans hv) (fun e=>by have:=hOB G e.symm; omega)
  have y0:=hz3 _ _ z0;have y2:=hz3 _ _ z2;have y3:=hz3 _ _ z3;clear z0 z1 z2 z3 z4 hown2 hown hmx hby hbs hg2 hbl hb x0 x1 x2 d5 hz3 hown5 hb5 hOB;obtain ⟨A2,c2,rfl⟩:=own_form hown3;by_cases h14:op=14
  ·subst h14
   obtain ⟨n0,n1⟩:=HIN.out.cond rfl;obtain ⟨x,rfl⟩:∃ x:Nat,bb=(x:Int):=⟨bb.toNat,by dsimp only at n0; omega⟩
   have HNE:=hid (HNX.out.2.2.1 rfl);clear n0 n1;go_wp2_with fail;refine (rinsert1 x (k+1) _ _ w3 (Rd.of_own hown3) w.heap.size (fun b o e=>(World.ownsRow.lt hown3 b (by rw [e]; rfl)).1) hb3.size).mono ?_;rintro e W7 ⟨A7,c7,rfl,hr7,hf7,hb7⟩;have k0:=(hb7.cell (block_lt_of_cell y0)).trans y0;go_wp2_with fail;go_ret;rw [HNE.out,hstep];exact ⟨A7,c7,rfl,hr7,hf7,hb3.trans (hb7.mono hb3.size)⟩
  by_cases h35:op=35
  ·subst h35
   obtain ⟨n0,n1⟩:=HIN.out.open_ rfl;obtain ⟨x,rfl⟩:∃ x:Nat,cc=(x:Int):=⟨cc.toNat,by dsimp only at n0; omega⟩
   have HNE:=hid (HNX.out.2.2.2.1 rfl);clear n0 n1;go_wp2_with fail;refine (rinsert1 x (k+1) _ _ w3 (Rd.of_own hown3) w.heap.size (fun b o e=>(World.ownsRow.lt hown3 b (by rw [e]; rfl)).1) hb3.size).mono ?_;rintro e W7 ⟨A7,c7,rfl,hr7,hf7,hb7⟩;have k0:=(hb7.cell (block_lt_of_cell y0)).trans y0;go_wp2_with fail;go_ret;rw [HNE.out,hstep];exact ⟨A7,c7,rfl,hr7,hf7,hb3.trans (hb7.mono hb3.size)⟩
  have g14:(op == 14)=false:=by simpa using h14
  have g35:(op == 35)=false:=by simpa using h35
  have HNE:=hid (HNX.out.2.2.2.2 h16 h21 h13 h14 h35);clear h16 h21 h13 h14 h35;go_wp2_with fail;go_ret;rw [HNE.out,hstep];exact retN_own hown3 hb3
 ·have hstep:stepL p f k=[]:=if_neg hs
  have gs:=Df (show ¬ ((k:Int)+1<(p.len f:Int)) by omega);have gs2:=Df hs;clear hs;have hown:=hown5;obtain ⟨A,c0,rfl⟩:=own_form hown;by_cases h14:op=14
  ·subst h14
   obtain ⟨n0,n1⟩:=HIN.out.cond rfl;obtain ⟨x,rfl⟩:∃ x:Nat,bb=(x:Int):=⟨bb.toNat,by dsimp only at n0; omega⟩
   have HNE:=hid (HNX.out.2.2.1 rfl);clear n0 n1;go_wp2_with fail;refine (rinsert0 x _ _ W5).mono ?_;rintro e W7 ⟨A7,c7,rfl,hr7,hf7,hb7⟩;have k0:=(hb7.cell (block_lt_of_cell z0)).trans z0;go_wp2_with fail;go_ret;rw [HNE.out,hstep];exact ⟨A7,c7,rfl,hr7,fun b o e=>Nat.le_trans hb5.size (hf7 b o e),hb5.trans (hb7.mono hb5.size)⟩
  by_cases h35:op=35
  ·subst h35
   obtain ⟨n0,n1⟩:=HIN.out.open_ rfl;obtain ⟨x,rfl⟩:∃ x:Nat,cc=(x:Int):=⟨cc.toNat,by dsimp only at n0; omega⟩
   have HNE:=hid (HNX.out.2.2.2.1 rfl);clear n0 n1;go_wp2_with fail;refine (rinsert0 x _ _ W5).mono ?_;rintro e W7 ⟨A7,c7,rfl,hr7,hf7,hb7⟩;have k0:=(hb7.cell (block_lt_of_cell z0)).trans z0;go_wp2_with fail;go_ret;rw [HNE.out,hstep];exact ⟨A7,c7,rfl,hr7,fun b o e=>Nat.le_trans hb5.size (hf7 b o e),hb5.trans (hb7.mono hb5.size)⟩
  have g14:(op == 14)=false:=by simpa using h14
  have g35:(op == 35)=false:=by simpa using h35
  have HNE:=hid (HNX.out.2.2.2.2 h16 h21 h13 h14 h35);clear h16 h21 h13 h14 h35;go_wp2_with fail;go_ret;rw [HNE.out,hstep];exact retN_own hown5 hb5
end
end Go.Proofs.YtkpjdanfpolimaaGreat
