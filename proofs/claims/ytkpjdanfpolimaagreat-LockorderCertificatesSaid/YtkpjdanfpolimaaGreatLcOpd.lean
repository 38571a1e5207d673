/- The checker's operand, walked. Conditions: the program and the function lie in memory. -/
import Derived.Test.YtkpjdanfpolimaaGreatLcVar
set_option maxRecDepth 100000
set_option maxHeartbeats 12800000
namespace Go.Proofs.YtkpjdanfpolimaaGreat
open Go.RowKit
def ckCells (p:Prg) (f:Fn):List Value:=[.slice p.funA p.funs.length p.funC,.slice p.obA p.obs.length p.obC,.slice p.vrA p.vrs.length p.vrC,.string f.name,.int .i64 f.params,.int .i64 f.regs,.int .i64 f.prio,.bool f.clean,.slice f.codeA f.code.length f.codeC]
def ckVal (p:Prg) (f:Fn):Value:=.agg (ckCells p f).toArray
theorem reg_any (p:Prg) (f:Fn) (n:Int) (hr:0≤f.regs∧f.regs≤32) (w:World):Calls Tryz.prog 143 #[ckVal p f,.int .i64 n] w (Ret (.bool (inR2 n 0 (f.regs - 1))) w):=by
 have hwr:IntKind.i64.wrap (f.regs - 1)=f.regs - 1:=by rw [IntKind.wrap_i64]; omega
 go_enter Tryz.func143,Tryz.ntmps143;unfold ckVal ckCells;go_wp2_with fail;refine (within_any _ _ _ _).mono ?_;rintro e w1 ⟨rfl,hb1⟩;go_wp2_with fail;go_ret;exact ⟨rfl,(below_alloc _ _).trans (hb1.mono (by simp))⟩
def opOk (p:Prg) (f:Fn) (what:Nat) (kind n:Int):Prop:=
 match what with
 | 0=>n=0
 | 1=>inR2 n (-1099511627776) 1099511627776=true
 | 2=>inR2 n 0 99=true
 | 3=>inR2 n 0 (f.regs - 1)=true
 | 4=>inR2 n 0 (f.regs - 1)=true
 | 5=>inR2 n (-1) (f.regs - 1)=true
 | 6=>inR2 n 0 ((f.code.length:Int) - 1)=true
 | 7=>inR2 n 0 ((f.code.length:Int) - 1)=true∧∃ i,f.code[n.toNat]? = some i∧i.op=36
 | 8=>inR2 n 0 ((p.funs.length:Int) - 1)=true∧∃ g,p.funs[n.toNat]? = some g∧g.clean=false
 | 9=>inR2 n 0 ((p.funs.length:Int) - 1)=true∧∃ g,p.funs[n.toNat]? = some g∧g.clean=true
 | 10=>inR2 n 0 ((p.vrs.length:Int) - 1)=true
 | 11=>inR2 n 0 ((p.vrs.length:Int) - 1)=true∧∃ v,p.vrs[n.toNat]? = some v∧v.atomic=true
 | 12=>inR2 n 0 ((p.obs.length:Int) - 1)=true∧∃ o,p.obs[n.toNat]? = some o∧o.kind=kind
 | _=>False
theorem bx9 {W:World} {g:Nat} {a b c d e f h i j:Value} (hb:Bx W g [a,b,c,d,e,f,h,i,j]):W.cell? ⟨g,0,none⟩=some a∧W.cell? ⟨g,1,none⟩=some b∧W.cell? ⟨g,2,none⟩=some c∧W.cell? ⟨g,3,none⟩=some d∧W.cell? ⟨g,4,none⟩=some e∧W.cell? ⟨g,5,none⟩=some f∧W.cell? ⟨g,6,none⟩=some h∧W.cell? ⟨g,7,none⟩=some i∧W.cell? ⟨g,8,none⟩=some j:=⟨hb 0 _ rfl,hb 1 _ rfl,hb 2 _ rfl,hb 3 _ rfl,hb 4 _ rfl,hb 5 _ rfl,hb 6 _ rfl,hb 7 _ rfl,hb 8 _ rfl⟩
theorem bx2 {W:World} {g:Nat} {a b:Value} (h:Bx W g [a,b]):W.cell? ⟨g,0,none⟩=some a∧W.cell? ⟨g,1,none⟩=some b:=⟨h 0 _ rfl,h 1 _ rfl⟩
theorem inR2_iff {n lo hi:Int}:inR2 n lo hi=true↔lo≤n∧n≤hi:=by unfold inR2; simp
theorem inR2_no {n lo hi:Int}:inR2 n lo hi=false↔¬ (lo≤n∧n≤hi):=by rw [← inR2_iff]; simp
theorem opd0 (p:Prg) (f:Fn) (hf:f∈p.funs) (n kd:Int) (hn:-9223372036854775808≤n∧n≤9223372036854775807) (hr:0≤f.regs∧f.regs≤32) (w:World) (h:Lies w w.heap.size p) :
  Calls Tryz.prog 126 #[ckVal p f,.agg #[.int .i64 0,.int .i64 kd],.int .i64 n] w (RetE (opOk p f 0 kd n) w):=by
 have _hnr:=And.intro hn hr;have hcl:=(h.codeN f hf).1;have hfl:=h.funN;have hol:=h.obN;have hvl:=h.vrN;unfold maxLen at hcl hfl hol hvl;obtain ⟨V,hV⟩:∃ V,V=opOk p f 0 kd n:=⟨_,rfl⟩
 rw [← hV];have hV':=iff_of_eq hV;simp only [opOk] at hV';clear hV;have HV:=hid hV';clear hV';have hT:=two_new w #[.slice p.funA p.funs.length p.funC,.slice p.obA p.obs.length p.obC,.slice p.vrA p.vrs.length p.vrC,.string f.name,.int .i64 f.params,.int .i64 f.regs,.int .i64 f.prio,.bool f.clean,.slice f.codeA f.code.length f.codeC] #[.int .i64 0,.int .i64 kd] 144 160;go_enter Tryz.func126,Tryz.ntmps126;unfold ckVal ckCells;by_cases h0:n=0
 ·subst h0
  have hyes:V:=by rw [HV.out]
  clear HV;go_wp2_with fail;go_ret;exact retE_ok hyes hT.below
 ·have e1:(n != 0)=true:=by simpa using h0
  have HNO:=hid (show ¬ V from fun v=>by rw [HV.out] at v; exact h0 v);clear HV h0;go_wp2_with fail;go_ret;exact retE_no (by decide) HNO.out hT.below
theorem opd1 (p:Prg) (f:Fn) (hf:f∈p.funs) (n kd:Int) (hn:-9223372036854775808≤n∧n≤9223372036854775807) (hr:0≤f.regs∧f.regs≤32) (w:World) (h:Lies w w.heap.size p) :
  Calls Tryz.prog 126 #[ckVal p f,.agg #[.int .i64 1,.int .i64 kd],.int .i64 n] w (RetE (opOk p f 1 kd n) w):=by
 have _hnr:=And.intro hn hr;have hcl:=(h.codeN f hf).1;have hfl:=h.funN;have hol:=h.obN;have hvl:=h.vrN;unfold maxLen at hcl hfl hol hvl;obtain ⟨V,hV⟩:∃ V,V=opOk p f 1 kd n:=⟨_,rfl⟩
 rw [← hV];have hV':=iff_of_eq hV;simp only [opOk] at hV';clear hV;have HV:=hid hV';clear hV';have hT:=two_new w #[.slice p.funA p.funs.length p.funC,.slice p.obA p.obs.length p.obC,.slice p.vrA p.vrs.length p.vrC,.string f.name,.int .i64 f.params,.int .i64 f.regs,.int .i64 f.prio,.bool f.clean,.slice f.codeA f.code.length f.codeC] #[.int .i64 1,.int .i64 kd] 144 160;go_enter Tryz.func126,Tryz.ntmps126;unfold ckVal ckCells
 cases hq:inR2 n (-1099511627776) 1099511627776 with
 | false=>
  have hno:¬ V:=fun v=>by rw [HV.out] at v; exact absurd (hq.symm.trans v) (by decide)
  go_wp2_with fail;generalize World.alloc (World.alloc w _) _=W1 at hT ⊢;refine (within_any _ _ _ _).mono ?_;rw [hq];rintro e W4 ⟨rfl,hb4⟩;have hT4:=hT.next hb4;clear HV hq;go_wp2_with fail;go_ret;exact retE_no (by decide) hno hT4.below
 | true=>
  have hyes:V:=by rw [HV.out]; exact hq
  go_wp2_with fail;generalize World.alloc (World.alloc w _) _=W1 at hT ⊢;refine (within_any _ _ _ _).mono ?_;rw [hq];rintro e W4 ⟨rfl,hb4⟩;have hT4:=hT.next hb4;clear HV hq;go_wp2_with fail;go_ret;exact retE_ok hyes hT4.below
theorem opdP (p:Prg) (f:Fn) (hf:f∈p.funs) (n kd N:Int) (wh:Nat) (hx:(wh=2∧N=100)∨(wh=3∧N=f.regs)∨(wh=4∧N=f.regs)∨(wh=6∧N=(f.code.length:Int))∨(wh=10∧N=(p.vrs.length:Int))) (hn:-9223372036854775808≤n∧n≤9223372036854775807) (hr:0≤f.regs∧f.regs≤32) (w:World) (h:Lies w w.heap.size p) :
  Calls Tryz.prog 126 #[ckVal p f,.agg #[.int .i64 (wh:Nat),.int .i64 kd],.int .i64 n] w (RetE (opOk p f wh kd n) w):=by
 have _hnr:=And.intro hn hr;have hcl:=(h.codeN f hf).1;have hfl:=h.funN;have hol:=h.obN;have hvl:=h.vrN;unfold maxLen at hcl hfl hol hvl;obtain ⟨V,hV⟩:∃ V,V=opOk p f wh kd n:=⟨_,rfl⟩
 rw [← hV];obtain ⟨q,hq⟩:∃ q,inR2 n 0 (N - 1)=q:=⟨_,rfl⟩
 have HV:Hid (V↔q=true):=hid (by rw [hV,← hq]; rcases hx with ⟨rfl,rfl⟩ | ⟨rfl,rfl⟩ | ⟨rfl,rfl⟩ | ⟨rfl,rfl⟩ | ⟨rfl,rfl⟩ <;> exact Iff.rfl);have HF:Hid (insideF n N=if q then 0 else 2):=hid (by rw [insideF,hq]);have HIN:Hid (∀ W,_):=hid (fun W=>inside_any n N (by rcases hx with ⟨rfl,rfl⟩ | ⟨rfl,rfl⟩ | ⟨rfl,rfl⟩ | ⟨rfl,rfl⟩ | ⟨rfl,rfl⟩ <;> omega) (by rcases hx with ⟨rfl,rfl⟩ | ⟨rfl,rfl⟩ | ⟨rfl,rfl⟩ | ⟨rfl,rfl⟩ | ⟨rfl,rfl⟩ <;> omega) W);clear hV hq;have hT:=two_new w #[.slice p.funA p.funs.length p.funC,.slice p.obA p.obs.length p.obC,.slice p.vrA p.vrs.length p.vrC,.string f.name,.int .i64 f.params,.int .i64 f.regs,.int .i64 f.prio,.bool f.clean,.slice f.codeA f.code.length f.codeC] #[.int .i64 (wh:Nat),.int .i64 kd] 144 160
 rcases hx with ⟨rfl,rfl⟩ | ⟨rfl,rfl⟩ | ⟨rfl,rfl⟩ | ⟨rfl,rfl⟩ | ⟨rfl,rfl⟩
 all_goals
  go_enter Tryz.func126,Tryz.ntmps126;unfold ckVal ckCells;go_wp2_with fail;generalize World.alloc (World.alloc w _) _=W1 at hT ⊢;refine (HIN.out _).mono ?_;rw [HF.out];rintro e W4 ⟨rfl,hb4⟩;have hT4:=hT.next hb4;obtain ⟨x0,x1,x2,x3,x4,x5,x6,x7,x8⟩:=bx9 hT4.fst;obtain ⟨y0,y1⟩:=bx2 hT4.snd;clear HF HIN;cases q
  all_goals
   go_wp2_with fail
   try go_quiet (fail)
   try (go_wp2_with fail)
   go_ret
   first | exact retE_ok (HV.out.2 (by first | rfl | trivial)) (by first | exact hT4.below | exact hT4.below.trans (below_drews _ _ _)) | exact retE_no (by decide) (fun v=>by simpa using HV.out.1 v) (by first | exact hT4.below | exact hT4.below.trans (below_drews _ _ _))
theorem opd5 (p:Prg) (f:Fn) (hf:f∈p.funs) (n kd:Int) (hn:-9223372036854775808≤n∧n≤9223372036854775807) (hr:0≤f.regs∧f.regs≤32) (w:World) (h:Lies w w.heap.size p) :
  Calls Tryz.prog 126 #[ckVal p f,.agg #[.int .i64 5,.int .i64 kd],.int .i64 n] w (RetE (opOk p f 5 kd n) w):=by
 have _hnr:=And.intro hn hr;have hcl:=(h.codeN f hf).1;have hfl:=h.funN;have hol:=h.obN;have hvl:=h.vrN;unfold maxLen at hcl hfl hol hvl;obtain ⟨V,hV⟩:∃ V,V=opOk p f 5 kd n:=⟨_,rfl⟩
 rw [← hV];have hV':=iff_of_eq hV;simp only [opOk] at hV';clear hV;have HV:=hid hV';clear hV';have hT:=two_new w #[.slice p.funA p.funs.length p.funC,.slice p.obA p.obs.length p.obC,.slice p.vrA p.vrs.length p.vrC,.string f.name,.int .i64 f.params,.int .i64 f.regs,.int .i64 f.prio,.bool f.clean,.slice f.codeA f.code.length f.codeC] #[.int .i64 5,.int .i64 kd] 144 160;go_enter Tryz.func126,Tryz.ntmps126;unfold ckVal ckCells;obtain ⟨m,hm⟩:∃ m,m=IntKind.i64.wrap (n+1):=⟨_,rfl⟩
 have hwm:m=if n=9223372036854775807 then -9223372036854775808 else n+1:=by rw [hm,IntKind.wrap_i64]; split <;> omega
 have hm':IntKind.i64.wrap (n+1)=m:=hm.symm;have HWM:=hid hwm;clear hwm;have hwr2:IntKind.i64.wrap (f.regs+1)=f.regs+1:=by rw [IntKind.wrap_i64]; omega
 clear hm
 cases hq:inR2 m 0 ((f.regs+1) - 1) with
 | false=>
  have hno:¬ V:=fun v=>by rw [HV.out] at v; rw [inR2_no] at hq; rw [inR2_iff] at v; have hwm:=HWM.out; split at hwm <;> omega
  have hF:insideF m ((f.regs+1))=2:=by rw [insideF,hq]; rfl
  clear HV;go_wp2_with fail;generalize World.alloc (World.alloc w _) _=W1 at hT ⊢;refine (inside_any _ _ (by omega) (by omega) _).mono ?_;rw [hF];rintro e W4 ⟨rfl,hb4⟩;have hT4:=hT.next hb4;obtain ⟨x0,x1,x2,x3,x4,x5,x6,x7,x8⟩:=bx9 hT4.fst;obtain ⟨y0,y1⟩:=bx2 hT4.snd;go_wp2_with fail
  try go_quiet (fail)
  try (go_wp2_with fail)
  go_ret;exact retE_no (by decide) hno (by first | exact hT4.below | exact hT4.below.trans (below_drews _ _ _))
 | true=>
  have hF:insideF m ((f.regs+1))=0:=by rw [insideF,hq]; rfl
  have hyes:V:=by rw [HV.out]; exact (by rw [inR2_iff] at hq ⊢; have hwm:=HWM.out; split at hwm <;> omega)
  clear HV;go_wp2_with fail;generalize World.alloc (World.alloc w _) _=W1 at hT ⊢;refine (inside_any _ _ (by omega) (by omega) _).mono ?_;rw [hF];rintro e W4 ⟨rfl,hb4⟩;have hT4:=hT.next hb4;obtain ⟨x0,x1,x2,x3,x4,x5,x6,x7,x8⟩:=bx9 hT4.fst;obtain ⟨y0,y1⟩:=bx2 hT4.snd;go_wp2_with fail;go_ret;exact retE_ok hyes hT4.below
theorem opd7 (p:Prg) (f:Fn) (hf:f∈p.funs) (n kd:Int) (hn:-9223372036854775808≤n∧n≤9223372036854775807) (hr:0≤f.regs∧f.regs≤32) (w:World) (h:Lies w w.heap.size p) :
  Calls Tryz.prog 126 #[ckVal p f,.agg #[.int .i64 7,.int .i64 kd],.int .i64 n] w (RetE (opOk p f 7 kd n) w):=by
 have _hnr:=And.intro hn hr;have hcl:=(h.codeN f hf).1;have hfl:=h.funN;have hol:=h.obN;have hvl:=h.vrN;unfold maxLen at hcl hfl hol hvl;obtain ⟨V,hV⟩:∃ V,V=opOk p f 7 kd n:=⟨_,rfl⟩
 rw [← hV];have hV':=iff_of_eq hV;simp only [opOk] at hV';clear hV;have HV:=hid hV';clear hV';have hT:=two_new w #[.slice p.funA p.funs.length p.funC,.slice p.obA p.obs.length p.obC,.slice p.vrA p.vrs.length p.vrC,.string f.name,.int .i64 f.params,.int .i64 f.regs,.int .i64 f.prio,.bool f.clean,.slice f.codeA f.code.length f.codeC] #[.int .i64 7,.int .i64 kd] 144 160;go_enter Tryz.func126,Tryz.ntmps126;unfold ckVal ckCells
 cases hq:inR2 n 0 ((f.code.length:Int) - 1) with
 | false=>
  have hno:¬ V:=fun v=>by rw [HV.out] at v; exact absurd (hq.symm.trans v.1) (by decide)
  have hF:insideF n ((f.code.length:Int))=2:=by rw [insideF,hq]; rfl
  clear HV;go_wp2_with fail;generalize World.alloc (World.alloc w _) _=W1 at hT ⊢;refine (inside_any _ _ (by omega) (by omega) _).mono ?_;rw [hF];rintro e W4 ⟨rfl,hb4⟩;have hT4:=hT.next hb4;obtain ⟨x0,x1,x2,x3,x4,x5,x6,x7,x8⟩:=bx9 hT4.fst;obtain ⟨y0,y1⟩:=bx2 hT4.snd;go_wp2_with fail
  try go_quiet (fail)
  try (go_wp2_with fail)
  go_ret;exact retE_no (by decide) hno (by first | exact hT4.below | exact hT4.below.trans (below_drews _ _ _))
 | true=>
  have hF:insideF n ((f.code.length:Int))=0:=by rw [insideF,hq]; rfl
  obtain ⟨u,hu⟩:∃ u:Nat,n=(u:Int):=⟨n.toNat,by rw [inR2_iff] at hq; omega⟩
  subst hu;have hul:u<f.code.length:=by rw [inR2_iff] at hq; omega
  have hul2:(u:Int)<(f.code.length:Int):=by omega
  have hu0:=zi u;have hget:f.code[((u:Nat):Int).toNat]? = some f.code[u]:=by rw [show ((u:Nat):Int).toNat=u from by simp]; exact List.getElem?_eq_getElem hul
  obtain ⟨b,off,hA,hb,d,-,-,-,-⟩:=h.ins hf hul;rw [hA] at hT;have hel:=hget;obtain ⟨z,hz⟩:∃ z,f.code[u].op=z:=⟨_,rfl⟩
  rw [hz] at d
  have HV2:=hid (show V↔z=36 from by
   rw [HV.out,hget];constructor
   ·rintro ⟨_,q,e1,e2⟩
    injection e1 with e1;rw [← hz,e1]; exact e2
   ·intro e
    exact ⟨hq,_,rfl,by rw [hz]; exact e⟩)
  clear HV hget hel hz;by_cases hz2:z=36
  ·have hv:V:=by rw [HV2.out]; exact hz2
   have e1:(z != 36)=false:=by simpa using hz2
   clear HV2 hz2;go_wp2_with fail;generalize World.alloc (World.alloc w _) _=W1 at hT ⊢;refine (inside_any _ _ (by omega) (by omega) _).mono ?_;rw [hF];rintro e W4 ⟨rfl,hb4⟩;have hT4:=hT.next hb4;have d':=(hT4.below.cell (p:=⟨b,off+u * 5,none⟩) hb).trans d;obtain ⟨x0,x1,x2,x3,x4,x5,x6,x7,x8⟩:=bx9 hT4.fst;obtain ⟨y0,y1⟩:=bx2 hT4.snd;go_wp2_with fail
   try go_quiet (fail)
   try (go_wp2_with fail)
   go_ret;exact retE_ok hv (by first | exact hT4.below | exact hT4.below.trans (below_drews _ _ _))
  ·have hv:¬ V:=by rw [HV2.out]; exact hz2
   have e1:(z != 36)=true:=by simpa using hz2
   clear HV2 hz2;go_wp2_with fail;generalize World.alloc (World.alloc w _) _=W1 at hT ⊢;refine (inside_any _ _ (by omega) (by omega) _).mono ?_;rw [hF];rintro e W4 ⟨rfl,hb4⟩;have hT4:=hT.next hb4;have d':=(hT4.below.cell (p:=⟨b,off+u * 5,none⟩) hb).trans d;obtain ⟨x0,x1,x2,x3,x4,x5,x6,x7,x8⟩:=bx9 hT4.fst;obtain ⟨y0,y1⟩:=bx2 hT4.snd;go_wp2_with fail
   try go_quiet (fail)
   try (go_wp2_with fail)
   go_ret;exact retE_no (by decide) hv (by first | exact hT4.below | exact hT4.below.trans (below_drews _ _ _))
theorem opd8 (p:Prg) (f:Fn) (hf:f∈p.funs) (n kd:Int) (hn:-9223372036854775808≤n∧n≤9223372036854775807) (hr:0≤f.regs∧f.regs≤32) (w:World) (h:Lies w w.heap.size p) :
  Calls Tryz.prog 126 #[ckVal p f,.agg #[.int .i64 8,.int .i64 kd],.int .i64 n] w (RetE (opOk p f 8 kd n) w):=by
 have _hnr:=And.intro hn hr;have hcl:=(h.codeN f hf).1;have hfl:=h.funN;have hol:=h.obN;have hvl:=h.vrN;unfold maxLen at hcl hfl hol hvl;obtain ⟨V,hV⟩:∃ V,V=opOk p f 8 kd n:=⟨_,rfl⟩
 rw [← hV];have hV':=iff_of_eq hV;simp only [opOk] at hV';clear hV;have HV:=hid hV';clear hV';have hT:=two_new w #[.slice p.funA p.funs.length p.funC,.slice p.obA p.obs.length p.obC,.slice p.vrA p.vrs.length p.vrC,.string f.name,.int .i64 f.params,.int .i64 f.regs,.int .i64 f.prio,.bool f.clean,.slice f.codeA f.code.length f.codeC] #[.int .i64 8,.int .i64 kd] 144 160;go_enter Tryz.func126,Tryz.ntmps126;unfold ckVal ckCells
 cases hq:inR2 n 0 ((p.funs.length:Int) - 1) with
 | false=>
  have hno:¬ V:=fun v=>by rw [HV.out] at v; exact absurd (hq.symm.trans v.1) (by decide)
  have hF:insideF n ((p.funs.length:Int))=2:=by rw [insideF,hq]; rfl
  clear HV;go_wp2_with fail;generalize World.alloc (World.alloc w _) _=W1 at hT ⊢;refine (inside_any _ _ (by omega) (by omega) _).mono ?_;rw [hF];rintro e W4 ⟨rfl,hb4⟩;have hT4:=hT.next hb4;obtain ⟨x0,x1,x2,x3,x4,x5,x6,x7,x8⟩:=bx9 hT4.fst;obtain ⟨y0,y1⟩:=bx2 hT4.snd;go_wp2_with fail
  try go_quiet (fail)
  try (go_wp2_with fail)
  go_ret;exact retE_no (by decide) hno (by first | exact hT4.below | exact hT4.below.trans (below_drews _ _ _))
 | true=>
  have hF:insideF n ((p.funs.length:Int))=0:=by rw [insideF,hq]; rfl
  obtain ⟨u,hu⟩:∃ u:Nat,n=(u:Int):=⟨n.toNat,by rw [inR2_iff] at hq; omega⟩
  subst hu;have hul:u<p.funs.length:=by rw [inR2_iff] at hq; omega
  have hul2:(u:Int)<(p.funs.length:Int):=by omega
  have hu0:=zi u;have hget:p.funs[((u:Nat):Int).toNat]? = some p.funs[u]:=by rw [show ((u:Nat):Int).toNat=u from by simp]; exact List.getElem?_eq_getElem hul
  obtain ⟨b,off,hA,hb,-,-,-,-,d,-⟩:=h.fn hul;rw [hA] at hT;have hel:=hget;obtain ⟨z,hz⟩:∃ z,p.funs[u].clean=z:=⟨_,rfl⟩
  rw [hz] at d
  have HV2:=hid (show V↔z=false from by
   rw [HV.out,hget];constructor
   ·rintro ⟨_,q,e1,e2⟩
    injection e1 with e1;rw [← hz,e1]; exact e2
   ·intro e
    exact ⟨hq,_,rfl,by rw [hz]; exact e⟩)
  clear HV hget hel hz
  cases z with
  | false=>
   have hv:V:=HV2.out.2 (by decide);clear HV2;go_wp2_with fail;generalize World.alloc (World.alloc w _) _=W1 at hT ⊢;refine (inside_any _ _ (by omega) (by omega) _).mono ?_;rw [hF];rintro e W4 ⟨rfl,hb4⟩;have hT4:=hT.next hb4;have d':=(hT4.below.cell (p:=⟨b,off+u * 6+4,none⟩) hb).trans d;obtain ⟨x0,x1,x2,x3,x4,x5,x6,x7,x8⟩:=bx9 hT4.fst;obtain ⟨y0,y1⟩:=bx2 hT4.snd;go_wp2_with fail
   try go_quiet (fail)
   try (go_wp2_with fail)
   go_ret;exact retE_ok hv (by first | exact hT4.below | exact hT4.below.trans (below_drews _ _ _))
  | true=>
   have hv:¬ V:=fun v=>absurd (HV2.out.1 v) (by decide)
   clear HV2;go_wp2_with fail;generalize World.alloc (World.alloc w _) _=W1 at hT ⊢;refine (inside_any _ _ (by omega) (by omega) _).mono ?_;rw [hF];rintro e W4 ⟨rfl,hb4⟩;have hT4:=hT.next hb4;have d':=(hT4.below.cell (p:=⟨b,off+u * 6+4,none⟩) hb).trans d;obtain ⟨x0,x1,x2,x3,x4,x5,x6,x7,x8⟩:=bx9 hT4.fst;obtain ⟨y0,y1⟩:=bx2 hT4.snd;go_wp2_with fail
   try go_quiet (fail)
   try (go_wp2_with fail)
   go_ret;exact retE_no (by decide) hv (by first | exact hT4.below | exact hT4.below.trans (below_drews _ _ _))
theorem opd9 (p:Prg) (f:Fn) (hf:f∈p.funs) (n kd:Int) (hn:-9223372036854775808≤n∧n≤9223372036854775807) (hr:0≤f.regs∧f.regs≤32) (w:World) (h:Lies w w.heap.size p) :
  Calls Tryz.prog 126 #[ckVal p f,.agg #[.int .i64 9,.int .i64 kd],.int .i64 n] w (RetE (opOk p f 9 kd n) w):=by
 have _hnr:=And.intro hn hr;have hcl:=(h.codeN f hf).1;have hfl:=h.funN;have hol:=h.obN;have hvl:=h.vrN;unfold maxLen at hcl hfl hol hvl;obtain ⟨V,hV⟩:∃ V,V=opOk p f 9 kd n:=⟨_,rfl⟩
 rw [← hV];have hV':=iff_of_eq hV;simp only [opOk] at hV';clear hV;have HV:=hid hV';clear hV';have hT:=two_new w #[.slice p.funA p.funs.length p.funC,.slice p.obA p.obs.length p.obC,.slice p.vrA p.vrs.length p.vrC,.string f.name,.int .i64 f.params,.int .i64 f.regs,.int .i64 f.prio,.bool f.clean,.slice f.codeA f.code.length f.codeC] #[.int .i64 9,.int .i64 kd] 144 160;go_enter Tryz.func126,Tryz.ntmps126;unfold ckVal ckCells
 cases hq:inR2 n 0 ((p.funs.length:Int) - 1) with
 | false=>
  have hno:¬ V:=fun v=>by rw [HV.out] at v; exact absurd (hq.symm.trans v.1) (by decide)
  have hF:insideF n ((p.funs.length:Int))=2:=by rw [insideF,hq]; rfl
  clear HV;go_wp2_with fail;generalize World.alloc (World.alloc w _) _=W1 at hT ⊢;refine (inside_any _ _ (by omega) (by omega) _).mono ?_;rw [hF];rintro e W4 ⟨rfl,hb4⟩;have hT4:=hT.next hb4;obtain ⟨x0,x1,x2,x3,x4,x5,x6,x7,x8⟩:=bx9 hT4.fst;obtain ⟨y0,y1⟩:=bx2 hT4.snd;go_wp2_with fail
  try go_quiet (fail)
  try (go_wp2_with fail)
  go_ret;exact retE_no (by decide) hno (by first | exact hT4.below | exact hT4.below.trans (below_drews _ _ _))
 | true=>
  have hF:insideF n ((p.funs.length:Int))=0:=by rw [insideF,hq]; rfl
  obtain ⟨u,hu⟩:∃ u:Nat,n=(u:Int):=⟨n.toNat,by rw [inR2_iff] at hq; omega⟩
  subst hu;have hul:u<p.funs.length:=by rw [inR2_iff] at hq; omega
  have hul2:(u:Int)<(p.funs.length:Int):=by omega
  have hu0:=zi u;have hget:p.funs[((u:Nat):Int).toNat]? = some p.funs[u]:=by rw [show ((u:Nat):Int).toNat=u from by simp]; exact List.getElem?_eq_getElem hul
  obtain ⟨b,off,hA,hb,-,-,-,-,d,-⟩:=h.fn hul;rw [hA] at hT;have hel:=hget;obtain ⟨z,hz⟩:∃ z,p.funs[u].clean=z:=⟨_,rfl⟩
  rw [hz] at d
  have HV2:=hid (show V↔z=true from by
   rw [HV.out,hget];constructor
   ·rintro ⟨_,q,e1,e2⟩
    injection e1 with e1;rw [← hz,e1]; exact e2
   ·intro e
    exact ⟨hq,_,rfl,by rw [hz]; exact e⟩)
  clear HV hget hel hz
  cases z with
  | false=>
   have hv:¬ V:=fun v=>absurd (HV2.out.1 v) (by decide)
   clear HV2;go_wp2_with fail;generalize World.alloc (World.alloc w _) _=W1 at hT ⊢;refine (inside_any _ _ (by omega) (by omega) _).mono ?_;rw [hF];rintro e W4 ⟨rfl,hb4⟩;have hT4:=hT.next hb4;have d':=(hT4.below.cell (p:=⟨b,off+u * 6+4,none⟩) hb).trans d;obtain ⟨x0,x1,x2,x3,x4,x5,x6,x7,x8⟩:=bx9 hT4.fst;obtain ⟨y0,y1⟩:=bx2 hT4.snd;go_wp2_with fail
   try go_quiet (fail)
   try (go_wp2_with fail)
   go_ret;exact retE_no (by decide) hv (by first | exact hT4.below | exact hT4.below.trans (below_drews _ _ _))
  | true=>
   have hv:V:=HV2.out.2 (by decide);clear HV2;go_wp2_with fail;generalize World.alloc (World.alloc w _) _=W1 at hT ⊢;refine (inside_any _ _ (by omega) (by omega) _).mono ?_;rw [hF];rintro e W4 ⟨rfl,hb4⟩;have hT4:=hT.next hb4;have d':=(hT4.below.cell (p:=⟨b,off+u * 6+4,none⟩) hb).trans d;obtain ⟨x0,x1,x2,x3,x4,x5,x6,x7,x8⟩:=bx9 hT4.fst;obtain ⟨y0,y1⟩:=bx2 hT4.snd;go_wp2_with fail
   try go_quiet (fail)
   try (go_wp2_with fail)
   go_ret;exact retE_ok hv (by first | exact hT4.below | exact hT4.below.trans (below_drews _ _ _))
theorem opd11 (p:Prg) (f:Fn) (hf:f∈p.funs) (n kd:Int) (hn:-9223372036854775808≤n∧n≤9223372036854775807) (hr:0≤f.regs∧f.regs≤32) (w:World) (h:Lies w w.heap.size p) :
  Calls Tryz.prog 126 #[ckVal p f,.agg #[.int .i64 11,.int .i64 kd],.int .i64 n] w (RetE (opOk p f 11 kd n) w):=by
 have _hnr:=And.intro hn hr;have hcl:=(h.codeN f hf).1;have hfl:=h.funN;have hol:=h.obN;have hvl:=h.vrN;unfold maxLen at hcl hfl hol hvl;obtain ⟨V,hV⟩:∃ V,V=opOk p f 11 kd n:=⟨_,rfl⟩
 rw [← hV];have hV':=iff_of_eq hV;simp only [opOk] at hV';clear hV;have HV:=hid hV';clear hV';have hT:=two_new w #[.slice p.funA p.funs.length p.funC,.slice p.obA p.obs.length p.obC,.slice p.vrA p.vrs.length p.vrC,.string f.name,.int .i64 f.params,.int .i64 f.regs,.int .i64 f.prio,.bool f.clean,.slice f.codeA f.code.length f.codeC] #[.int .i64 11,.int .i64 kd] 144 160;go_enter Tryz.func126,Tryz.ntmps126;unfold ckVal ckCells
 cases hq:inR2 n 0 ((p.vrs.length:Int) - 1) with
 | false=>
  have hno:¬ V:=fun v=>by rw [HV.out] at v; exact absurd (hq.symm.trans v.1) (by decide)
  have hF:insideF n ((p.vrs.length:Int))=2:=by rw [insideF,hq]; rfl
  clear HV;go_wp2_with fail;generalize World.alloc (World.alloc w _) _=W1 at hT ⊢;refine (inside_any _ _ (by omega) (by omega) _).mono ?_;rw [hF];rintro e W4 ⟨rfl,hb4⟩;have hT4:=hT.next hb4;obtain ⟨x0,x1,x2,x3,x4,x5,x6,x7,x8⟩:=bx9 hT4.fst;obtain ⟨y0,y1⟩:=bx2 hT4.snd;go_wp2_with fail
  try go_quiet (fail)
  try (go_wp2_with fail)
  go_ret;exact retE_no (by decide) hno (by first | exact hT4.below | exact hT4.below.trans (below_drews _ _ _))
 | true=>
  have hF:insideF n ((p.vrs.length:Int))=0:=by rw [insideF,hq]; rfl
  obtain ⟨u,hu⟩:∃ u:Nat,n=(u:Int):=⟨n.toNat,by rw [inR2_iff] at hq; omega⟩
  subst hu;have hul:u<p.vrs.length:=by rw [inR2_iff] at hq; omega
  have hul2:(u:Int)<(p.vrs.length:Int):=by omega
  have hu0:=zi u;have hget:p.vrs[((u:Nat):Int).toNat]? = some p.vrs[u]:=by rw [show ((u:Nat):Int).toNat=u from by simp]; exact List.getElem?_eq_getElem hul
  obtain ⟨b,off,hA,hb,-,-,d⟩:=h.vr hul;rw [hA] at hT;have hel:=hget;obtain ⟨z,hz⟩:∃ z,p.vrs[u].atomic=z:=⟨_,rfl⟩
  rw [hz] at d
  have HV2:=hid (show V↔z=true from by
   rw [HV.out,hget];constructor
   ·rintro ⟨_,q,e1,e2⟩
    injection e1 with e1;rw [← hz,e1]; exact e2
   ·intro e
    exact ⟨hq,_,rfl,by rw [hz]; exact e⟩)
  clear HV hget hel hz
  cases z with
  | false=>
   have hv:¬ V:=fun v=>absurd (HV2.out.1 v) (by decide)
   clear HV2;go_wp2_with fail;generalize World.alloc (World.alloc w _) _=W1 at hT ⊢;refine (inside_any _ _ (by omega) (by omega) _).mono ?_;rw [hF];rintro e W4 ⟨rfl,hb4⟩;have hT4:=hT.next hb4;have d':=(hT4.below.cell (p:=⟨b,off+u * 3+2,none⟩) hb).trans d;obtain ⟨x0,x1,x2,x3,x4,x5,x6,x7,x8⟩:=bx9 hT4.fst;obtain ⟨y0,y1⟩:=bx2 hT4.snd;go_wp2_with fail
   try go_quiet (fail)
   try (go_wp2_with fail)
   go_ret;exact retE_no (by decide) hv (by first | exact hT4.below | exact hT4.below.trans (below_drews _ _ _))
  | true=>
   have hv:V:=HV2.out.2 (by decide);clear HV2;go_wp2_with fail;generalize World.alloc (World.alloc w _) _=W1 at hT ⊢;refine (inside_any _ _ (by omega) (by omega) _).mono ?_;rw [hF];rintro e W4 ⟨rfl,hb4⟩;have hT4:=hT.next hb4;have d':=(hT4.below.cell (p:=⟨b,off+u * 3+2,none⟩) hb).trans d;obtain ⟨x0,x1,x2,x3,x4,x5,x6,x7,x8⟩:=bx9 hT4.fst;obtain ⟨y0,y1⟩:=bx2 hT4.snd;go_wp2_with fail
   try go_quiet (fail)
   try (go_wp2_with fail)
   go_ret;exact retE_ok hv (by first | exact hT4.below | exact hT4.below.trans (below_drews _ _ _))
theorem opd12 (p:Prg) (f:Fn) (hf:f∈p.funs) (n kd:Int) (hn:-9223372036854775808≤n∧n≤9223372036854775807) (hr:0≤f.regs∧f.regs≤32) (w:World) (h:Lies w w.heap.size p) :
  Calls Tryz.prog 126 #[ckVal p f,.agg #[.int .i64 12,.int .i64 kd],.int .i64 n] w (RetE (opOk p f 12 kd n) w):=by
 have _hnr:=And.intro hn hr;have hcl:=(h.codeN f hf).1;have hfl:=h.funN;have hol:=h.obN;have hvl:=h.vrN;unfold maxLen at hcl hfl hol hvl;obtain ⟨V,hV⟩:∃ V,V=opOk p f 12 kd n:=⟨_,rfl⟩
 rw [← hV];have hV':=iff_of_eq hV;simp only [opOk] at hV';clear hV;have HV:=hid hV';clear hV';have hT:=two_new w #[.slice p.funA p.funs.length p.funC,.slice p.obA p.obs.length p.obC,.slice p.vrA p.vrs.length p.vrC,.string f.name,.int .i64 f.params,.int .i64 f.regs,.int .i64 f.prio,.bool f.clean,.slice f.codeA f.code.length f.codeC] #[.int .i64 12,.int .i64 kd] 144 160;go_enter Tryz.func126,Tryz.ntmps126;unfold ckVal ckCells
 cases hq:inR2 n 0 ((p.obs.length:Int) - 1) with
 | false=>
  have hno:¬ V:=fun v=>by rw [HV.out] at v; exact absurd (hq.symm.trans v.1) (by decide)
  have hF:insideF n ((p.obs.length:Int))=2:=by rw [insideF,hq]; rfl
  clear HV;go_wp2_with fail;generalize World.alloc (World.alloc w _) _=W1 at hT ⊢;refine (inside_any _ _ (by omega) (by omega) _).mono ?_;rw [hF];rintro e W4 ⟨rfl,hb4⟩;have hT4:=hT.next hb4;obtain ⟨x0,x1,x2,x3,x4,x5,x6,x7,x8⟩:=bx9 hT4.fst;obtain ⟨y0,y1⟩:=bx2 hT4.snd;go_wp2_with fail
  try go_quiet (fail)
  try (go_wp2_with fail)
  go_ret;exact retE_no (by decide) hno (by first | exact hT4.below | exact hT4.below.trans (below_drews _ _ _))
 | true=>
  have hF:insideF n ((p.obs.length:Int))=0:=by rw [insideF,hq]; rfl
  obtain ⟨u,hu⟩:∃ u:Nat,n=(u:Int):=⟨n.toNat,by rw [inR2_iff] at hq; omega⟩
  subst hu;have hul:u<p.obs.length:=by rw [inR2_iff] at hq; omega
  have hul2:(u:Int)<(p.obs.length:Int):=by omega
  have hu0:=zi u;have hget:p.obs[((u:Nat):Int).toNat]? = some p.obs[u]:=by rw [show ((u:Nat):Int).toNat=u from by simp]; exact List.getElem?_eq_getElem hul
  obtain ⟨b,off,hA,hb,-,d,-,-⟩:=h.ob hul;rw [hA] at hT;have hel:=hget;obtain ⟨z,hz⟩:∃ z,p.obs[u].kind=z:=⟨_,rfl⟩
  rw [hz] at d
  have HV2:=hid (show V↔z=kd from by
   rw [HV.out,hget];constructor
   ·rintro ⟨_,q,e1,e2⟩
    injection e1 with e1;rw [← hz,e1]; exact e2
   ·intro e
    exact ⟨hq,_,rfl,by rw [hz]; exact e⟩)
  clear HV hget hel hz;by_cases hz2:z=kd
  ·have hv:V:=by rw [HV2.out]; exact hz2
   have e1:(z != kd)=false:=by simpa using hz2
   clear HV2 hz2;go_wp2_with fail;generalize World.alloc (World.alloc w _) _=W1 at hT ⊢;refine (inside_any _ _ (by omega) (by omega) _).mono ?_;rw [hF];rintro e W4 ⟨rfl,hb4⟩;have hT4:=hT.next hb4;have d':=(hT4.below.cell (p:=⟨b,off+u * 4+1,none⟩) hb).trans d;obtain ⟨x0,x1,x2,x3,x4,x5,x6,x7,x8⟩:=bx9 hT4.fst;obtain ⟨y0,y1⟩:=bx2 hT4.snd;go_wp2_with fail
   try go_quiet (fail)
   try (go_wp2_with fail)
   go_ret;exact retE_ok hv (by first | exact hT4.below | exact hT4.below.trans (below_drews _ _ _))
  ·have hv:¬ V:=by rw [HV2.out]; exact hz2
   have e1:(z != kd)=true:=by simpa using hz2
   clear HV2 hz2;go_wp2_with fail;generalize World.alloc (World.alloc w _) _=W1 at hT ⊢;refine (inside_any _ _ (by omega) (by omega) _).mono ?_;rw [hF];rintro e W4 ⟨rfl,hb4⟩;have hT4:=hT.next hb4;have d':=(hT4.below.cell (p:=⟨b,off+u * 4+1,none⟩) hb).trans d;obtain ⟨x0,x1,x2,x3,x4,x5,x6,x7,x8⟩:=bx9 hT4.fst;obtain ⟨y0,y1⟩:=bx2 hT4.snd;go_wp2_with fail
   try go_quiet (fail)
   try (go_wp2_with fail)
   go_ret;exact retE_no (by decide) hv (by first | exact hT4.below | exact hT4.below.trans (below_drews _ _ _))
theorem opd_any (p:Prg) (f:Fn) (hf:f∈p.funs) (what:Nat) (hw:what≤12) (n kd:Int) (hn:-9223372036854775808≤n∧n≤9223372036854775807) (hr:0≤f.regs∧f.regs≤32) (w:World) (h:Lies w w.heap.size p) :
  Calls Tryz.prog 126 #[ckVal p f,.agg #[.int .i64 (what:Int),.int .i64 kd],.int .i64 n] w (RetE (opOk p f what kd n) w):=by
 match what,hw with
 | 0,_=>exact opd0 p f hf n kd hn hr w h
 | 1,_=>exact opd1 p f hf n kd hn hr w h
 | 2,_=>exact opdP p f hf n kd _ _ (.inl ⟨rfl,rfl⟩) hn hr w h
 | 3,_=>exact opdP p f hf n kd _ _ (.inr (.inl ⟨rfl,rfl⟩)) hn hr w h
 | 4,_=>exact opdP p f hf n kd _ _ (.inr (.inr (.inl ⟨rfl,rfl⟩))) hn hr w h
 | 5,_=>exact opd5 p f hf n kd hn hr w h
 | 6,_=>exact opdP p f hf n kd _ _ (.inr (.inr (.inr (.inl ⟨rfl,rfl⟩)))) hn hr w h
 | 7,_=>exact opd7 p f hf n kd hn hr w h
 | 8,_=>exact opd8 p f hf n kd hn hr w h
 | 9,_=>exact opd9 p f hf n kd hn hr w h
 | 10,_=>exact opdP p f hf n kd _ _ (.inr (.inr (.inr (.inr ⟨rfl,rfl⟩)))) hn hr w h
 | 11,_=>exact opd11 p f hf n kd hn hr w h
 | 12,_=>exact opd12 p f hf n kd hn hr w h
end Go.Proofs.YtkpjdanfpolimaaGreat
