/- ref13.checkObjectIndex and checkOperand, walked. Conditions: the program and the function lie in memory. -/
import Derived.Test.YtkpjdanfpolimaaGreatLcOpd
set_option maxRecDepth 100000
set_option maxHeartbeats 12800000
namespace Go.Proofs.YtkpjdanfpolimaaGreat
open Go.RowKit
theorem bx6 {W:World} {g:Nat} {a b c d e f:Value} (hb:Bx W g [a,b,c,d,e,f]):W.cell? ⟨g,0,none⟩=some a∧W.cell? ⟨g,1,none⟩=some b∧W.cell? ⟨g,2,none⟩=some c∧W.cell? ⟨g,3,none⟩=some d∧W.cell? ⟨g,4,none⟩=some e∧W.cell? ⟨g,5,none⟩=some f:=⟨hb 0 _ rfl,hb 1 _ rfl,hb 2 _ rfl,hb 3 _ rfl,hb 4 _ rfl,hb 5 _ rfl⟩
theorem obIdx_any (p:Prg) (n kd:Int) (w:World) (h:Lies w w.heap.size p) :
  Calls Tryz.prog 119 #[p.val,.int .i64 n,.int .i64 kd] w (RetE (inR2 n 0 ((p.obs.length:Int) - 1)=true∧∃ o,p.obs[n.toNat]? = some o∧o.kind=kd) w):=by
 have hol:=h.obN;unfold maxLen at hol;have hwr:=Wj p.obs.length (by omega);have hX:=bx_new w #[.slice p.funA p.funs.length p.funC,.slice p.obA p.obs.length p.obC,.slice p.vrA p.vrs.length p.vrC] 26;have hB:=below_alloc w (.cells #[.slice p.funA p.funs.length p.funC,.slice p.obA p.obs.length p.obC,.slice p.vrA p.vrs.length p.vrC] 26);have hS:(w.alloc (.cells #[.slice p.funA p.funs.length p.funC,.slice p.obA p.obs.length p.obC,.slice p.vrA p.vrs.length p.vrC] 26)).heap.size=w.heap.size+1:=by simp
 obtain ⟨V,hV⟩:∃ V,V=(inR2 n 0 ((p.obs.length:Int) - 1)=true∧∃ o,p.obs[n.toNat]? = some o∧o.kind=kd):=⟨_,rfl⟩
 rw [← hV];have HV:=hid (iff_of_eq hV);clear hV
 cases hq:inR2 n 0 ((p.obs.length:Int) - 1) with
 | false=>
  have HNO:=hid (show ¬ V from fun v=>absurd (hq.symm.trans (HV.out.1 v).1) (by decide));clear HV;go_enter Tryz.func119,Tryz.ntmps119;unfold Prg.val;go_wp2_with fail;generalize World.alloc w _=W1 at hX hB hS ⊢;refine (between_any _ _ _ _).mono ?_;rw [hq];rintro e W2 ⟨rfl,hb2⟩;go_wp2_with fail;go_ret;exact retE_no (by decide) HNO.out (hB.trans (hb2.mono (by omega)))
 | true=>
  obtain ⟨u,hu⟩:∃ u:Nat,n=(u:Int):=⟨n.toNat,by rw [inR2_iff] at hq; omega⟩
  subst hu;have hul:u<p.obs.length:=by rw [inR2_iff] at hq; omega
  have hul2:(u:Int)<(p.obs.length:Int):=by omega
  have hu0:=zi u;have hget:p.obs[((u:Nat):Int).toNat]? = some p.obs[u]:=by rw [show ((u:Nat):Int).toNat=u from by simp]; exact List.getElem?_eq_getElem hul
  obtain ⟨b,off,hA,hb,-,d,-,-⟩:=h.ob hul;rw [hA] at hX hB hS;obtain ⟨z,hz⟩:∃ z,p.obs[u].kind=z:=⟨_,rfl⟩
  rw [hz] at d
  have HV2:=hid (show V↔z=kd from by
   rw [HV.out,hget];constructor
   ·rintro ⟨_,q,e1,e2⟩
    injection e1 with e1;rw [← hz,e1]; exact e2
   ·intro e
    exact ⟨hq,_,rfl,by rw [hz]; exact e⟩)
  clear HV hget hz;by_cases hz2:z=kd
  ·have HY:=hid (HV2.out.2 hz2)
   have e1:(z != kd)=false:=by simpa using hz2
   clear HV2 hz2;go_enter Tryz.func119,Tryz.ntmps119;unfold Prg.val;rw [hA];go_wp2_with fail;generalize World.alloc w _=W1 at hX hB hS ⊢;refine (between_any _ _ _ _).mono ?_;rw [hq];rintro e W2 ⟨rfl,hb2⟩;obtain ⟨x0,x1,x2⟩:=bx3 (hX.below hb2 (by omega));have hB2:=hB.trans (hb2.mono (by omega:w.heap.size≤W1.heap.size));have d':=(hB2.cell (p:=⟨b,off+u * 4+1,none⟩) hb).trans d;go_wp2_with fail
   try go_quiet (fail)
   try (go_wp2_with fail)
   go_ret;exact retE_ok HY.out (by first | exact hB2 | exact hB2.trans (below_drews _ _ _))
  ·have HNO:=hid (show ¬ V from fun v=>hz2 (HV2.out.1 v))
   have e1:(z != kd)=true:=by simpa using hz2
   clear HV2 hz2;go_enter Tryz.func119,Tryz.ntmps119;unfold Prg.val;rw [hA];go_wp2_with fail;generalize World.alloc w _=W1 at hX hB hS ⊢;refine (between_any _ _ _ _).mono ?_;rw [hq];rintro e W2 ⟨rfl,hb2⟩;obtain ⟨x0,x1,x2⟩:=bx3 (hX.below hb2 (by omega));have hB2:=hB.trans (hb2.mono (by omega:w.heap.size≤W1.heap.size));have d':=(hB2.cell (p:=⟨b,off+u * 4+1,none⟩) hb).trans d;go_wp2_with fail
   try go_quiet (fail)
   try (go_wp2_with fail)
   go_ret;exact retE_no (by decide) HNO.out (by first | exact hB2 | exact hB2.trans (below_drews _ _ _))
theorem ropd46 (p:Prg) (f:Fn) (hf:f∈p.funs) (n kd:Int) (hr:0≤f.regs∧f.regs≤32) (w:World) (h:Lies w w.heap.size p) :
  Calls Tryz.prog 97 #[p.val,f.val,.int .u8 46,.int .i64 n] w (RetE (opOk p f 0 kd n) w):=by
 have hcl:=(h.codeN f hf).1;have _hrr:=hr;have hfl:=h.funN;have hol:=h.obN;have hvl:=h.vrN;unfold maxLen at hcl hfl hol hvl;have hw1:=Wj p.funs.length (by omega);have hw2:=Wj p.vrs.length (by omega);have hw3:=Wj f.code.length (by omega);have hw4:IntKind.i64.wrap (f.regs - 1)=f.regs - 1:=by rw [IntKind.wrap_i64]; omega
 obtain ⟨V,hV⟩:∃ V,V=opOk p f 0 kd n:=⟨_,rfl⟩
 rw [← hV];have hV':=iff_of_eq hV;simp only [opOk] at hV';clear hV;have HV:=hid hV';clear hV';have hT:=two_new w #[.slice p.funA p.funs.length p.funC,.slice p.obA p.obs.length p.obC,.slice p.vrA p.vrs.length p.vrC] #[.string f.name,.int .i64 f.params,.int .i64 f.regs,.int .i64 f.prio,.bool f.clean,.slice f.codeA f.code.length f.codeC] 26 60;go_enter Tryz.func97,Tryz.ntmps97;unfold Prg.val Fn.val Fn.cells;by_cases h0:n=0
 ·subst h0
  have HY:=hid (show V from HV.out.2 (by trivial));clear HV;go_wp2_with fail;go_ret;exact retE_ok HY.out hT.below
 ·have e1:(n != 0)=true:=by simpa using h0
  have HNO:=hid (show ¬ V from fun v=>h0 (HV.out.1 v));clear HV h0;go_wp2_with fail;go_ret;exact retE_no (by decide) HNO.out hT.below
theorem ropdP (p:Prg) (f:Fn) (hf:f∈p.funs) (n kd r lo hi:Int) (wh:Nat) (hx:(r=110∧wh=1∧lo = -1099511627776∧hi=1099511627776)∨(r=109∧wh=2∧lo=0∧hi=99)∨(r=114∧wh=3∧lo=0∧hi=f.regs - 1)∨(r=119∧wh=4∧lo=0∧hi=f.regs - 1)∨(r=116∧wh=6∧lo=0∧hi=(f.code.length:Int) - 1)∨(r=118∧wh=10∧lo=0∧hi=(p.vrs.length:Int) - 1)) (hr:0≤f.regs∧f.regs≤32) (w:World) (h:Lies w w.heap.size p) :
  Calls Tryz.prog 97 #[p.val,f.val,.int .u8 r,.int .i64 n] w (RetE (opOk p f wh kd n) w):=by
 have hcl:=(h.codeN f hf).1;have _hrr:=hr;have hfl:=h.funN;have hol:=h.obN;have hvl:=h.vrN;unfold maxLen at hcl hfl hol hvl;have hw1:=Wj p.funs.length (by omega);have hw2:=Wj p.vrs.length (by omega);have hw3:=Wj f.code.length (by omega);have hw4:IntKind.i64.wrap (f.regs - 1)=f.regs - 1:=by rw [IntKind.wrap_i64]; omega
 obtain ⟨V,hV⟩:∃ V,V=opOk p f wh kd n:=⟨_,rfl⟩
 rw [← hV];obtain ⟨q,hq⟩:∃ q,inR2 n lo hi=q:=⟨_,rfl⟩
 have HV:Hid (V↔q=true):=hid (by rw [hV,← hq]; rcases hx with ⟨-,rfl,rfl,rfl⟩ | ⟨-,rfl,rfl,rfl⟩ | ⟨-,rfl,rfl,rfl⟩ | ⟨-,rfl,rfl,rfl⟩ | ⟨-,rfl,rfl,rfl⟩ | ⟨-,rfl,rfl,rfl⟩ <;> exact Iff.rfl);clear hV;have hT:=two_new w #[.slice p.funA p.funs.length p.funC,.slice p.obA p.obs.length p.obC,.slice p.vrA p.vrs.length p.vrC] #[.string f.name,.int .i64 f.params,.int .i64 f.regs,.int .i64 f.prio,.bool f.clean,.slice f.codeA f.code.length f.codeC] 26 60;go_enter Tryz.func97,Tryz.ntmps97;unfold Prg.val Fn.val Fn.cells;have HQ:=hid hq;clear hq;rcases hx with ⟨rfl,rfl,rfl,rfl⟩ | ⟨rfl,rfl,rfl,rfl⟩ | ⟨rfl,rfl,rfl,rfl⟩ | ⟨rfl,rfl,rfl,rfl⟩ | ⟨rfl,rfl,rfl,rfl⟩ | ⟨rfl,rfl,rfl,rfl⟩
 all_goals
  go_wp2_with fail;generalize World.alloc (World.alloc w _) _=W1 at hT ⊢;refine (between_any _ _ _ _).mono ?_;rw [HQ.out];rintro e W4 ⟨rfl,hb4⟩;have hT4:=hT.next hb4;obtain ⟨x0,x1,x2⟩:=bx3 hT4.fst;obtain ⟨y0,y1,y2,y3,y4,y5⟩:=bx6 hT4.snd;clear HQ;cases q
  all_goals
   go_wp2_with fail
   try go_quiet (fail)
   try (go_wp2_with fail)
   go_ret
   first | exact retE_ok (HV.out.2 (by first | rfl | trivial)) (by first | exact hT4.below | exact hT4.below.trans (below_drews _ _ _)) | exact retE_no (by decide) (fun v=>by simpa using HV.out.1 v) (by first | exact hT4.below | exact hT4.below.trans (below_drews _ _ _))
theorem ropd111 (p:Prg) (f:Fn) (hf:f∈p.funs) (n kd:Int) (hr:0≤f.regs∧f.regs≤32) (w:World) (h:Lies w w.heap.size p) :
  Calls Tryz.prog 97 #[p.val,f.val,.int .u8 111,.int .i64 n] w (RetE (opOk p f 5 kd n) w):=by
 have hcl:=(h.codeN f hf).1;have _hrr:=hr;have hfl:=h.funN;have hol:=h.obN;have hvl:=h.vrN;unfold maxLen at hcl hfl hol hvl;have hw1:=Wj p.funs.length (by omega);have hw2:=Wj p.vrs.length (by omega);have hw3:=Wj f.code.length (by omega);have hw4:IntKind.i64.wrap (f.regs - 1)=f.regs - 1:=by rw [IntKind.wrap_i64]; omega
 obtain ⟨V,hV⟩:∃ V,V=opOk p f 5 kd n:=⟨_,rfl⟩
 rw [← hV];have hV':=iff_of_eq hV;simp only [opOk] at hV';clear hV;have HV:=hid hV';clear hV';have hT:=two_new w #[.slice p.funA p.funs.length p.funC,.slice p.obA p.obs.length p.obC,.slice p.vrA p.vrs.length p.vrC] #[.string f.name,.int .i64 f.params,.int .i64 f.regs,.int .i64 f.prio,.bool f.clean,.slice f.codeA f.code.length f.codeC] 26 60;go_enter Tryz.func97,Tryz.ntmps97;unfold Prg.val Fn.val Fn.cells
 cases hq:inR2 n (-1) (f.regs - 1) with
 | false=>
  have HNO:=hid (show ¬ V from fun v=>absurd (hq.symm.trans (HV.out.1 v)) (by decide));clear HV;go_wp2_with fail;go_region;go_wp2_with fail;generalize World.alloc (World.alloc w _) _=W1 at hT ⊢;refine (between_any _ _ _ _).mono ?_;rw [hq];rintro e W4 ⟨rfl,hb4⟩;have hT4:=(hT.next (below_drews _ _ 1)).next hb4;obtain ⟨x0,x1,x2⟩:=bx3 hT4.fst;obtain ⟨y0,y1,y2,y3,y4,y5⟩:=bx6 hT4.snd;go_wp2_with fail
  try go_quiet (fail)
  try (go_wp2_with fail)
  go_ret;exact retE_no (by decide) HNO.out (by first | exact hT4.below | exact hT4.below.trans (below_drews _ _ _))
 | true=>
  have HY:=hid (HV.out.2 hq);clear HV;go_wp2_with fail;go_region;go_wp2_with fail;generalize World.alloc (World.alloc w _) _=W1 at hT ⊢;refine (between_any _ _ _ _).mono ?_;rw [hq];rintro e W4 ⟨rfl,hb4⟩;have hT4:=(hT.next (below_drews _ _ 1)).next hb4;obtain ⟨x0,x1,x2⟩:=bx3 hT4.fst;obtain ⟨y0,y1,y2,y3,y4,y5⟩:=bx6 hT4.snd;go_wp2_with fail
  try go_quiet (fail)
  try (go_wp2_with fail)
  go_ret;exact retE_ok HY.out (by first | exact hT4.below | exact hT4.below.trans (below_drews _ _ _))
theorem ropd99 (p:Prg) (f:Fn) (hf:f∈p.funs) (n kd:Int) (hr:0≤f.regs∧f.regs≤32) (w:World) (h:Lies w w.heap.size p) :
  Calls Tryz.prog 97 #[p.val,f.val,.int .u8 99,.int .i64 n] w (RetE (opOk p f 7 kd n) w):=by
 have hcl:=(h.codeN f hf).1;have _hrr:=hr;have hfl:=h.funN;have hol:=h.obN;have hvl:=h.vrN;unfold maxLen at hcl hfl hol hvl;have hw1:=Wj p.funs.length (by omega);have hw2:=Wj p.vrs.length (by omega);have hw3:=Wj f.code.length (by omega);have hw4:IntKind.i64.wrap (f.regs - 1)=f.regs - 1:=by rw [IntKind.wrap_i64]; omega
 obtain ⟨V,hV⟩:∃ V,V=opOk p f 7 kd n:=⟨_,rfl⟩
 rw [← hV];have hV':=iff_of_eq hV;simp only [opOk] at hV';clear hV;have HV:=hid hV';clear hV';have hT:=two_new w #[.slice p.funA p.funs.length p.funC,.slice p.obA p.obs.length p.obC,.slice p.vrA p.vrs.length p.vrC] #[.string f.name,.int .i64 f.params,.int .i64 f.regs,.int .i64 f.prio,.bool f.clean,.slice f.codeA f.code.length f.codeC] 26 60;go_enter Tryz.func97,Tryz.ntmps97;unfold Prg.val Fn.val Fn.cells
 cases hq:inR2 n 0 ((f.code.length:Int) - 1) with
 | false=>
  have HNO:=hid (show ¬ V from fun v=>absurd (hq.symm.trans (HV.out.1 v).1) (by decide));clear HV;go_wp2_with fail;generalize World.alloc (World.alloc w _) _=W1 at hT ⊢;refine (between_any _ _ _ _).mono ?_;rw [hq];rintro e W4 ⟨rfl,hb4⟩;have hT4:=hT.next hb4;obtain ⟨x0,x1,x2⟩:=bx3 hT4.fst;obtain ⟨y0,y1,y2,y3,y4,y5⟩:=bx6 hT4.snd;go_wp2_with fail
  try go_quiet (fail)
  try (go_wp2_with fail)
  go_ret;exact retE_no (by decide) HNO.out (by first | exact hT4.below | exact hT4.below.trans (below_drews _ _ _))
 | true=>
  obtain ⟨u,hu⟩:∃ u:Nat,n=(u:Int):=⟨n.toNat,by rw [inR2_iff] at hq; omega⟩
  subst hu;have hul:u<f.code.length:=by rw [inR2_iff] at hq; omega
  have hul2:(u:Int)<(f.code.length:Int):=by omega
  have hu0:=zi u;have hget:f.code[((u:Nat):Int).toNat]? = some f.code[u]:=by rw [show ((u:Nat):Int).toNat=u from by simp]; exact List.getElem?_eq_getElem hul
  obtain ⟨b,off,hA,hb,d,-,-,-,-⟩:=h.ins hf hul;rw [hA] at hT;obtain ⟨z,hz⟩:∃ z,f.code[u].op=z:=⟨_,rfl⟩
  rw [hz] at d
  have HV2:=hid (show V↔z=36 from by
   rw [HV.out,hget];constructor
   ·rintro ⟨_,q,e1,e2⟩
    injection e1 with e1;rw [← hz,e1]; exact e2
   ·intro e
    exact ⟨hq,_,rfl,by rw [hz]; exact e⟩)
  clear HV hget hz;by_cases hz2:z=36
  ·have HY:=hid (HV2.out.2 hz2)
   have e1:(z != 36)=false:=by simpa using hz2
   clear HV2 hz2;rw [hA];go_wp2_with fail;generalize World.alloc (World.alloc w _) _=W1 at hT ⊢;refine (between_any _ _ _ _).mono ?_;rw [hq];rintro e W4 ⟨rfl,hb4⟩;have hT4:=hT.next hb4;have d':=(hT4.below.cell (p:=⟨b,off+u * 5,none⟩) hb).trans d;obtain ⟨x0,x1,x2⟩:=bx3 hT4.fst;obtain ⟨y0,y1,y2,y3,y4,y5⟩:=bx6 hT4.snd;go_wp2_with fail
   try go_quiet (fail)
   try (go_wp2_with fail)
   go_ret;exact retE_ok HY.out (by first | exact hT4.below | exact hT4.below.trans (below_drews _ _ _))
  ·have HNO:=hid (show ¬ V from fun v=>hz2 (HV2.out.1 v))
   have e1:(z != 36)=true:=by simpa using hz2
   clear HV2 hz2;rw [hA];go_wp2_with fail;generalize World.alloc (World.alloc w _) _=W1 at hT ⊢;refine (between_any _ _ _ _).mono ?_;rw [hq];rintro e W4 ⟨rfl,hb4⟩;have hT4:=hT.next hb4;have d':=(hT4.below.cell (p:=⟨b,off+u * 5,none⟩) hb).trans d;obtain ⟨x0,x1,x2⟩:=bx3 hT4.fst;obtain ⟨y0,y1,y2,y3,y4,y5⟩:=bx6 hT4.snd;go_wp2_with fail
   try go_quiet (fail)
   try (go_wp2_with fail)
   go_ret;exact retE_no (by decide) HNO.out (by first | exact hT4.below | exact hT4.below.trans (below_drews _ _ _))
theorem ropd102 (p:Prg) (f:Fn) (hf:f∈p.funs) (n kd:Int) (hr:0≤f.regs∧f.regs≤32) (w:World) (h:Lies w w.heap.size p) :
  Calls Tryz.prog 97 #[p.val,f.val,.int .u8 102,.int .i64 n] w (RetE (opOk p f 8 kd n) w):=by
 have hcl:=(h.codeN f hf).1;have _hrr:=hr;have hfl:=h.funN;have hol:=h.obN;have hvl:=h.vrN;unfold maxLen at hcl hfl hol hvl;have hw1:=Wj p.funs.length (by omega);have hw2:=Wj p.vrs.length (by omega);have hw3:=Wj f.code.length (by omega);have hw4:IntKind.i64.wrap (f.regs - 1)=f.regs - 1:=by rw [IntKind.wrap_i64]; omega
 obtain ⟨V,hV⟩:∃ V,V=opOk p f 8 kd n:=⟨_,rfl⟩
 rw [← hV];have hV':=iff_of_eq hV;simp only [opOk] at hV';clear hV;have HV:=hid hV';clear hV';have hT:=two_new w #[.slice p.funA p.funs.length p.funC,.slice p.obA p.obs.length p.obC,.slice p.vrA p.vrs.length p.vrC] #[.string f.name,.int .i64 f.params,.int .i64 f.regs,.int .i64 f.prio,.bool f.clean,.slice f.codeA f.code.length f.codeC] 26 60;go_enter Tryz.func97,Tryz.ntmps97;unfold Prg.val Fn.val Fn.cells
 cases hq:inR2 n 0 ((p.funs.length:Int) - 1) with
 | false=>
  have HNO:=hid (show ¬ V from fun v=>absurd (hq.symm.trans (HV.out.1 v).1) (by decide));clear HV;go_wp2_with fail;generalize World.alloc (World.alloc w _) _=W1 at hT ⊢;refine (between_any _ _ _ _).mono ?_;rw [hq];rintro e W4 ⟨rfl,hb4⟩;have hT4:=hT.next hb4;obtain ⟨x0,x1,x2⟩:=bx3 hT4.fst;obtain ⟨y0,y1,y2,y3,y4,y5⟩:=bx6 hT4.snd;go_wp2_with fail
  try go_quiet (fail)
  try (go_wp2_with fail)
  go_ret;exact retE_no (by decide) HNO.out (by first | exact hT4.below | exact hT4.below.trans (below_drews _ _ _))
 | true=>
  obtain ⟨u,hu⟩:∃ u:Nat,n=(u:Int):=⟨n.toNat,by rw [inR2_iff] at hq; omega⟩
  subst hu;have hul:u<p.funs.length:=by rw [inR2_iff] at hq; omega
  have hul2:(u:Int)<(p.funs.length:Int):=by omega
  have hu0:=zi u;have hget:p.funs[((u:Nat):Int).toNat]? = some p.funs[u]:=by rw [show ((u:Nat):Int).toNat=u from by simp]; exact List.getElem?_eq_getElem hul
  obtain ⟨b,off,hA,hb,-,-,-,-,d,-⟩:=h.fn hul;rw [hA] at hT;obtain ⟨z,hz⟩:∃ z,p.funs[u].clean=z:=⟨_,rfl⟩
  rw [hz] at d
  have HV2:=hid (show V↔z=false from by
   rw [HV.out,hget];constructor
   ·rintro ⟨_,q,e1,e2⟩
    injection e1 with e1;rw [← hz,e1]; exact e2
   ·intro e
    exact ⟨hq,_,rfl,by rw [hz]; exact e⟩)
  clear HV hget hz
  cases z with
  | false=>
   have HY:=hid (HV2.out.2 (by decide));clear HV2;rw [hA];go_wp2_with fail;generalize World.alloc (World.alloc w _) _=W1 at hT ⊢;refine (between_any _ _ _ _).mono ?_;rw [hq];rintro e W4 ⟨rfl,hb4⟩;have hT4:=hT.next hb4;have d':=(hT4.below.cell (p:=⟨b,off+u * 6+4,none⟩) hb).trans d;obtain ⟨x0,x1,x2⟩:=bx3 hT4.fst;obtain ⟨y0,y1,y2,y3,y4,y5⟩:=bx6 hT4.snd;go_wp2_with fail
   try go_quiet (fail)
   try (go_wp2_with fail)
   go_ret;exact retE_ok HY.out (by first | exact hT4.below | exact hT4.below.trans (below_drews _ _ _))
  | true=>
   have HNO:=hid (show ¬ V from fun v=>absurd (HV2.out.1 v) (by decide));clear HV2;rw [hA];go_wp2_with fail;generalize World.alloc (World.alloc w _) _=W1 at hT ⊢;refine (between_any _ _ _ _).mono ?_;rw [hq];rintro e W4 ⟨rfl,hb4⟩;have hT4:=hT.next hb4;have d':=(hT4.below.cell (p:=⟨b,off+u * 6+4,none⟩) hb).trans d;obtain ⟨x0,x1,x2⟩:=bx3 hT4.fst;obtain ⟨y0,y1,y2,y3,y4,y5⟩:=bx6 hT4.snd;go_wp2_with fail
   try go_quiet (fail)
   try (go_wp2_with fail)
   go_ret;exact retE_no (by decide) HNO.out (by first | exact hT4.below | exact hT4.below.trans (below_drews _ _ _))
theorem ropd100 (p:Prg) (f:Fn) (hf:f∈p.funs) (n kd:Int) (hr:0≤f.regs∧f.regs≤32) (w:World) (h:Lies w w.heap.size p) :
  Calls Tryz.prog 97 #[p.val,f.val,.int .u8 100,.int .i64 n] w (RetE (opOk p f 9 kd n) w):=by
 have hcl:=(h.codeN f hf).1;have _hrr:=hr;have hfl:=h.funN;have hol:=h.obN;have hvl:=h.vrN;unfold maxLen at hcl hfl hol hvl;have hw1:=Wj p.funs.length (by omega);have hw2:=Wj p.vrs.length (by omega);have hw3:=Wj f.code.length (by omega);have hw4:IntKind.i64.wrap (f.regs - 1)=f.regs - 1:=by rw [IntKind.wrap_i64]; omega
 obtain ⟨V,hV⟩:∃ V,V=opOk p f 9 kd n:=⟨_,rfl⟩
 rw [← hV];have hV':=iff_of_eq hV;simp only [opOk] at hV';clear hV;have HV:=hid hV';clear hV';have hT:=two_new w #[.slice p.funA p.funs.length p.funC,.slice p.obA p.obs.length p.obC,.slice p.vrA p.vrs.length p.vrC] #[.string f.name,.int .i64 f.params,.int .i64 f.regs,.int .i64 f.prio,.bool f.clean,.slice f.codeA f.code.length f.codeC] 26 60;go_enter Tryz.func97,Tryz.ntmps97;unfold Prg.val Fn.val Fn.cells
 cases hq:inR2 n 0 ((p.funs.length:Int) - 1) with
 | false=>
  have HNO:=hid (show ¬ V from fun v=>absurd (hq.symm.trans (HV.out.1 v).1) (by decide));clear HV;go_wp2_with fail;generalize World.alloc (World.alloc w _) _=W1 at hT ⊢;refine (between_any _ _ _ _).mono ?_;rw [hq];rintro e W4 ⟨rfl,hb4⟩;have hT4:=hT.next hb4;obtain ⟨x0,x1,x2⟩:=bx3 hT4.fst;obtain ⟨y0,y1,y2,y3,y4,y5⟩:=bx6 hT4.snd;go_wp2_with fail
  try go_quiet (fail)
  try (go_wp2_with fail)
  go_ret;exact retE_no (by decide) HNO.out (by first | exact hT4.below | exact hT4.below.trans (below_drews _ _ _))
 | true=>
  obtain ⟨u,hu⟩:∃ u:Nat,n=(u:Int):=⟨n.toNat,by rw [inR2_iff] at hq; omega⟩
  subst hu;have hul:u<p.funs.length:=by rw [inR2_iff] at hq; omega
  have hul2:(u:Int)<(p.funs.length:Int):=by omega
  have hu0:=zi u;have hget:p.funs[((u:Nat):Int).toNat]? = some p.funs[u]:=by rw [show ((u:Nat):Int).toNat=u from by simp]; exact List.getElem?_eq_getElem hul
  obtain ⟨b,off,hA,hb,-,-,-,-,d,-⟩:=h.fn hul;rw [hA] at hT;obtain ⟨z,hz⟩:∃ z,p.funs[u].clean=z:=⟨_,rfl⟩
  rw [hz] at d
  have HV2:=hid (show V↔z=true from by
   rw [HV.out,hget];constructor
   ·rintro ⟨_,q,e1,e2⟩
    injection e1 with e1;rw [← hz,e1]; exact e2
   ·intro e
    exact ⟨hq,_,rfl,by rw [hz]; exact e⟩)
  clear HV hget hz
  cases z with
  | false=>
   have HNO:=hid (show ¬ V from fun v=>absurd (HV2.out.1 v) (by decide));clear HV2;rw [hA];go_wp2_with fail;generalize World.alloc (World.alloc w _) _=W1 at hT ⊢;refine (between_any _ _ _ _).mono ?_;rw [hq];rintro e W4 ⟨rfl,hb4⟩;have hT4:=hT.next hb4;have d':=(hT4.below.cell (p:=⟨b,off+u * 6+4,none⟩) hb).trans d;obtain ⟨x0,x1,x2⟩:=bx3 hT4.fst;obtain ⟨y0,y1,y2,y3,y4,y5⟩:=bx6 hT4.snd;go_wp2_with fail
   try go_quiet (fail)
   try (go_wp2_with fail)
   go_ret;exact retE_no (by decide) HNO.out (by first | exact hT4.below | exact hT4.below.trans (below_drews _ _ _))
  | true=>
   have HY:=hid (HV2.out.2 (by decide));clear HV2;rw [hA];go_wp2_with fail;generalize World.alloc (World.alloc w _) _=W1 at hT ⊢;refine (between_any _ _ _ _).mono ?_;rw [hq];rintro e W4 ⟨rfl,hb4⟩;have hT4:=hT.next hb4;have d':=(hT4.below.cell (p:=⟨b,off+u * 6+4,none⟩) hb).trans d;obtain ⟨x0,x1,x2⟩:=bx3 hT4.fst;obtain ⟨y0,y1,y2,y3,y4,y5⟩:=bx6 hT4.snd;go_wp2_with fail
   try go_quiet (fail)
   try (go_wp2_with fail)
   go_ret;exact retE_ok HY.out (by first | exact hT4.below | exact hT4.below.trans (below_drews _ _ _))
theorem ropd97 (p:Prg) (f:Fn) (hf:f∈p.funs) (n kd:Int) (hr:0≤f.regs∧f.regs≤32) (w:World) (h:Lies w w.heap.size p) :
  Calls Tryz.prog 97 #[p.val,f.val,.int .u8 97,.int .i64 n] w (RetE (opOk p f 11 kd n) w):=by
 have hcl:=(h.codeN f hf).1;have _hrr:=hr;have hfl:=h.funN;have hol:=h.obN;have hvl:=h.vrN;unfold maxLen at hcl hfl hol hvl;have hw1:=Wj p.funs.length (by omega);have hw2:=Wj p.vrs.length (by omega);have hw3:=Wj f.code.length (by omega);have hw4:IntKind.i64.wrap (f.regs - 1)=f.regs - 1:=by rw [IntKind.wrap_i64]; omega
 obtain ⟨V,hV⟩:∃ V,V=opOk p f 11 kd n:=⟨_,rfl⟩
 rw [← hV];have hV':=iff_of_eq hV;simp only [opOk] at hV';clear hV;have HV:=hid hV';clear hV';have hT:=two_new w #[.slice p.funA p.funs.length p.funC,.slice p.obA p.obs.length p.obC,.slice p.vrA p.vrs.length p.vrC] #[.string f.name,.int .i64 f.params,.int .i64 f.regs,.int .i64 f.prio,.bool f.clean,.slice f.codeA f.code.length f.codeC] 26 60;go_enter Tryz.func97,Tryz.ntmps97;unfold Prg.val Fn.val Fn.cells
 cases hq:inR2 n 0 ((p.vrs.length:Int) - 1) with
 | false=>
  have HNO:=hid (show ¬ V from fun v=>absurd (hq.symm.trans (HV.out.1 v).1) (by decide));clear HV;go_wp2_with fail;generalize World.alloc (World.alloc w _) _=W1 at hT ⊢;refine (between_any _ _ _ _).mono ?_;rw [hq];rintro e W4 ⟨rfl,hb4⟩;have hT4:=hT.next hb4;obtain ⟨x0,x1,x2⟩:=bx3 hT4.fst;obtain ⟨y0,y1,y2,y3,y4,y5⟩:=bx6 hT4.snd;go_wp2_with fail
  try go_quiet (fail)
  try (go_wp2_with fail)
  go_ret;exact retE_no (by decide) HNO.out (by first | exact hT4.below | exact hT4.below.trans (below_drews _ _ _))
 | true=>
  obtain ⟨u,hu⟩:∃ u:Nat,n=(u:Int):=⟨n.toNat,by rw [inR2_iff] at hq; omega⟩
  subst hu;have hul:u<p.vrs.length:=by rw [inR2_iff] at hq; omega
  have hul2:(u:Int)<(p.vrs.length:Int):=by omega
  have hu0:=zi u;have hget:p.vrs[((u:Nat):Int).toNat]? = some p.vrs[u]:=by rw [show ((u:Nat):Int).toNat=u from by simp]; exact List.getElem?_eq_getElem hul
  obtain ⟨b,off,hA,hb,-,-,d⟩:=h.vr hul;rw [hA] at hT;obtain ⟨z,hz⟩:∃ z,p.vrs[u].atomic=z:=⟨_,rfl⟩
  rw [hz] at d
  have HV2:=hid (show V↔z=true from by
   rw [HV.out,hget];constructor
   ·rintro ⟨_,q,e1,e2⟩
    injection e1 with e1;rw [← hz,e1]; exact e2
   ·intro e
    exact ⟨hq,_,rfl,by rw [hz]; exact e⟩)
  clear HV hget hz
  cases z with
  | false=>
   have HNO:=hid (show ¬ V from fun v=>absurd (HV2.out.1 v) (by decide));clear HV2;rw [hA];go_wp2_with fail;generalize World.alloc (World.alloc w _) _=W1 at hT ⊢;refine (between_any _ _ _ _).mono ?_;rw [hq];rintro e W4 ⟨rfl,hb4⟩;have hT4:=hT.next hb4;have d':=(hT4.below.cell (p:=⟨b,off+u * 3+2,none⟩) hb).trans d;obtain ⟨x0,x1,x2⟩:=bx3 hT4.fst;obtain ⟨y0,y1,y2,y3,y4,y5⟩:=bx6 hT4.snd;go_wp2_with fail
   try go_quiet (fail)
   try (go_wp2_with fail)
   go_ret;exact retE_no (by decide) HNO.out (by first | exact hT4.below | exact hT4.below.trans (below_drews _ _ _))
  | true=>
   have HY:=hid (HV2.out.2 (by decide));clear HV2;rw [hA];go_wp2_with fail;generalize World.alloc (World.alloc w _) _=W1 at hT ⊢;refine (between_any _ _ _ _).mono ?_;rw [hq];rintro e W4 ⟨rfl,hb4⟩;have hT4:=hT.next hb4;have d':=(hT4.below.cell (p:=⟨b,off+u * 3+2,none⟩) hb).trans d;obtain ⟨x0,x1,x2⟩:=bx3 hT4.fst;obtain ⟨y0,y1,y2,y3,y4,y5⟩:=bx6 hT4.snd;go_wp2_with fail
   try go_quiet (fail)
   try (go_wp2_with fail)
   go_ret;exact retE_ok HY.out (by first | exact hT4.below | exact hT4.below.trans (below_drews _ _ _))
theorem ropdD (p:Prg) (f:Fn) (n r kd:Int) (hx:(r=49∧kd=1)∨(r=50∧kd=2)∨(r=51∧kd=3)∨(r=52∧kd=4)∨(r=53∧kd=5)∨(r=54∧kd=6)∨(r=55∧kd=7)∨(r=56∧kd=8)∨(r=57∧kd=9)) (w:World) (h:Lies w w.heap.size p) :
  Calls Tryz.prog 97 #[p.val,f.val,.int .u8 r,.int .i64 n] w (RetE (opOk p f 12 kd n) w):=by
 have hT:=two_new w #[.slice p.funA p.funs.length p.funC,.slice p.obA p.obs.length p.obC,.slice p.vrA p.vrs.length p.vrC] #[.string f.name,.int .i64 f.params,.int .i64 f.regs,.int .i64 f.prio,.bool f.clean,.slice f.codeA f.code.length f.codeC] 26 60;have hcall:=fun w h=>obIdx_any p n kd w h
 unfold Prg.val at hcall;have HC:=hid hcall;clear hcall;go_enter Tryz.func97,Tryz.ntmps97;unfold Prg.val Fn.val Fn.cells;rcases hx with ⟨rfl,rfl⟩ | ⟨rfl,rfl⟩ | ⟨rfl,rfl⟩ | ⟨rfl,rfl⟩ | ⟨rfl,rfl⟩ | ⟨rfl,rfl⟩ | ⟨rfl,rfl⟩ | ⟨rfl,rfl⟩ | ⟨rfl,rfl⟩
 all_goals
  go_wp2_with fail;generalize World.alloc (World.alloc w _) _=W1 at hT ⊢;refine (HC.out _ (h.next hT.below)).mono ?_;rintro e W4 ⟨v,rfl,hv,hb4⟩;have hT4:=hT.next hb4;have HVV:=hid hv;clear hv;go_wp2_with fail;go_ret;exact ⟨v,rfl,HVV.out,hT4.below⟩
end Go.Proofs.YtkpjdanfpolimaaGreat
