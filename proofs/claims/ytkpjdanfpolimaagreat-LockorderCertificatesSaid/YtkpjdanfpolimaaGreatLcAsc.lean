/- program.ascending, walked; rows of integers of a call's own. Conditions: no element is -1. · program.Next at a valid place, walked. Conditions: the program lies in memory, it is valid · A worklist of integers: a slice that grows at its end  -/
import Derived.Test.YtkpjdanfpolimaaGreatLcShelf
import Derived.Test.YtkpjdanfpolimaaGreatLcLoW
import Derived.ArgAppend
import Derived.OwnWalkIn
import Derived.Test.YtkpjdanfpolimaaGreatLcIns
import Derived.RangeFuncNested
import Derived.RangeFuncBound
import Derived.RangeFuncCalls
import Derived.RangeFuncLeaves
import Derived.RangeFuncBox
import Derived.Shelf.Abstract
import Derived.TacticsInMore
import Derived.LoopNIn
import Derived.LoopIn
set_option maxRecDepth 100000
set_option maxHeartbeats 3200000
namespace Go.Proofs.YtkpjdanfpolimaaGreat
section
open Go.RowKit Go.Shelf Go.Sort
abbrev encZ:Int→Value:=Value.int .i64
theorem below_putRow {B:Nat} (w:World) (q g off:Nat) (d:Array Int) (h:B≤g):Below B w (putRow encZ (Sort.ahead w q) g off d):=by
 refine ⟨rfl,rfl,rfl,by simp,fun k hk=>?_⟩;show (putRow encZ (Sort.ahead w q) g off d).heap[k]? = w.heap[k]?;unfold putRow mapBlock;simp only [Array.getElem?_modify];rw [if_neg (by omega)];rfl
theorem below_sgrow {B:Nat} {w0 w:World} (h:Below B w0 w) (os:Array Obj) (hB:B≤w.heap.size):Below B w0 (Go.Sort.grow w os):=by
 refine h.trans ⟨rfl,rfl,rfl,by simp,fun k hk=>heap_grow_old _ _ (by omega)⟩
theorem holds_take {w:World} {g off:Nat} {l r:List Int} (h:Holds encZ w g off (l++r).toArray):Holds encZ w g off l.toArray:=by
 intro j hj;have hj2:j<l.length:=by simpa using hj
 have:=h j (by simp; omega);have e:(l++r).toArray[j]! = l.toArray[j]!:=by simp [hj2,List.getElem?_append_left hj2]
 rwa [e] at this
theorem holds_own {w:World} {base n:Nat} {v:Value} {l:List Int} (h:w.ownsRow base 3 1 v n (l.map (Value.int .i64))) (hv:v≠.slice none 0 0):∃ g cap,v=.slice (some ⟨g,0,none⟩) l.length cap∧base≤g∧g<w.heap.size∧l.length≤cap∧Holds encZ w g 0 l.toArray:=by
 obtain ⟨hl,h | ⟨g,cap,cur,rfl,hb,hg,hn,hcap,hcs,hcur⟩⟩:=h
 ·exact absurd h.1 hv
 ·rw [List.length_map] at hl
  have hnl:n=l.length:=by omega
  subst hnl;refine ⟨g,cap,rfl,hb,(Array.getElem?_eq_some_iff.1 hg).1,hn,fun j hj=>?_⟩;have hj2:j<l.length:=by simpa using hj
  constructor
  ·simp only [World.cell?,hg,Nat.zero_add]
   have e:(cur.toList.take (l.length * 1))[j]? = (l.map (Value.int .i64))[j]?:=by rw [hcur]
   rw [List.getElem?_take_of_lt (by omega)] at e;have e2:cur[j]? = (l.map (Value.int .i64))[j]?:=by simpa using e
   simp [e2,hj2]
  ·simp [World.frozen?,hg]
theorem compact_le (zs:List Int):(Lib.compact zs).length≤zs.length:=by
 unfold Lib.compact Lib.compactUpTo;rw [List.length_map];exact Nat.le_trans (List.length_filter_le _ _) (by rw [List.length_range]; omega)
def ascM (l:List Int):List Int:=Lib.compact (l.mergeSort fun x y=>decide (x≤y))
theorem isM1 (x:Int) (w:World):FnGives Tryz.prog 130 #[] #[.int .i64 x] (.bool (x == -1)) w:=by
 show Calls Tryz.prog 130 #[.int .i64 x] w _;go_enter Tryz.func130,Tryz.ntmps130;go_wp2_with fail;go_ret;exact ⟨rfl,0,rfl⟩
theorem holds_cells {w:World} {b off:Nat} {zs:List Int} (h:Holds encZ w b off zs.toArray) (j:Nat) (hj:j<zs.length):w.cell? ⟨b,off+j,none⟩=some (.int .i64 (zs.getD j 0)):=by
 have:=(h j (by simpa using hj)).1;rw [this];simp [List.getD,hj,encZ]
theorem asc_some (b off c:Nat) (zs:List Int) (w:World) (hn:zs.length≤1000) (hm:∀ x∈zs,x≠-1) (hc:Holds encZ w b off zs.toArray) :
  Calls Tryz.prog 113 #[.slice (some ⟨b,off,none⟩) zs.length c] w fun e W=>∃ g cap,e=.returned (.slice (some ⟨g,0,none⟩) (ascM zs).length cap)∧w.heap.size≤g∧g<W.heap.size∧Holds encZ W g 0 (ascM zs).toArray∧Below w.heap.size w W:=by
 have hcl:=Tryz.slices_Clone_int b off zs.length c zs w (Nat.le_refl _) (by omega) (holds_cells hc)
 have hdel:=fun (g cap:Nat) (W:World) (hH:Holds encZ W g 0 zs.toArray) (hcap:zs.length≤cap)=>
  Tryz.slices_DeleteFunc encZ (fun _=>rfl) (fun x=>x == -1) 130 #[] (enters_of Tryz.func130 (by kernel_rfl) rfl) 0 Tryz.zeroValue3 g 0 cap zs.toArray W (fun W x _=>isM1 x W) (fun n os dk x _=>isM1 x _) hH (by simp; omega) (by simpa using hcap)
 have hfi:zs.filter (fun x=>!(x == -1))=zs:=List.filter_eq_self.2 (fun x hx=>by simpa using hm x hx);simp only [hfi,List.size_toArray,Nat.sub_self,List.replicate_zero,List.append_nil] at hdel;have hso:=fun (g cap:Nat) (W:World) (hH:Holds encZ W g 0 zs.toArray) (hg:g<W.heap.size)=>Tryz.slices_Sort_int g 0 cap zs W hH hg (by omega)
 have hsl:(zs.mergeSort fun x y=>decide (x≤y)).length=zs.length:=List.length_mergeSort _;have hco:=fun (g cap:Nat) (W:World) (hH:Holds encZ W g 0 (zs.mergeSort fun x y=>decide (x≤y)).toArray) (hcap:zs.length≤cap)=>Tryz.slices_Compact_int g 0 cap (zs.mergeSort fun x y=>decide (x≤y)) W hH (by rw [hsl]; omega) (by rw [hsl]; exact hcap)
 rw [hsl] at hco;have HCL:=hid hcl;have HDEL:=hid hdel;have HSO:=hid hso;have HCO:=hid hco;have HSL:=hid hsl;clear hcl hdel hso hco hfi hc hm hsl;unfold ascM;generalize hzz:zs.mergeSort (fun x y=>decide (x≤y))=zz at HSO HCO HSL ⊢;have HZZ:=hid hzz;clear hzz;go_enter Tryz.func113,Tryz.ntmps113;go_wp2_with fail;refine (HCL.out).mono ?_;rintro e W1 ⟨v,rfl,hown,hv,hb1⟩;rw [List.take_length] at hown;obtain ⟨g,cap,rfl,hg0,hg1,hcap,hH⟩:=holds_own hown hv;clear hown hv;go_wp2_with fail;refine (HDEL.out g cap W1 hH hcap).mono ?_;rintro e W2 ⟨rfl,q,rfl⟩;have hH2:=holds_putRow encZ (Sort.ahead W1 q) g 0 zs.toArray zs.toArray hH rfl;have hb2:Below w.heap.size w (putRow encZ (Sort.ahead W1 q) g 0 zs.toArray):=hb1.trans (below_putRow W1 q g 0 _ hg0);have hg2:g<(putRow encZ (Sort.ahead W1 q) g 0 zs.toArray).heap.size:=by simpa using hg1
 generalize putRow encZ (Sort.ahead W1 q) g 0 zs.toArray=W2 at hH2 hb2 hg2 ⊢;go_wp2_with fail;refine (HSO.out g cap W2 hH2 hg2).mono ?_;rintro e W3 ⟨rfl,q3,os,rfl⟩;have hH3:=holds_grow encZ _ os g 0 _ (by simpa using hg2) (holds_putRow encZ (Sort.ahead W2 q3) g 0 zs.toArray zz.toArray hH2 (by simp [HSL.out]));have hb3:Below w.heap.size w (Go.Sort.grow (putRow encZ (Sort.ahead W2 q3) g 0 zz.toArray) os):=below_sgrow (hb2.trans (below_putRow W2 q3 g 0 _ hg0)) os (by have:=hb2.size; simp; omega);have hg3:g<(Go.Sort.grow (putRow encZ (Sort.ahead W2 q3) g 0 zz.toArray) os).heap.size:=by simp; omega
 generalize Go.Sort.grow (putRow encZ (Sort.ahead W2 q3) g 0 zz.toArray) os=W3 at hH3 hb3 hg3 ⊢;go_wp2_with fail;refine (HCO.out g cap W3 hH3 hcap).mono ?_;rintro e W4 ⟨rfl,q4,rfl⟩;go_wp2_with fail;go_ret;refine ⟨g,cap,rfl,hg0,by simpa using hg3,holds_take (holds_putRow encZ (Sort.ahead W3 q4) g 0 zz.toArray _ hH3 ?_),hb3.trans (below_putRow W3 q4 g 0 _ hg0)⟩;have:=compact_le zz;have:=HSL.out;simp;omega
end
section
open Go.RowKit Go.Shelf Go.Sort
theorem asc2_eq (l:List Nat) (hl:l.length≤2):ascM (nats l)=nats (asc2 l):=by
 match l,hl with
 | [],_=>simp [ascM,nats,asc2,Lib.compact,Lib.compactUpTo]
 | [x],_=>simp [ascM,nats,asc2,Lib.compact,Lib.compactUpTo,Lib.keeps]
 | [x,y],_=>
  by_cases h1:x=y
  ·subst h1
   simp [ascM,nats,asc2,Lib.compact,Lib.compactUpTo,Lib.keeps,List.mergeSort,List.range,List.range.loop]
  ·by_cases h2:x<y
   ·have h3:(x:Int)≤(y:Int):=by omega
    have h4:Lib.keeps #[(x:Int),(y:Int)] 1=true:=by simp [Lib.keeps]; omega
    simp [ascM,nats,asc2,Lib.compact,Lib.compactUpTo,Lib.keeps,List.mergeSort,List.range,List.range.loop,h1,h2,h3];exact ⟨1,by rw [List.filter_cons_of_pos h4]; rfl,rfl⟩
   ·have h3:¬ (x:Int)≤(y:Int):=by omega
    have h4:Lib.keeps #[(y:Int),(x:Int)] 1=true:=by simp [Lib.keeps]; omega
    simp [ascM,nats,asc2,Lib.compact,Lib.compactUpTo,Lib.keeps,List.mergeSort,List.range,List.range.loop,h1,h2,h3];exact ⟨1,by rw [List.filter_cons_of_pos h4]; rfl,rfl⟩
theorem filter_nats (l:List Nat) (m:Nat):(nats l).filter (fun x=>!decide ((m:Int)≤x))=nats (l.filter (fun n=>decide (n<m))):=by
 unfold nats
 induction l with
 | nil=>rfl
 | cons x r ih=>
  rw [List.map_cons,List.filter_cons,List.filter_cons,ih];by_cases h:x<m
  ·have e1:¬ (m:Int)≤(x:Int):=by omega
   simp [h,e1]
  ·have e1:(m:Int)≤(x:Int):=by omega
   simp [h,e1]
theorem next_eq (p:Prg) (f k:Nat):ascM ((nats (nextRaw (p.ins f k) k)).filter (fun x=>!decide ((p.len f:Int)≤x)))=nats (nextM p f k):=by
 rw [filter_nats,asc2_eq]
 ·rfl
 ·refine Nat.le_trans (List.length_filter_le _ _) ?_
  unfold nextRaw;split
  ·simp
  ·split
   ·simp
   ·split
    ·simp
    ·split <;> simp
theorem behindEnd (p:Prg) (P F b off f m:Nat) (c:Nat) (A:Option Addr) (x:Int) (W:World) (h0:W.cell? ⟨P,0,none⟩=some (.slice (some ⟨b,off,none⟩) p.funs.length p.funC)) (h1:W.cell? ⟨F,0,none⟩=some (.int .i64 f)) (h2:W.cell? ⟨b,off+f * 6+5,none⟩=some (.slice A m c)) (hf:f<p.funs.length) :
  FnGives Tryz.prog 115 #[.pointer (some ⟨P,0,none⟩),.pointer (some ⟨F,0,none⟩)] #[.int .i64 x] (.bool (decide ((m:Int)≤x))) W:=by
 show Calls Tryz.prog 115 #[.int .i64 x,.pointer (some ⟨P,0,none⟩),.pointer (some ⟨F,0,none⟩)] W _;have f0:=zi f;have f1:(f:Int)<(p.funs.length:Int):=by omega
 go_enter Tryz.func115,Tryz.ntmps115;go_wp2_with fail;go_ret;exact ⟨rfl,0,rfl⟩
theorem del_next (p:Prg) (P F b off f m c:Nat) (A:Option Addr) (g cap:Nat) (zs:List Int) (W:World) (h0:W.cell? ⟨P,0,none⟩=some (.slice (some ⟨b,off,none⟩) p.funs.length p.funC)) (h1:W.cell? ⟨F,0,none⟩=some (.int .i64 f)) (h2:W.cell? ⟨b,off+f * 6+5,none⟩=some (.slice A m c)) (hf:f<p.funs.length) (hP:P<g) (hF:F<g) (hb:b<g)
  (hg:g<W.heap.size) (hH:Holds encZ W g 0 zs.toArray) (hcap:zs.length≤cap) (hz:zs.length≤1000) :
  Calls Tryz.prog 114 #[.slice (some ⟨g,0,none⟩) zs.length cap,.func (.func 115) #[] #[.pointer (some ⟨P,0,none⟩),.pointer (some ⟨F,0,none⟩)]] W fun e W'=>e=.returned (.slice (some ⟨g,0,none⟩) (zs.filter fun x=>!decide ((m:Int)≤x)).length cap)∧Holds encZ W' g 0 (zs.filter fun x=>!decide ((m:Int)≤x)).toArray∧Below g W W':=by
 have hcon:=Tryz.slices_DeleteFunc encZ (fun _=>rfl) (fun x=>decide ((m:Int)≤x)) 115 #[.pointer (some ⟨P,0,none⟩),.pointer (some ⟨F,0,none⟩)] (enters_of Tryz.func115 (by kernel_rfl) rfl) 0 Tryz.zeroValue3 g 0 cap zs.toArray W
  (fun W' x hb'=>behindEnd p P F b off f m c A x W' ((hb'.cell (p:=⟨P,0,none⟩) (by show P<_; omega)).trans h0) ((hb'.cell (p:=⟨F,0,none⟩) (by show F<_; omega)).trans h1) ((hb'.cell (p:=⟨b,off+f * 6+5,none⟩) (by show b<_; omega)).trans h2) hf)
  (fun n os dk x _=>by
   have hk:∀ (a:Addr) (v:Value),a.block<g→W.cell? a=some v→(sortWorld encZ W g 0 n dk os).cell? a=some v:=fun a v ha hv=>by
    unfold sortWorld;rw [cell?_grow _ _ _ (by rw [size_putRow]; show a.block<W.heap.size; omega),cell?_putRow_other _ _ g 0 _ _ (.inl (by omega))];exact hv
   exact behindEnd p P F b off f m c A x _ (hk _ _ hP h0) (hk _ _ hF h1) (hk _ _ hb h2) hf) hH (by simp; omega) (by simpa using hcap)
 refine hcon.mono ?_;rintro e W' ⟨rfl,q,rfl⟩;refine ⟨rfl,holds_take (holds_putRow encZ (Sort.ahead W q) g 0 zs.toArray _ hH ?_),below_putRow W q g 0 _ (Nat.le_refl _)⟩;have:=List.length_filter_le (fun x=>!decide ((m:Int)≤x)) zs;simp;omega
theorem holds_new (W:World) (zs:List Int):Holds encZ (W.alloc (.cells (zs.map encZ).toArray 3)) W.heap.size 0 zs.toArray:=by
 intro j hj;have hj2:j<zs.length:=by simpa using hj
 constructor
 ·simp only [World.cell?,World.alloc_heap_new,Nat.zero_add]
  simp [hj2]
 ·simp only [World.frozen?,World.alloc_heap_new]
  simp
theorem rd_holds {W:World} {g:Nat} {l:List Int} (h:Holds encZ W g 0 l.toArray) (hg:g<W.heap.size):Rd W W.heap.size 1 (some ⟨g,0,none⟩) l.length (i64s l):=by
 refine ⟨by simp [i64s],.inr ⟨g,0,rfl,hg,fun j u hu=>?_⟩⟩
 have hj:j<l.length:=by
  rcases Nat.lt_or_ge j l.length with h9 | h9
  ·exact h9
  ·rw [List.getElem?_eq_none (by simp [i64s]; omega)] at hu; cases hu
 have:=(h j (by simpa using hj)).1;rw [this,← hu];simp [i64s,hj,encZ]
theorem del_nil (fv:Value) (W:World):Calls Tryz.prog 114 #[.slice none 0 0,fv] W fun e W'=>e=.returned (.slice none 0 0)∧W'=W:=by
 have HI:=hid (Tryz.slices_IndexFunc_empty (α:=Int) none 0 fv W);go_enter Tryz.func114,Tryz.ntmps114;go_wp2_with fail;refine (HI.out).mono ?_;rintro e W1 ⟨rfl,rfl⟩;go_wp2_with fail;go_ret;exact ⟨rfl,rfl⟩
theorem asc_nil (W:World):Calls Tryz.prog 113 #[.slice none 0 0] W fun e W'=>e=.returned (.slice none 0 0)∧W'=W:=by
 have H1:=hid (Tryz.slices_Clone_int_nil 0 0 W);have H2:=hid (fun fv=>del_nil fv W);have H3:=hid (Tryz.slices_Sort_int_none none 0 W);have H4:=hid (Tryz.slices_Compact_int_empty none 0 W);go_enter Tryz.func113,Tryz.ntmps113;go_wp2_with fail;refine (H1.out).mono ?_;rintro e W1 ⟨rfl,rfl⟩;go_wp2_with fail;refine (H2.out _).mono ?_;rintro e W1 ⟨rfl,rfl⟩;go_wp2_with fail;refine (H3.out).mono ?_;rintro e W1 ⟨rfl,rfl⟩;go_wp2_with fail;refine (H4.out).mono ?_;rintro e W1 ⟨rfl,rfl⟩;go_wp2_with fail;go_ret;exact ⟨rfl,rfl⟩
def RetI (l:List Int) (w:World):Ending→World→Prop:=fun e W=>∃ A c,e=.returned (.slice A l.length c)∧Rd W W.heap.size 1 A l.length (i64s l)∧(∀ b o:Nat,A=some ⟨b,o,none⟩→w.heap.size≤b)∧Below w.heap.size w W
theorem next_ok (p:Prg) (hfit:Fits p) (hv:prgOk p) (w:World) (h:Lies w w.heap.size p) (f k:Nat) (hf:f<p.funs.length) (hk:k<p.len f):Calls Tryz.prog 88 #[p.val,.int .i64 f,.int .i64 k] w (RetI (nats (nextM p f k)) w):=by
 have hW:=wf_of hv;have hI:=hW.ins f k hf hk;have hl:=hW.len f hf;obtain ⟨b,off,b2,off2,hA,hb,hb2,-,d5,q0,q1,q2,q3,q4⟩:=h.at_ hf hk;have hchk:=fun (W:World) (hb:Below w.heap.size w W)=>check_ok p hfit hv W (h.next hb)
 have HNE:=hid (next_eq p f k);have f0:=zi f;have f1:(f:Int)<(p.funs.length:Int):=by omega
 have k0:=zi k;have k1:(k:Int)<(p.len f:Int):=by omega
 have kw:=Wi k (by omega);have HDN:=hid (fun (P F:Nat) (g cap:Nat) (zs:List Int) (W:World)=>del_next p P F b off f (p.len f) (p.fn f).codeC (some ⟨b2,off2,none⟩) g cap zs W);generalize hi:p.ins f k=i at q0 q1 q2 q3 q4 hI HNE;obtain ⟨op,a,bb,c,args,argA,argC⟩:=i;dsimp only at q0 q1 q2 q3 q4;have hT:=two_new w #[.slice p.funA p.funs.length p.funC,.slice p.obA p.obs.length p.obC,.slice p.vrA p.vrs.length p.vrC] #[.int .i64 f] 26 3;unfold Prg.val at hchk ⊢;rw [hA] at hchk hT ⊢;have HCHK:=hid hchk;have HI:=hid hI;clear hchk hI hi h hA;generalize args.length=N at q4;go_enter Tryz.func88,Tryz.ntmps88;go_upto_region 1 with fail;generalize World.alloc (World.alloc w _) _=W1 at hT ⊢;obtain ⟨x0,x1,x2⟩:=bx3 hT.fst;go_wp2_with fail;refine (HCHK.out _ hT.below).mono ?_;rintro e W2 ⟨rfl,hb3⟩;have hT2:=hT.next hb3;clear x0 x1 x2 hT hb3
 obtain ⟨x0,x1,x2⟩:=bx3 hT2.fst;have y0:=hT2.snd 0 _ rfl;have D5:=(hT2.below.cell (p:=⟨b,off+f * 6+5,none⟩) hb).trans d5;have Q0:=(hT2.below.cell (p:=⟨b2,off2+k * 5,none⟩) hb2).trans q0;have Q1:=(hT2.below.cell (p:=⟨b2,off2+k * 5+1,none⟩) hb2).trans q1;have Q2:=(hT2.below.cell (p:=⟨b2,off2+k * 5+2,none⟩) hb2).trans q2;have Q3:=(hT2.below.cell (p:=⟨b2,off2+k * 5+3,none⟩) hb2).trans q3;have Q4:=(hT2.below.cell (p:=⟨b2,off2+k * 5+4,none⟩) hb2).trans q4;clear d5 q0 q1 q2 q3 q4;go_upto_region 4 with fail;have hx:=bx_new W2 #[.int .i64 op,.int .i64 a,.int .i64 bb,.int .i64 c,.slice argA N argC] 63;have hb5:=below_alloc W2 (.cells #[.int .i64 op,.int .i64 a,.int .i64 bb,.int .i64 c,.slice argA N argC] 63)
 have hz:W2.heap.size<(World.alloc W2 (.cells #[.int .i64 op,.int .i64 a,.int .i64 bb,.int .i64 c,.slice argA N argC] 63)).heap.size:=by simp
 have hT5:=hT2.next hb5;have D6:=(hb5.cell (p:=⟨b,off+f * 6+5,none⟩) (by have:=hT2.size; show b<_; omega)).trans D5;have hG:=hT2.size;clear x0 x1 x2 y0 D5 Q0 Q1 Q2 Q3 Q4 hT2 hb5;generalize World.alloc W2 _=W5 at hx hT5 D6 hz ⊢;generalize W2.heap.size=G at hx hz hG ⊢;obtain ⟨z0,z1,z2,z3,-⟩:=bx5 hx;have HBS:=hid (show b<G by omega);have HPW:=hid (show w.heap.size+1<G by omega);by_cases h16:op=16∨op=21
 ·have hR:nextM p f k=[]:=by
   have h9:=HNE.out;have hr:nextRaw ⟨op,a,bb,c,args,argA,argC⟩ k=[]:=by unfold nextRaw; rw [if_pos h16]
   rw [hr] at h9;have h8:nats (nextM p f k)=[]:=by rw [← h9]; simp [nats,ascM,Lib.compact,Lib.compactUpTo]
   unfold nats at h8;exact List.map_eq_nil_iff.1 h8
  have HR:=hid hR;have H1:=hid (fun fv=>del_nil fv W5);have H2:=hid (asc_nil W5);clear hR HNE;rcases h16 with rfl | rfl
  ·go_wp2_with fail
   refine (H1.out _).mono ?_;rintro e W7 ⟨rfl,rfl⟩;go_wp2_with fail;refine (H2.out).mono ?_;rintro e W7 ⟨rfl,rfl⟩;go_wp2_with fail;go_ret;exact ⟨none,0,by rw [HR.out]; rfl,by rw [HR.out]; exact Rd.nil_,(fun _ _ e=>by cases e),hT5.below⟩
  ·go_wp2_with fail
   refine (H1.out _).mono ?_;rintro e W7 ⟨rfl,rfl⟩;go_wp2_with fail;refine (H2.out).mono ?_;rintro e W7 ⟨rfl,rfl⟩;go_wp2_with fail;go_ret;exact ⟨none,0,by rw [HR.out]; rfl,by rw [HR.out]; exact Rd.nil_,(fun _ _ e=>by cases e),hT5.below⟩
 ·by_cases h13:op=13
  ·subst h13
   have ha:=(HI.out.jump rfl).1;dsimp only at ha;have hR:nats (nextRaw ⟨13,a,bb,c,args,argA,argC⟩ k)=[a]:=by unfold nextRaw nats; rw [if_neg (by simp),if_pos rfl]; simp; omega
   have hE:=HNE.out;rw [hR] at hE;have HE:=hid hE;have HPOS:=hid (show ∀ x∈([a]:List Int),0≤x from fun x hx=>by have:=hR ▸ hx; unfold nats at this; obtain ⟨y,-,rfl⟩:=List.mem_map.1 this; omega);clear hE hR HNE;have hH:=holds_new W5 [a];have hb6:=below_alloc W5 (.cells ([a].map encZ).toArray 3);have hg6:W5.heap.size<(World.alloc W5 (.cells ([a].map encZ).toArray 3)).heap.size:=by simp
   have hT6:=hT5.next hb6;have D7:=(hb6.cell (p:=⟨b,off+f * 6+5,none⟩) (by have:=HBS.out; show b<_; omega)).trans D6;simp only [List.map_cons,List.map_nil,encZ] at hH hg6 hT6 D7;clear hb6;go_upto_region 15 with fail;clear z0 z1 z2 z3;generalize World.alloc W5 _=W6 at hH hg6 hT6 D7 ⊢;generalize W5.heap.size=V at hH hg6 hz ⊢;obtain ⟨x0,-,-⟩:=bx3 hT6.fst;have y0:=hT6.snd 0 _ rfl;have HCALL:=hid (HDN.out w.heap.size (w.heap.size+1) V 1 [a] W6 x0 y0 D7 hf (by have:=HPW.out; omega) (by have:=HPW.out; omega) (by have:=HBS.out; omega) hg6 hH (by simp) (by simp));have HLE:=hid (Nat.le_trans (List.length_filter_le (fun x=>!decide ((p.len f:Int)≤x)) [a]) (by simp:([a]:List Int).length≤1000))
   have HNO:=hid (fun x (hx:x∈[a].filter (fun x=>!decide ((p.len f:Int)≤x)))=>(by have:=HPOS.out x (List.mem_filter.1 hx).1; omega:x≠-1));generalize hzf:[a].filter (fun x=>!decide ((p.len f:Int)≤x))=l at HCALL HLE HNO HE;have hvb:w.heap.size≤V:=by have:=HPW.out; omega
   clear hzf x0 y0 D7 hH hT5 D6 hx HPOS;go_wp2_with fail;refine (HCALL.out).mono ?_;rintro e W7 ⟨rfl,hH7,hb7⟩;have hbw:=hT6.below.trans (hb7.mono hvb);have HAS:=hid (asc_some V 0 1 l W7 HLE.out HNO.out hH7);clear hT6 hH7 hb7;go_wp2_with fail;refine (HAS.out).mono ?_;rintro e W8 ⟨g,cap8,rfl,hg0,hg1,hH8,hb8⟩;go_wp2_with fail;go_ret;refine ⟨some ⟨g,0,none⟩,cap8,?_,?_,(fun b o e=>by injection e with e; injection e with e1 e2; subst e1; exact Nat.le_trans hbw.size hg0),hbw.trans (hb8.mono hbw.size)⟩
   ·rw [← HE.out]; rfl
   ·rw [← HE.out]; exact rd_holds hH8 hg1
  ·by_cases h14:op=14
   ·subst h14
    have ha:=(HI.out.cond rfl).1;dsimp only at ha;have hR:nats (nextRaw ⟨14,a,bb,c,args,argA,argC⟩ k)=[(k:Int)+1,bb]:=by unfold nextRaw nats; rw [if_neg (by simp),if_neg (by simp),if_pos rfl]; simp; omega
    have hE:=HNE.out;rw [hR] at hE;have HE:=hid hE;have HPOS:=hid (show ∀ x∈([(k:Int)+1,bb]:List Int),0≤x from fun x hx=>by have:=hR ▸ hx; unfold nats at this; obtain ⟨y,-,rfl⟩:=List.mem_map.1 this; omega);clear hE hR HNE;have hH:=holds_new W5 [(k:Int)+1,bb];have hb6:=below_alloc W5 (.cells ([(k:Int)+1,bb].map encZ).toArray 3);have hg6:W5.heap.size<(World.alloc W5 (.cells ([(k:Int)+1,bb].map encZ).toArray 3)).heap.size:=by simp
    have hT6:=hT5.next hb6;have D7:=(hb6.cell (p:=⟨b,off+f * 6+5,none⟩) (by have:=HBS.out; show b<_; omega)).trans D6;simp only [List.map_cons,List.map_nil,encZ] at hH hg6 hT6 D7;clear hb6;go_upto_region 15 with fail;clear z0 z1 z2 z3;generalize World.alloc W5 _=W6 at hH hg6 hT6 D7 ⊢;generalize W5.heap.size=V at hH hg6 hz ⊢;obtain ⟨x0,-,-⟩:=bx3 hT6.fst;have y0:=hT6.snd 0 _ rfl;have HCALL:=hid (HDN.out w.heap.size (w.heap.size+1) V 2 [(k:Int)+1,bb] W6 x0 y0 D7 hf (by have:=HPW.out; omega) (by have:=HPW.out; omega) (by have:=HBS.out; omega) hg6 hH (by simp) (by simp));have HLE:=hid (Nat.le_trans (List.length_filter_le (fun x=>!decide ((p.len f:Int)≤x)) [(k:Int)+1,bb]) (by simp:([(k:Int)+1,bb]:List Int).length≤1000))
    have HNO:=hid (fun x (hx:x∈[(k:Int)+1,bb].filter (fun x=>!decide ((p.len f:Int)≤x)))=>(by have:=HPOS.out x (List.mem_filter.1 hx).1; omega:x≠-1));generalize hzf:[(k:Int)+1,bb].filter (fun x=>!decide ((p.len f:Int)≤x))=l at HCALL HLE HNO HE;have hvb:w.heap.size≤V:=by have:=HPW.out; omega
    clear hzf x0 y0 D7 hH hT5 D6 hx HPOS;go_wp2_with fail;refine (HCALL.out).mono ?_;rintro e W7 ⟨rfl,hH7,hb7⟩;have hbw:=hT6.below.trans (hb7.mono hvb);have HAS:=hid (asc_some V 0 2 l W7 HLE.out HNO.out hH7);clear hT6 hH7 hb7;go_wp2_with fail;refine (HAS.out).mono ?_;rintro e W8 ⟨g,cap8,rfl,hg0,hg1,hH8,hb8⟩;go_wp2_with fail;go_ret;refine ⟨some ⟨g,0,none⟩,cap8,?_,?_,(fun b o e=>by injection e with e; injection e with e1 e2; subst e1; exact Nat.le_trans hbw.size hg0),hbw.trans (hb8.mono hbw.size)⟩
    ·rw [← HE.out]; rfl
    ·rw [← HE.out]; exact rd_holds hH8 hg1
   ·by_cases h35:op=35
    ·subst h35
     have ha:=(HI.out.open_ rfl).1;dsimp only at ha;have hR:nats (nextRaw ⟨35,a,bb,c,args,argA,argC⟩ k)=[(k:Int)+1,c]:=by unfold nextRaw nats; rw [if_neg (by simp),if_neg (by simp),if_neg (by simp),if_pos rfl]; simp; omega
     have hE:=HNE.out;rw [hR] at hE;have HE:=hid hE;have HPOS:=hid (show ∀ x∈([(k:Int)+1,c]:List Int),0≤x from fun x hx=>by have:=hR ▸ hx; unfold nats at this; obtain ⟨y,-,rfl⟩:=List.mem_map.1 this; omega);clear hE hR HNE;have hH:=holds_new W5 [(k:Int)+1,c];have hb6:=below_alloc W5 (.cells ([(k:Int)+1,c].map encZ).toArray 3);have hg6:W5.heap.size<(World.alloc W5 (.cells ([(k:Int)+1,c].map encZ).toArray 3)).heap.size:=by simp
     have hT6:=hT5.next hb6;have D7:=(hb6.cell (p:=⟨b,off+f * 6+5,none⟩) (by have:=HBS.out; show b<_; omega)).trans D6;simp only [List.map_cons,List.map_nil,encZ] at hH hg6 hT6 D7;clear hb6;go_upto_region 15 with fail;clear z0 z1 z2 z3;generalize World.alloc W5 _=W6 at hH hg6 hT6 D7 ⊢;generalize W5.heap.size=V at hH hg6 hz ⊢;obtain ⟨x0,-,-⟩:=bx3 hT6.fst;have y0:=hT6.snd 0 _ rfl;have HCALL:=hid (HDN.out w.heap.size (w.heap.size+1) V 2 [(k:Int)+1,c] W6 x0 y0 D7 hf (by have:=HPW.out; omega) (by have:=HPW.out; omega) (by have:=HBS.out; omega) hg6 hH (by simp) (by simp));have HLE:=hid (Nat.le_trans (List.length_filter_le (fun x=>!decide ((p.len f:Int)≤x)) [(k:Int)+1,c]) (by simp:([(k:Int)+1,c]:List Int).length≤1000))
     have HNO:=hid (fun x (hx:x∈[(k:Int)+1,c].filter (fun x=>!decide ((p.len f:Int)≤x)))=>(by have:=HPOS.out x (List.mem_filter.1 hx).1; omega:x≠-1));generalize hzf:[(k:Int)+1,c].filter (fun x=>!decide ((p.len f:Int)≤x))=l at HCALL HLE HNO HE;have hvb:w.heap.size≤V:=by have:=HPW.out; omega
     clear hzf x0 y0 D7 hH hT5 D6 hx HPOS;go_wp2_with fail;refine (HCALL.out).mono ?_;rintro e W7 ⟨rfl,hH7,hb7⟩;have hbw:=hT6.below.trans (hb7.mono hvb);have HAS:=hid (asc_some V 0 2 l W7 HLE.out HNO.out hH7);clear hT6 hH7 hb7;go_wp2_with fail;refine (HAS.out).mono ?_;rintro e W8 ⟨g,cap8,rfl,hg0,hg1,hH8,hb8⟩;go_wp2_with fail;go_ret;refine ⟨some ⟨g,0,none⟩,cap8,?_,?_,(fun b o e=>by injection e with e; injection e with e1 e2; subst e1; exact Nat.le_trans hbw.size hg0),hbw.trans (hb8.mono hbw.size)⟩
     ·rw [← HE.out]; rfl
     ·rw [← HE.out]; exact rd_holds hH8 hg1
    ·have e1:(op == 16)=false:=by simp; omega
     have e2:(op == 21)=false:=by simp; omega
     have e3:(op == 13)=false:=by simpa using h13
     have e4:(op == 14)=false:=by simpa using h14
     have e5:(op == 35)=false:=by simpa using h35
     have hR:nats (nextRaw ⟨op,a,bb,c,args,argA,argC⟩ k)=[(k:Int)+1]:=by unfold nextRaw nats; rw [if_neg h16,if_neg h13,if_neg h14,if_neg h35]; simp
     have hE:=HNE.out;rw [hR] at hE;have HE:=hid hE;have HPOS:=hid (show ∀ x∈([(k:Int)+1]:List Int),0≤x from fun x hx=>by have:=hR ▸ hx; unfold nats at this; obtain ⟨y,-,rfl⟩:=List.mem_map.1 this; omega);clear hE hR HNE;have hH:=holds_new W5 [(k:Int)+1];have hb6:=below_alloc W5 (.cells ([(k:Int)+1].map encZ).toArray 3);have hg6:W5.heap.size<(World.alloc W5 (.cells ([(k:Int)+1].map encZ).toArray 3)).heap.size:=by simp
     have hT6:=hT5.next hb6;have D7:=(hb6.cell (p:=⟨b,off+f * 6+5,none⟩) (by have:=HBS.out; show b<_; omega)).trans D6;simp only [List.map_cons,List.map_nil,encZ] at hH hg6 hT6 D7;clear hb6;go_upto_region 15 with fail;clear z0 z1 z2 z3;generalize World.alloc W5 _=W6 at hH hg6 hT6 D7 ⊢;generalize W5.heap.size=V at hH hg6 hz ⊢;obtain ⟨x0,-,-⟩:=bx3 hT6.fst;have y0:=hT6.snd 0 _ rfl;have HCALL:=hid (HDN.out w.heap.size (w.heap.size+1) V 1 [(k:Int)+1] W6 x0 y0 D7 hf (by have:=HPW.out; omega) (by have:=HPW.out; omega) (by have:=HBS.out; omega) hg6 hH (by simp) (by simp));have HLE:=hid (Nat.le_trans (List.length_filter_le (fun x=>!decide ((p.len f:Int)≤x)) [(k:Int)+1]) (by simp:([(k:Int)+1]:List Int).length≤1000))
     have HNO:=hid (fun x (hx:x∈[(k:Int)+1].filter (fun x=>!decide ((p.len f:Int)≤x)))=>(by have:=HPOS.out x (List.mem_filter.1 hx).1; omega:x≠-1));generalize hzf:[(k:Int)+1].filter (fun x=>!decide ((p.len f:Int)≤x))=l at HCALL HLE HNO HE;have hvb:w.heap.size≤V:=by have:=HPW.out; omega
     clear hzf x0 y0 D7 hH hT5 D6 hx HPOS;go_wp2_with fail;refine (HCALL.out).mono ?_;rintro e W7 ⟨rfl,hH7,hb7⟩;have hbw:=hT6.below.trans (hb7.mono hvb);have HAS:=hid (asc_some V 0 1 l W7 HLE.out HNO.out hH7);clear hT6 hH7 hb7;go_wp2_with fail;refine (HAS.out).mono ?_;rintro e W8 ⟨g,cap8,rfl,hg0,hg1,hH8,hb8⟩;go_wp2_with fail;go_ret;refine ⟨some ⟨g,0,none⟩,cap8,?_,?_,(fun b o e=>by injection e with e; injection e with e1 e2; subst e1; exact Nat.le_trans hbw.size hg0),hbw.trans (hb8.mono hbw.size)⟩
     ·rw [← HE.out]; rfl
     ·rw [← HE.out]; exact rd_holds hH8 hg1
end
section
open Go.RowKit Go.Shelf
def Wl (W:World) (v:Value) (g:Nat) (l:List Nat):Prop:=
 ∃ off cap,v=.slice (some ⟨g,off,none⟩) l.length cap∧l.length≤cap∧cap≤maxLen∧(∀ j (hj:j<l.length),W.cell? ⟨g,off+j,none⟩=some (.int .i64 (l[j]:Nat)))∧∀ j,j<cap→(W.cell? ⟨g,off+j,none⟩).isSome=true∧W.frozen? ⟨g,off+j,none⟩=false
theorem Wl.tail {W:World} {v:Value} {g x:Nat} {l:List Nat} (h:Wl W v g (x::l)):∃ off cap,v=.slice (some ⟨g,off,none⟩) (l.length+1) (cap+1)∧W.cell? ⟨g,off,none⟩=some (.int .i64 x)∧Wl W (.slice (some ⟨g,off+1,none⟩) l.length cap) g l:=by
 obtain ⟨off,cap,rfl,h1,h2,h3,h4⟩:=h;rw [List.length_cons] at h1;obtain ⟨cap,rfl⟩:∃ c,cap=c+1:=⟨cap - 1,by omega⟩
 refine ⟨off,cap,rfl,h3 0 (by simp),off+1,cap,rfl,by omega,by omega,fun j hj=>?_,fun j hj=>?_⟩
 ·have:=h3 (j+1) (by simp; omega)
  rw [Nat.add_assoc,Nat.add_comm 1 j]; exact this
 ·have:=h4 (j+1) (by omega)
  rw [Nat.add_assoc,Nat.add_comm 1 j]; exact this
theorem Wl.same {W W':World} {v:Value} {g:Nat} {l:List Nat} (h:Wl W v g l) (hs:∀ c e fr,W.heap[g]? = some (.cells c e fr)→W'.heap[g]? = some (.cells c e fr)):Wl W' v g l:=by
 obtain ⟨off,cap,e,h1,h2,h3,h4⟩:=h
 have hc:∀ (j:Nat) (u:Value),W.cell? ⟨g,j,none⟩=some u→W'.cell? ⟨g,j,none⟩=some u∧W'.frozen? ⟨g,j,none⟩=W.frozen? ⟨g,j,none⟩:=fun j u hu=>by
  obtain ⟨c,e,fr,hb,_⟩:=Go.Sort.cells_of_cell? hu;have hb':=hs c e fr hb;constructor
  ·simp only [World.cell?,hb,hb'] at hu ⊢; exact hu
  ·simp only [World.frozen?,hb,hb']
 refine ⟨off,cap,e,h1,h2,fun j hj=>(hc _ _ (h3 j hj)).1,fun j hj=>?_⟩;obtain ⟨u,hu⟩:=Option.isSome_iff_exists.1 (h4 j hj).1;exact ⟨by rw [(hc _ _ hu).1]; rfl,(hc _ _ hu).2.trans (h4 j hj).2⟩
theorem Wl.below {W W':World} {v:Value} {g B:Nat} {l:List Nat} (h:Wl W v g l) (hb:Below B W W') (hg:g<B):Wl W' v g l:=h.same fun _ _ _ e=>(hb.block g hg).trans e
theorem isome_setCells (w:World) (b:Nat):∀ (vs:List Value) (o:Nat) (x:Addr),(w.cell? x).isSome=true→((w.setCells b o vs).cell? x).isSome=true:=by
 intro vs
 induction vs generalizing w with
 | nil=>intro o x h; exact h
 | cons v r ih=>
  intro o x h;refine ih (w.setCell ⟨b,o,none⟩ v) (o+1) x ?_;by_cases e:(⟨b,o,none⟩:Addr)=x
  ·subst e
   obtain ⟨u,hu⟩:=Option.isSome_iff_exists.1 h;rw [World.cell?_setCell_same _ _ _ hu]; rfl
  ·rw [World.cell?_setCell_other _ _ _ _ e]; exact h
theorem setCells_block (b:Nat):∀ (vs:List Value) (o:Nat) (w:World) (k:Nat),k≠b→(w.setCells b o vs).heap[k]? = w.heap[k]?:=by
 intro vs
 induction vs with
 | nil=>intro o w k h; rfl
 | cons v r ih=>intro o w k h; exact (ih (o+1) _ k h).trans (heap_setCell_other _ _ _ _ h)
theorem setCells_size (b:Nat):∀ (vs:List Value) (o:Nat) (w:World),(w.setCells b o vs).heap.size=w.heap.size:=by
 intro vs
 induction vs with
 | nil=>intro o w; rfl
 | cons v r ih=>intro o w; exact (ih (o+1) _).trans (by simp)
theorem setCells_rest (b:Nat):∀ (vs:List Value) (o:Nat) (w:World),(w.setCells b o vs).os=w.os∧(w.setCells b o vs).tape=w.tape∧(w.setCells b o vs).output=w.output:=by
 intro vs
 induction vs with
 | nil=>intro o w; exact ⟨rfl,rfl,rfl⟩
 | cons v r ih=>intro o w; exact ih (o+1) _
theorem run_append_wl {W:World} {v:Value} {g:Nat} {l news:List Nat} (h:Wl W v g l) (A:Option Addr) (c ty:Nat) (hr:Rd W W.heap.size 1 A news.length (i64s (nats news))) (hg:g<W.heap.size) (hl:l.length+news.length≤100000) :
  ∃ v' g' W',(Builtin.append_ #[27,27] ty #[v,.slice A news.length c]).run Tryz.prog W=.ok v' W'∧Wl W' v' g' (l++news)∧(g'=g∨W.heap.size≤g')∧g'<W'.heap.size∧W.grownBy W' (some g):=by
 obtain ⟨i0,hi,hz⟩:=Option.map_eq_some_iff.1 i64info;have hz0:i0.zero=some (.int .i64 0):=congrArg (fun t=>t.1) hz;have hz1:i0.size=1:=congrArg (fun t=>t.2.1) hz;have hz2:i0.bytes=8:=congrArg (fun t=>t.2.2) hz;obtain ⟨off,cap,rfl,h1,h2,h3,h4⟩:=h;by_cases hn:news=[]
 ·subst hn
  refine ⟨_,g,W,?_,⟨off,cap,by rw [List.append_nil],by rw [List.append_nil]; exact h1,h2,?_,h4⟩,.inl rfl,hg,⟨rfl,rfl,rfl,Nat.le_refl _,fun _ _ _=>rfl⟩⟩
  ·cases A with
   | none=>simp [Builtin.append_,run_underlying Tryz.underlying27,sizeOf,typeInfo,hi,Builtin.lenOf,Builtin.firstCells,h1,storeCells]
   | some ad=>
    have:=run_append_room_cells (P:=Tryz.prog) W 27 ty 3 i0 Tryz.underlying27 hi g off l.length cap ad 0 c [] (by simp) (fun j u hu=>by cases hu) (fun u hu=>by cases hu) (by omega) (fun j hj=>by cases hj) (fun j hj=>by cases hj);exact this
  ·intro j hj
   simp only [List.append_nil] at hj ⊢;exact h3 j hj
 ·have hn0:0<news.length:=List.length_pos_iff.2 hn
  obtain ⟨b,o,rfl,hb,hc⟩:=hr.addr hn0;have hil:(i64s (nats news)).length=news.length:=by simp [i64s,nats]
  have hone:∀ u∈i64s (nats news),u.oneCell'=true:=fun u hu=>by
   simp only [i64s,List.mem_map] at hu;obtain ⟨y,-,rfl⟩:=hu; rfl
  have hca:∀ j u,(i64s (nats news))[j]? = some u→W.cell? ((⟨b,o,none⟩:Addr).add j)=some u:=fun j u hu=>by rw [addr_add]; exact hc j u hu
  by_cases hroom:l.length+news.length≤cap
  ·have hrun:=run_append_room_cells (P:=Tryz.prog) W 27 ty 3 i0 Tryz.underlying27 hi g off l.length cap ⟨b,o,none⟩ news.length c (i64s (nats news)) (by rw [hz1,hil]; omega) hca hone hroom
    (fun j hj=>by rw [hz1,Nat.mul_one,Nat.add_assoc]; exact (h4 (l.length+j) (by omega)).1) (fun j hj=>by rw [hz1,Nat.mul_one,Nat.add_assoc]; exact (h4 (l.length+j) (by omega)).2)
   rw [hz1,Nat.mul_one] at hrun;refine ⟨_,g,_,hrun,⟨off,cap,by rw [List.length_append],by rw [List.length_append]; exact hroom,h2,fun j hj=>?_,fun j hj=>⟨isome_setCells _ _ _ _ _ (h4 j hj).1,by rw [World.frozen?_setCells]; exact (h4 j hj).2⟩⟩,.inl rfl,by rw [setCells_size]; exact hg,?_⟩
   ·by_cases hjl:j<l.length
    ·rw [World.cell?_setCells_out _ _ _ _ _ (fun _ _=>.inl (by show off+j<off+l.length; omega)),h3 j hjl,List.getElem_append_left hjl]
    ·have hj2:j - l.length<news.length:=by rw [List.length_append] at hj; omega
     have:=World.cell?_setCells_in g (i64s (nats news)) (off+l.length) W (fun q hq=>by rw [Nat.add_assoc]; exact (h4 (l.length+q) (by omega)).1) (j - l.length) (by omega);rw [show off+l.length+(j - l.length)=off+j from by omega] at this;rw [this,List.getElem_append_right (by omega)];simp [i64s,nats]
   ·have hrs:=setCells_rest g (i64s (nats news)) (off+l.length) W
    exact ⟨hrs.1,hrs.2.1,hrs.2.2,by rw [setCells_size]; omega,fun k hk hne=>setCells_block _ _ _ _ _ (fun e=>hne (by rw [e]))⟩
  ·have hol:(i64s (nats l)).length=l.length:=by simp [i64s,nats]
   obtain ⟨v',W',hrun,hown,hgr⟩:=run_append_arg_grows (P:=Tryz.prog) W 27 ty 3 i0 (.int .i64 0) 1 8 Tryz.underlying27 hi hz0 hz1 hz2 rfl (by omega) ⟨g,off,none⟩ l.length cap (i64s (nats l)) (by rw [hol]; omega)
    (fun j u hu=>by
     rw [addr_add]
     have hj:j<l.length:=by
      rcases Nat.lt_or_ge j l.length with h9 | h9
      ·exact h9
      ·rw [List.getElem?_eq_none (by omega)] at hu; cases hu
     rw [h3 j hj,← hu]; simp [i64s,nats,hj]) ⟨b,o,none⟩ news.length c (i64s (nats news)) (by rw [hil]; omega) hca (by omega) (by unfold maxLen; omega) (by omega)
   obtain ⟨hl2,⟨_,h9⟩ | ⟨g',cap',cur,rfl,hb',hg',hn',hcap',hcs,hcur⟩⟩:=hown
   ·omega
   ·have hcell:∀ j (hj:j<(l++news).length),W'.cell? ⟨g',0+j,none⟩=some (.int .i64 ((l++news)[j]:Nat)):=fun j hj=>by
     simp only [World.cell?,hg',Nat.zero_add];have e:(cur.toList.take ((l.length+news.length) * 1))[j]? = (i64s (nats l)++i64s (nats news))[j]?:=by rw [hcur]
     rw [List.getElem?_take_of_lt (by rw [List.length_append] at hj; omega)] at e;have e2:i64s (nats l)++i64s (nats news)=(l++news).map (fun (n:Nat)=>Value.int .i64 (n:Int)):=by simp [i64s,nats]; rfl
     rw [e2,List.getElem?_map,List.getElem?_eq_getElem hj] at e;simpa using e
    refine ⟨_,g',W',hrun,⟨0,cap',by rw [List.length_append],by rw [List.length_append]; exact hn',hcap',hcell,fun j hj=>⟨?_,by simp [World.frozen?,hg']⟩⟩,.inr hb',(Array.getElem?_eq_some_iff.1 hg').1,⟨hgr.os,hgr.tape,hgr.output,hgr.size,fun k hk hne=>hgr.block k hk (by simp)⟩⟩;simp only [World.cell?,hg',Nat.zero_add];have:j<cur.size:=by omega
    simp [this]
theorem wpListIn_append_wl {F:Fence} {n:Nat} {ops:Array Oper} {rest:List Oper} {o:Oper} {a:Act} {Q:Exit→Act→World→Prop} {W:World}
  (hgd:o.guard=none) (s x:Operand) (hop:o.op=Op.call { callee:=Callee.builtin Builtin.append,args:=#[s,x],argTypes:=#[27,27] })
  {v:Value} {g:Nat} {l news:List Nat} (hs:a.eval s=v) (h:Wl W v g l) (A:Option Addr) (c:Nat) (hx:a.eval x=.slice A news.length c) (hr:Rd W W.heap.size 1 A news.length (i64s (nats news))) (hg:g<W.heap.size) (hl:l.length+news.length≤100000)
  (hK:∀ v' g' W',Wl W' v' g' (l++news)→(g'=g∨W.heap.size≤g')→g'<W'.heap.size→W.grownBy W' (some g)→wpListIn F n Tryz.prog ops Q rest (a.put o.dst v') W') :
  wpListIn F n Tryz.prog ops Q (o::rest) a W:=by
 refine wpListIn_plain hgd fun K hK'=>?_
 obtain ⟨v',g',W',hrun,r1,r2,r3,r4⟩:=run_append_wl h A c o.type hr hg hl;unfold Oper.wpIn;refine ⟨?_,?_⟩
 ·simp [Oper.about,hop,resolve,Target.leads,Sem.run_pure]
 ·rw [Oper.semAt_plain F _ _ (by rw [hop]; intro c hc'; cases hc')]
  simp [execOp,hop,resolve,invoke,builtin,hs,hx,hrun,Result.andThen];exact hK' _ _ (hK v' g' W' r1 r2 r3 r4)
end
section
open Go.RowKit Go.Shelf
def S.leaveTo (p:Prg) (f:Nat) (s:S) (j:Nat):S:=(List.range j).foldl (S.leaveStep p f) s
theorem S.leaveTo_succ (p:Prg) (f:Nat) (s:S) (j:Nat):s.leaveTo p f (j+1)=(s.leaveTo p f j).leaveStep p f j:=by
 unfold S.leaveTo; rw [List.range_succ,List.foldl_append]; rfl
theorem Bx.turn {lo hi g:Nat} {cs:List Value} {W W':World} (h:Bx W g cs) (ht:Turn lo hi W W') (_:g<W.heap.size) (hg:hi≤g):Bx W' g cs:=fun j v hv=>ht.cell (h j v hv) (.inr hg)
theorem code_at {p:Prg} {w:World} {lo hi:Nat} (h:Lies w lo p) (_:lo≤hi∧hi≤w.heap.size) {b off b2 off2 f k:Nat} (hA:p.funA=some ⟨b,off,none⟩) (hb2:b2<lo) (d5:w.cell? ⟨b,off+f * 6+5,none⟩=some (.slice (some ⟨b2,off2,none⟩) (p.len f) (p.fn f).codeC)) (hf:f<p.funs.length) (hk:k<p.len f) {W:World} (ht:Turn lo hi w W) :
  W.cell? ⟨b2,off2+k * 5,none⟩=some (.int .i64 (p.ins f k).op)∧W.cell? ⟨b2,off2+k * 5+1,none⟩=some (.int .i64 (p.ins f k).a)∧W.cell? ⟨b2,off2+k * 5+2,none⟩=some (.int .i64 (p.ins f k).b)∧W.cell? ⟨b2,off2+k * 5+3,none⟩=some (.int .i64 (p.ins f k).c) ∧
  W.cell? ⟨b2,off2+k * 5+4,none⟩=some (.slice (p.ins f k).argA (p.ins f k).args.length (p.ins f k).argC):=by
 obtain ⟨b',off',b2',off2',hA',_,hb2',_,d5',q0,q1,q2,q3,q4⟩:=h.at_ hf hk;rw [hA] at hA';injection hA' with e;injection e with e1 e2;subst e1; subst e2;rw [d5] at d5';injection d5' with e;injection e with e1;injection e1 with e1;injection e1 with e1 e2;subst e1; subst e2;exact ⟨ht.cell q0 (.inl hb2),ht.cell q1 (.inl hb2),ht.cell q2 (.inl hb2),ht.cell q3 (.inl hb2),ht.cell q4 (.inl hb2)⟩
theorem leave_any (p:Prg) (hW:Wf p) (L:Lay) (w:World) (s:S) (h:Mem p L w s) (f:Nat) (hf:f<p.funs.length) :
  Calls Tryz.prog 69 #[.pointer (some ⟨L.A,0,none⟩),.int .i64 f] w (Left p L w (s.leave p f) (.tuple #[])):=by
 have f0:=zi f;have f1:(f:Int)<(p.funs.length:Int):=by omega
 have hM:=hW.len f hf;have HG:=hid (fun (W:World) (s:S) (hm:Mem p L W s) (l:BS)=>grow_any p L W s hm (.fin f) hf l);have HBH:=hid (fun (W:World) (s:S) (hm:Mem p L W s) (k:Nat) (hk:k<p.len f)=>behind_any p hW L W s hm f k hf hk);unfold Lay.kA Lay.tA at HG;unfold sv at HG HBH;dsimp only at HG;have c0:=h.c0;by_cases hM0:p.len f=0
 ·obtain ⟨b,off,hA,hb,-,d5⟩:=h.prog.codeAt hf
  rw [hM0] at d5;rw [hA] at c0;have HM0:=hid hM0;clear hA hM hM0;have c3:=h.c5;have ce:=(h.slot (.ent f) hf).1.1;unfold Lay.kA at ce;dsimp only at ce;have HM:=hid h;clear h;go_enter Tryz.func69,Tryz.ntmps69
  cases hen:(s.get (.ent f)).1 with
  | false=>
   have HL:=hid (show s.leave p f=s from by unfold S.leave; rw [HM0.out,hen]; rfl);rw [hen] at ce;clear hen;go_wp2_with fail;go_loopw [53] (fun i wr=>i=.int .i64 0∧Mem p L wr s∧Turn L.lo L.hi w wr) (fun i _=>0)
   case atStart=>exact ⟨rfl,HM.out,Turn.refl _ _ _⟩
   case round=>
    obtain ⟨rfl,hm,ht⟩:=hrel;go_wp2_with fail;go_end0;exact ⟨rfl,by rw [HL.out]; exact hm,ht⟩
  | true=>
   have HL:=hid (show s.leave p f=s.grow (.fin f) (s.get (.ent f)).2 from by unfold S.leave; rw [HM0.out,hen]; rfl);rw [hen] at ce;clear hen;have c7:=HM.out.c7;have c8:=HM.out.c8;have c6:=HM.out.c6;have cw:=(HM.out.slot (.ent f) hf).2.1;unfold Lay.tA sv at cw;dsimp only at cw;go_wp2_with fail;go_still_tail 20,(by kernel_rfl)
   change wpList _ _ _ _ _ w.drew;have hm1:=HM.out.drewN 1;change Mem p L w.drew s at hm1;have ht1:Turn L.lo L.hi w w.drew:=(Turn.refl _ _ _).drewN 1;generalize w.drew=W1 at hm1 ht1 ⊢;clear c0 c3 ce c7 c8 c6 cw d5;go_wp2_with fail;refine (HG.out _ _ hm1 _).mono ?_;rintro e W2 ⟨rfl,hm2,ht2⟩;have ht2:=ht1.trans ht2;go_wp2_with fail;go_loopw [53] (fun i wr=>i=.int .i64 0∧Mem p L wr (s.grow (.fin f) (s.get (.ent f)).2)∧Turn L.lo L.hi w wr) (fun i _=>0)
   case atStart=>exact ⟨rfl,hm2,ht2⟩
   case round=>
    obtain ⟨rfl,hm,ht⟩:=hrel;go_wp2_with fail;go_end0;exact ⟨rfl,by rw [HL.out]; exact hm,ht⟩
 ·obtain ⟨b,off,b2,off2,hA,hb,hb2,-,d5,-⟩:=h.prog.at_ hf (show 0<p.len f by omega)
  have hat:∀ k,k<p.len f→∃ q:Nat × Nat,q=(b2,off2):=fun _ _=>⟨_,rfl⟩
  clear hat;have HAT:=hid (fun (W:World) (hm:Turn L.lo L.hi w W) (k:Nat) (hk:k<p.len f)=>code_at h.prog h.hi hA hb2 d5 hf hk hm);rw [hA] at c0;have g1:((p.len f:Int) == 0)=false:=by simp; omega
  have g2:(p.len f == 0)=false:=by simp; omega
  have HL:=hid (show s.leave p f=s.leaveTo p f (p.len f) from by unfold S.leave S.leaveTo; rw [if_neg (fun e=>hM0 e.1)]);clear hM0 hA;have HM:=hid h;clear h;go_enter Tryz.func69,Tryz.ntmps69;go_wp2_with fail;go_loopw [53] (fun i wr=>∃ j:Nat,i=.int .i64 j∧j≤p.len f∧Mem p L wr (s.leaveTo p f j)∧Turn L.lo L.hi w wr) (fun i _=>p.len f - (intOf i).toNat)
  case atStart=>exact ⟨0,rfl,by omega,HM.out,Turn.refl _ _ _⟩
  case round=>
   obtain ⟨j,rfl,hj,hm,ht⟩:=hrel;clear c0 d5;have hj0:=zi j;have hwr1:=Wi j (by omega);by_cases hlt:j<p.len f
   ·have hd1:=Dt (show (j:Int)<p.len f by omega)
    have hd2:=Dt hlt;have hjl:(j:Int)<(p.len f:Int):=by omega
    obtain ⟨q0,q1,q2,q3,q4⟩:=HAT.out wr ht j hlt;have HSU:=hid (S.leaveTo_succ p f s j);generalize s.leaveTo p f j=sj at hm HSU;go_upto_region 6 with fail;have hb5:=below_alloc wr (.cells #[.int .i64 (p.ins f j).op,.int .i64 (p.ins f j).a,.int .i64 (p.ins f j).b,.int .i64 (p.ins f j).c,.slice (p.ins f j).argA (p.ins f j).args.length (p.ins f j).argC] 63);have hx:=bx_new wr #[.int .i64 (p.ins f j).op,.int .i64 (p.ins f j).a,.int .i64 (p.ins f j).b,.int .i64 (p.ins f j).c,.slice (p.ins f j).argA (p.ins f j).args.length (p.ins f j).argC] 63;have hz:L.hi≤wr.heap.size:=hm.hi.2;have hzz:wr.heap.size<(World.alloc wr (.cells #[.int .i64 (p.ins f j).op,.int .i64 (p.ins f j).a,.int .i64 (p.ins f j).b,.int .i64 (p.ins f j).c,.slice (p.ins f j).argA (p.ins f j).args.length (p.ins f j).argC] 63)).heap.size:=by simp
    have hm5:=hm.below hb5;have ht5:=ht.trans (Turn.of_below hb5);clear hm ht hb5 q0 q1 q2 q3 q4;generalize World.alloc wr _=W5 at hx hm5 ht5 hzz ⊢;generalize wr.heap.size=G at hx hz hzz ⊢;obtain ⟨z0,-,-,-,-⟩:=bx5 hx;have c9:=hm5.c9;have cR:=hm5.outR f hf;have ck:=(hm5.slot (.at_ f j) ⟨hf,hlt⟩).1.1;have c7:=hm5.c7;have c8:=hm5.c8;have c10:=hm5.c10;have cB:=hm5.outB f hf;have cs:=(hm5.slot (.at_ f j) ⟨hf,hlt⟩).2.1;unfold Lay.kA at ck;unfold Lay.tA sv at cs;dsimp only at ck cs
    cases hre:(sj.get (.at_ f j)).1 with
    | false=>
     have HSV:=hid (show s.leaveTo p f (j+1)=sj from by rw [HSU.out]; unfold S.leaveStep; rw [hre]; rfl);rw [hre] at ck;clear hre;go_wp2_with fail;exact ⟨⟨j+1,by go_num,by omega,by rw [HSV.out]; exact hm5,ht5⟩,by simp [intOf]; omega⟩
    | true=>
     rw [hre] at ck;by_cases h16:(p.ins f j).op=16
     ·have HSV:=hid (show s.leaveTo p f (j+1)=sj.grow (.fin f) (sj.get (.at_ f j)).2 from by rw [HSU.out]; unfold S.leaveStep; rw [hre]; simp [h16])
      have z0':=z0;rw [h16] at z0;go_upto_region 8 with fail;go_still_tail 23,(by kernel_rfl)
      change wpList _ _ _ _ _ W5.drew;have hm6:=hm5.drewN 1;have hx6:=hx.below (below_drews W5.heap.size W5 1) hzz;have ht6:=ht5.drewN 1;have hzz6:G<(W5.drewN 1).heap.size:=hzz;change Mem p L W5.drew sj at hm6;change Bx W5.drew _ _ at hx6;change Turn _ _ _ W5.drew at ht6;change G<W5.drew.heap.size at hzz6;generalize W5.drew=W6 at hm6 ht6 hx6 hzz6 ⊢;clear z0 c9 cR ck c7 c8 c10 cB cs hx hm5 ht5 hzz z0';go_wp2_with fail;refine (HG.out _ _ hm6 _).mono ?_;rintro e W7 ⟨rfl,hm7,ht7⟩;obtain ⟨z0,-,-,-,-⟩:=bx5 (hx6.turn ht7 hzz6 hz);have ht8:=ht6.trans ht7;rw [h16] at z0;clear hm6 hx6 ht6 ht7 hzz6 hre;by_cases hl:j+1=p.len f
      ·have e1:IntKind.i64.wrap ((p.len f:Int) - 1)=(j:Int):=by rw [IntKind.wrap_i64]; omega
       clear hl;go_wp2_with fail;exact ⟨⟨j+1,by go_num,by omega,by rw [HSV.out]; exact hm7,ht8⟩,by simp [intOf]; omega⟩
      ·have e1:((j:Int) == IntKind.i64.wrap ((p.len f:Int) - 1))=false:=by rw [IntKind.wrap_i64]; simp; omega
       go_wp2_with fail;exact ⟨⟨j+1,by go_num,by omega,by rw [HSV.out]; exact hm7,ht8⟩,by simp [intOf]; omega⟩
     ·have e16:((p.ins f j).op == 16)=false:=by simpa using h16
      have n16:((p.ins f j).op != 16)=true:=by simpa using h16
      have HST:=hid (show s.leaveTo p f (j+1)=if j+1=p.len f∧(p.ins f j).op≠13∧(p.ins f j).op≠16∧(p.ins f j).op≠21∧(sj.behind p f j).2=true then sj.grow (.fin f) (sj.behind p f j).1 else sj from by
       rw [HSU.out]; unfold S.leaveStep; rw [hre]; simp only [if_neg h16]; rfl)
      by_cases hl:j+1=p.len f
      ·have e1:IntKind.i64.wrap ((p.len f:Int) - 1)=(j:Int):=by rw [IntKind.wrap_i64]; omega
       by_cases h13:(p.ins f j).op=13
       ·have HSV:=hid (show s.leaveTo p f (j+1)=sj from by rw [HST.out,if_neg (fun e=>e.2.1 h13)])
        rw [h13] at z0;clear hre h16 e16 n16 hl;go_wp2_with fail;exact ⟨⟨j+1,by go_num,by omega,by rw [HSV.out]; exact hm5,ht5⟩,by simp [intOf]; omega⟩
       ·have n13:((p.ins f j).op != 13)=true:=by simpa using h13
        by_cases h21:(p.ins f j).op=21
        ·have HSV:=hid (show s.leaveTo p f (j+1)=sj from by rw [HST.out,if_neg (fun e=>e.2.2.2.1 h21)])
         rw [h21] at z0;clear hre h16 e16 n16 h13 n13 hl;go_wp2_with fail;exact ⟨⟨j+1,by go_num,by omega,by rw [HSV.out]; exact hm5,ht5⟩,by simp [intOf]; omega⟩
        ·have n21:((p.ins f j).op != 21)=true:=by simpa using h21
         have HLL:=hid hl;clear hl;go_upto_region 10 with fail;go_wp2_with fail;refine (HBH.out _ _ hm5 j hlt).mono ?_
         cases hfo:(sj.behind p f j).2 with
         | false=>
          have HSV:=hid (show s.leaveTo p f (j+1)=sj from by rw [HST.out,if_neg (fun e=>by rw [hfo] at e; exact absurd e.2.2.2.2 (by decide))]);rintro e W6 ⟨rfl,hb6⟩;have hm6:=hm5.below hb6;have ht6:=ht5.trans (Turn.of_below hb6);clear hre h16 e16 n16 h13 n13 h21 n21 hfo;go_wp2_with fail;exact ⟨⟨j+1,by go_num,by omega,by rw [HSV.out]; exact hm6,ht6⟩,by simp [intOf]; omega⟩
         | true=>
          have HSV:=hid (show s.leaveTo p f (j+1)=sj.grow (.fin f) (sj.behind p f j).1 from by rw [HST.out,if_pos ⟨HLL.out,h13,h16,h21,hfo⟩]);rintro e W6 ⟨rfl,hb6⟩;have hm6:=hm5.below hb6;have ht6:=ht5.trans (Turn.of_below hb6);clear hre h16 e16 n16 h13 n13 h21 n21 hfo c7 c8 c9 cR ck c10 cB cs;have c7:=hm6.c7;have c8:=hm6.c8;generalize (sj.behind p f j).1=l at HSV ⊢;go_wp2_with fail;go_still_tail 14,(by kernel_rfl)
          change wpList _ _ _ _ _ W6.drew;have hm7:=hm6.drewN 1;have ht7:=ht6.drewN 1;change Mem p L W6.drew sj at hm7;change Turn _ _ _ W6.drew at ht7;generalize W6.drew=W7 at hm7 ht7 ⊢;clear c7 c8;go_wp2_with fail;refine (HG.out _ _ hm7 _).mono ?_;rintro e W8 ⟨rfl,hm8,ht8⟩;have ht9:=ht7.trans ht8;go_wp2_with fail;exact ⟨⟨j+1,by go_num,by omega,by rw [HSV.out]; exact hm8,ht9⟩,by simp [intOf]; omega⟩
      ·have HSV:=hid (show s.leaveTo p f (j+1)=sj from by rw [HST.out,if_neg (fun e=>hl e.1)])
       have e1:((j:Int) == IntKind.i64.wrap ((p.len f:Int) - 1))=false:=by rw [IntKind.wrap_i64]; simp; omega
       clear hre h16 n16;go_wp2_with fail;exact ⟨⟨j+1,by go_num,by omega,by rw [HSV.out]; exact hm5,ht5⟩,by simp [intOf]; omega⟩
   ·have hd1:=Df (show ¬ (j:Int)<p.len f by omega)
    have hd2:=Df hlt;obtain rfl:j=p.len f:=by omega
    clear hlt hj;go_wp2_with fail;go_end0;exact ⟨rfl,by rw [HL.out]; exact hm,ht⟩
end
section
open Go.RowKit
variable {F:Fence} {n:Nat} {P:Program}

def SeqAc {α:Type} (F:Fence) (n:Nat) (P:Program) (g:Nat) (lb:Array Value) (encs:α→Array Value) (Ab Kp:World→World→Prop) (S Sp:List α→Prop) (Ok:List α→α→Prop) (w:World):Prop:=
 ∀ (l:Nat) (J Jx:List α→World→Prop) (W:World),Below w.heap.size w W→(∀ s A B,J s A→Ab A B→J s B) →
  (∀ pre x W1,J pre W1→Ok pre x→YieldAt F (n - 1) P l (encs x) W1 fun e W'=>
   (e=.returned (.bool true)∧J (pre++[x]) W'∧Kp W1 W')∨(e=.returned (.bool false)∧Jx (pre++[x]) W')) →
  J [] W →
  CallsIn F n P g (#[.func (.yield l) #[] #[]]++lb) W fun e W'=>(∃ v,e=.returned v)∧((∃ xs,S xs∧J xs W')∨(∃ pre,Sp pre∧Jx pre W'))

theorem wpIn_rangeFunc_ac {α:Type} {g:Operand} {ps:Array Tmp} {assign body:Code} {Q:Exit→Act→World→Prop} {a:Act} {w:World}
  (hro:F.round=none) (h1:1≤n) {gf:Nat} {lb:Array Value} (hg:a.eval g=.func (.func gf) #[] lb) (hFg:F.fn gf) (eg:∀ args w,(callFunc gf args).run P w=.ok (.enter gf args) w)
  {encs:α→Array Value} {Ab Kp:World→World→Prop} {S Sp:List α→Prop} {Ok:List α→α→Prop} {w0:World} (hseq:SeqAc F (n - 1) P gf lb encs Ab Kp S Sp Ok w0)
  (hKt:∀ {A B C:World},Kp A B→Kp B C→Kp A C) (hKb:∀ (W:World) (l:Nat) (o o':Obj),w.heap.size≤l→W.heap[l]? = some o→o.isCells=false→o.isWalk=false→Kp W (W.putObj l o')) (hb0:Below w0.heap.size w0 w) (hps:∀ x,(encs x).size=ps.size)
  (hAb:∀ (A B:World) (k:Nat) (o:Obj),Ab A B→w.heap.size≤k→A.heap[k]? = some o→o.isCells=false→B.heap[k]? = some o)
  (I:List α→World→Prop) (Ix:Code→List α→World→Prop) (hI:OwnFrom w.heap.size I) (hIx:∀ c,OwnFrom w.heap.size (Ix c))
  (hIa:∀ s A B,I s A→Ab A B→I s B) (h0:I [] w) (Ax:α→Act→World→Prop) (hAx:∀ a',OwnFrom w.heap.size (fun x W=>Ax x a' W))
  (hassign:∀ (l:Nat) (pre:List α) (x:α) (W:World) (K:Act→World→Prop),I pre W →
   (∀ a' W',KeepsFrom w.heap.size W W'→Kp W W'→I pre W'→Ax x a' W'→K a' W') →
   assign.wpIn (F.inRound l) (n - 1 - 1) P (Exit.then K (fun _ _ _=>False)) { tmps:=(ps.zip (encs x)).foldl (fun t (p,v)=>t.setIfInBounds p v) a.tmps,defers:=[] } W)
  (hbody:∀ (l:Nat) (pre:List α) (x:α) (a':Act) (W:World),I pre W→Ax x a' W→Ok pre x→body.wpIn (F.inRound l) (n - 1 - 1) P (ownPostG w.heap.size Kp I Ix (pre++[x]) W) a' W)
  (hdone:∀ (D:Nat) (xs:List α) (W:World),w.heap.size≤D→S xs→I xs W→W.heap[D]? = some (.deferred (some []))→Q .normal { a with defers:={ target:=.collected D,args:=#[] }::a.defers } W)
  (hstop:∀ (D:Nat) (c:Code) (pre:List α) (W:World),w.heap.size≤D→Sp pre→Ix c pre W→W.heap[D]? = some (.deferred (some []))→c.wpIn F n P Q { a with defers:={ target:=.collected D,args:=#[] }::a.defers } W) :
  (Code.rangeFunc g ps assign body).wpIn F n P Q a w:=by
 refine wpIn_rangeFunc ?_;intro fn hfn;rw [hro];obtain ⟨rec,hrec⟩:∃ rec:LoopState→Option Code→Loop,rec=fun st pe=>{ state:=st,pending:=pe,fn,tmps:=a.tmps,params:=ps,assign,body,defers:=w.heap.size }:=⟨_,rfl⟩
 let R:LoopState→Option Code→World→Prop:=fun st pe W=>W.heap[w.heap.size+1]? = some (.loop (rec st pe))∧W.heap[w.heap.size]? = some (.deferred (some []))
 obtain ⟨W1,hW1⟩:∃ W1,(w.alloc (.deferred (some []))).alloc (.loop (rec .ready none))=W1:=⟨_,rfl⟩
 have hL1:R .ready none W1:=by
  rw [← hW1];refine ⟨?_,(Below.heap_alloc _ _ _ (by simp)).trans (World.alloc_heap_new w _)⟩;have:=World.alloc_heap_new (w.alloc (.deferred (some []))) (.loop (rec .ready none)); rwa [World.size_alloc] at this
 have hI1:I [] W1:=by rw [← hW1]; exact hI.alloc _ (hI.alloc _ h0)
 have hb1:Below w0.heap.size w0 W1:=by
  rw [← hW1]; exact hb0.trans ((((Below.refl _ w).alloc (Nat.le_refl _) _).alloc (by simp) _).mono hb0.size)
 have hRa:∀ st pe A B,R st pe A→Ab A B→R st pe B:=fun st pe A B hR hab=>⟨hAb A B _ _ hab (by omega) hR.1 rfl,hAb A B _ _ hab (Nat.le_refl _) hR.2 rfl⟩
 refine ⟨w.heap.size+1,[{ target:=.collected w.heap.size,args:=#[] }],W1,{ target:=.fn (.func gf) lb,args:=#[.func (.yield (w.heap.size+1)) #[] #[]] },W1,gf,
  #[.func (.yield (w.heap.size+1)) #[] #[]]++lb,W1,?_,?_,?_,?_,fun _=>h1,?_⟩
 ·rw [← hW1,hrec]; exact run_enterLoop_outer _ _ _ _ _
 ·simp only [resolve,hg]
  simp [go_sem]
 ·intro f' hf'; simp [Target.leads] at hf'; subst hf'; exact hFg
 ·simp [invoke,go_sem,eg]
 ·refine (hseq (w.heap.size+1) (fun pre W=>I pre W∧R .ready none W) (fun pre W=>∃ c,Ix c pre W∧R .done (some c) W) W1 hb1
   (fun s A B hs hab=>⟨hIa s A B hs.1 hab,hRa _ _ A B hs.2 hab⟩) ?_ ⟨hI1,hL1⟩).mono ?_
  ·rintro pre x W ⟨hi,hl,hk⟩ hlen
   have hlt:w.heap.size+1<W.heap.size:=(Array.getElem?_eq_some_iff.1 hl).1;have hy:=run_yield (P:=P) (args:=encs x) hl (by rw [hrec]; exact hps x);rw [hrec] at hy;refine ⟨fn,_,assign,body,hy,roundIn_of_wpIn hfn (hassign _ pre x W _ hi ?_)⟩;intro a' W' hkf hkp0 hi hax;have hl:=hkf.same _ _ (by omega) hl rfl;have hk:=hkf.same _ _ (Nat.le_refl _) hk rfl;refine ⟨_,run_beginRound hl (by rw [hrec]),?_⟩;have hlt:w.heap.size+1<W'.heap.size:=(Array.getElem?_eq_some_iff.1 hl).1;have hl2:(W'.putObj (w.heap.size+1) (.loop { rec .ready none with state:=.busy })).heap[w.heap.size+1]? = some (.loop { rec .ready none with state:=.busy }):=World.putObj_heap_same hlt;have hk2:(W'.putObj (w.heap.size+1) (.loop { rec .ready none with state:=.busy })).heap[w.heap.size]? = some (.deferred (some [])):=(World.putObj_heap_other (by omega)).trans hk
   have hw2:Kp W' (W'.putObj (w.heap.size+1) (.loop { rec .ready none with state:=.busy })):=hKb _ _ _ _ (by omega) hl rfl rfl;refine wpIn_mono (hbody _ pre x a' _ (hI.putObj _ hi (by omega) hl rfl) ((hAx a').putObj _ hax (by omega) hl rfl) hlen) ?_
   have fin:∀ (jump:Option Code) (W3:World),KeepsFrom w.heap.size (W'.putObj (w.heap.size+1) (.loop { rec .ready none with state:=.busy })) W3 →
     (Instr.endRound (w.heap.size+1) jump).run P W3=.ok (.bool jump.isNone) (W3.putObj (w.heap.size+1) (.loop (rec (if jump.isNone then .ready else .done) jump))) ∧
     W3.heap[w.heap.size+1]? = some (.loop { rec .ready none with state:=.busy }) ∧
     R (if jump.isNone then .ready else .done) jump (W3.putObj (w.heap.size+1) (.loop (rec (if jump.isNone then .ready else .done) jump))):=fun jump W3 hk3=>by
    have hl3:=hk3.same _ _ (by omega) hl2 rfl;have:=run_endRound (P:=P) jump hl3;rw [hrec] at this hl3 ⊢;exact ⟨this,hl3,by rw [hrec]; exact World.putObj_heap_same (Array.getElem?_eq_some_iff.1 hl3).1,(World.putObj_heap_other (by omega)).trans (hk3.same _ _ (Nat.le_refl _) hk2 rfl)⟩
   rintro e a3 W3 hp
   cases e with
   | normal=>
    obtain ⟨hk3,hkp3,hi3⟩:=hp;obtain ⟨hr,hl3,hR⟩:=fin none W3 hk3;exact ⟨_,_,hr,.inl ⟨rfl,⟨hI.putObj _ hi3 (by omega) hl3 rfl,hR⟩,hKt (hKt (hKt hkp0 hw2) hkp3) (hKb _ _ _ _ (by omega) hl3 rfl rfl)⟩⟩
   | ret=>
    obtain ⟨hk3,hi3⟩:=hp;obtain ⟨hr,hl3,hR⟩:=fin (some .ret) W3 hk3;exact ⟨_,_,hr,.inr ⟨rfl,.ret,(hIx _).putObj _ hi3 (by omega) hl3 rfl,hR⟩⟩
   | exit id=>
    obtain ⟨hk3,hi3⟩:=hp;obtain ⟨hr,hl3,hR⟩:=fin (some (.exit id)) W3 hk3;exact ⟨_,_,hr,.inr ⟨rfl,.exit id,(hIx _).putObj _ hi3 (by omega) hl3 rfl,hR⟩⟩
   | goto t=>
    obtain ⟨hk3,hi3⟩:=hp;obtain ⟨hr,hl3,hR⟩:=fin (some (.goto t)) W3 hk3;exact ⟨_,_,hr,.inr ⟨rfl,.goto t,(hIx _).putObj _ hi3 (by omega) hl3 rfl,hR⟩⟩
   | panic ch=>exact hp.elim
   | outgrown=>exact hp.elim
  ·rintro e W2 ⟨⟨v,rfl⟩,(⟨xs,hS,hi,hl,hk⟩ | ⟨pre,hSp,c,hi,hl,hk⟩)⟩
   ·exact ⟨none,_,by have:=run_endLoop (P:=P) hl (by rw [hrec]; simp); rw [hrec] at this; exact this,hdone _ xs _ (Nat.le_refl _) hS (hI.putObj _ hi (by omega) hl rfl) ((World.putObj_heap_other (by omega)).trans hk)⟩
   ·exact ⟨some c,_,by have:=run_endLoop (P:=P) hl (by rw [hrec]; simp); rw [hrec] at this; exact this,hstop _ c pre _ (Nat.le_refl _) hSp ((hIx c).putObj _ hi (by omega) hl rfl) ((World.putObj_heap_other (by omega)).trans hk)⟩

#print axioms wpIn_rangeFunc_ac
end
end Go.Proofs.YtkpjdanfpolimaaGreat
