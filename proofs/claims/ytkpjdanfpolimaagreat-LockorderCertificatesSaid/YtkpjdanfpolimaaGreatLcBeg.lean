/- lockorder's begin, walked. Conditions: the program lies in memory, it is valid. -/
import Derived.Test.YtkpjdanfpolimaaGreatLcLoT
set_option linter.unusedSimpArgs false
set_option maxRecDepth 100000
set_option maxHeartbeats 6400000
namespace Go.Proofs.YtkpjdanfpolimaaGreat
open Go.RowKit Go.Shelf
theorem Beg.hdR {p:Prg} {lo A E Wn N F:Nat} {rb bb:Nat→Nat} {vR vB:Value} {j m:Nat} {al cl:BS} {W W':World} (h:Beg p lo A E Wn N F rb bb vR vB j m al cl W) (hg:W.grownBy W' vR.ownBlock):W'.heap[A]? = W.heap[A]?:=by
 obtain ⟨t,ht⟩:=h.tag;exact hg.block _ h.hlt (fun e=>by have:=ht.r A e.symm; rw [ht.a] at this; cases this)
theorem Beg.hdB {p:Prg} {lo A E Wn N F:Nat} {rb bb:Nat→Nat} {vR vB:Value} {j m:Nat} {al cl:BS} {W W':World} (h:Beg p lo A E Wn N F rb bb vR vB j m al cl W) (hg:W.grownBy W' vB.ownBlock):W'.heap[A]? = W.heap[A]?:=by
 obtain ⟨t,ht⟩:=h.tag;exact hg.block _ h.hlt (fun e=>by have:=ht.b A e.symm; rw [ht.a] at this; cases this)
theorem boolsInfo:(Tryz.prog.info? 82).map (fun i=>(i.zero,i.size,i.bytes))=some (some (.slice none 0 0),1,24):=by kernel_rfl
theorem setsInfo:(Tryz.prog.info? 79).map (fun i=>(i.zero,i.size,i.bytes))=some (some (.slice none 0 0),1,24):=by kernel_rfl
def accS (p:Prg) (cd:List Ins) (s:BS):BS:=cd.foldl (fun s i=>s ||| acqBit p i) s
def cleS (p:Prg) (b:Bool) (cd:List Ins) (s:BS):BS:=cd.foldl (fun s i=>if b then s ||| acqBit p i else s) s
def allTo (p:Prg) (j:Nat):BS:=(p.funs.take j).foldl (fun s f=>accS p f.code s) 0
def cleTo (p:Prg) (j:Nat):BS:=(p.funs.take j).foldl (fun s f=>cleS p f.clean f.code s) 0
theorem take_one {α:Type} (l:List α) (k:Nat) (h:k<l.length):l.take (k+1)=l.take k++[l[k]]:=by rw [List.take_add_one,List.getElem?_eq_getElem h]; rfl
theorem allTo_succ {p:Prg} {j:Nat} (hj:j<p.funs.length):allTo p (j+1)=accS p (p.fn j).code (allTo p j):=by
 unfold allTo; rw [fn_eq hj,take_one _ _ hj,List.foldl_append]; rfl
theorem cleTo_succ {p:Prg} {j:Nat} (hj:j<p.funs.length):cleTo p (j+1)=cleS p (p.fn j).clean (p.fn j).code (cleTo p j):=by
 unfold cleTo; rw [fn_eq hj,take_one _ _ hj,List.foldl_append]; rfl
theorem accS_succ {p:Prg} {f k:Nat} (hk:k<p.len f) (s:BS):accS p ((p.fn f).code.take (k+1)) s=accS p ((p.fn f).code.take k) s ||| acqBit p (p.ins f k):=by
 have hk':k<(p.fn f).code.length:=hk;unfold accS; rw [take_one _ _ hk',List.foldl_append];simp [Prg.ins,Fn.ins,List.getD_eq_getElem?_getD,hk']
theorem cleS_succ {p:Prg} {f k:Nat} (hk:k<p.len f) (b:Bool) (s:BS):cleS p b ((p.fn f).code.take (k+1)) s=if b then cleS p b ((p.fn f).code.take k) s ||| acqBit p (p.ins f k) else cleS p b ((p.fn f).code.take k) s:=by
 have hk':k<(p.fn f).code.length:=hk;unfold cleS; rw [take_one _ _ hk',List.foldl_append];simp [Prg.ins,Fn.ins,List.getD_eq_getElem?_getD,hk']
theorem allM_eq (p:Prg):allTo p p.funs.length=allM p:=by unfold allTo allM accS; rw [List.take_length]
theorem cleanM_eq (p:Prg):cleTo p p.funs.length=cleanM p:=by unfold cleTo cleanM cleS; rw [List.take_length]
theorem step_append_run {P:Program} {ops:Array Oper} {o:Oper} {a:Act} {w w':World} {K:Act→World→Prop} {Q:Exit→Act→World→Prop} {E:Prop} {v' v y:Value}
  (hg:o.guard=none) (s x:Operand) (t:TypeId) (hop:o.op=Op.call { callee:=Callee.builtin Builtin.append,args:=#[s,x],argTypes:=#[t,t] }) (hs:a.eval s=v) (hx:a.eval x=y)
  (hrun:(Builtin.append_ #[t,t] o.type #[v,y]).run P w=.ok v' w') (h:K (a.put o.dst v') w'):if Region.wanted o (yielded ops a.tmps)=true then Oper.wp P o a w K Q else E:=by
 rw [if_pos (by simp [Region.wanted,hg])];unfold Oper.wp;simp [execOp,hop,resolve,invoke,builtin,hs,hx,hrun,Result.andThen];exact h
theorem five (w:World) (o1 o2 o3 o4 o5:Obj):let W:=(((((w.alloc o1).alloc o2).alloc o3).alloc o4).alloc o5).drew
  W.heap[w.heap.size]? = some o1∧W.heap[w.heap.size+1]? = some o2∧W.heap[w.heap.size+1+1]? = some o3∧W.heap[w.heap.size+1+1+1]? = some o4∧W.heap[w.heap.size+1+1+1+1]? = some o5∧Below w.heap.size w W:=by
 refine ⟨?_,?_,?_,?_,?_,?_⟩
 ·show (((((w.heap.push o1).push o2).push o3).push o4).push o5)[_]? = _; simp only [Array.getElem?_push,Array.size_push]; repeat rw [if_neg (by omega)]
  rw [if_pos trivial]
 ·show (((((w.heap.push o1).push o2).push o3).push o4).push o5)[_]? = _; simp only [Array.getElem?_push,Array.size_push]; repeat rw [if_neg (by omega)]
  rw [if_pos trivial]
 ·show (((((w.heap.push o1).push o2).push o3).push o4).push o5)[_]? = _; simp only [Array.getElem?_push,Array.size_push]; repeat rw [if_neg (by omega)]
  rw [if_pos trivial]
 ·show (((((w.heap.push o1).push o2).push o3).push o4).push o5)[_]? = _; simp only [Array.getElem?_push,Array.size_push]; repeat rw [if_neg (by omega)]
  rw [if_pos trivial]
 ·show (((((w.heap.push o1).push o2).push o3).push o4).push o5)[_]? = _; simp only [Array.getElem?_push,Array.size_push]; repeat rw [if_neg (by omega)]
  rw [if_pos trivial]
 ·exact ((((below_alloc _ _).trans (below_alloc2 (by simp) _)).trans (below_alloc2 (by simp; omega) _)).trans (below_alloc2 (by simp; omega) _) |>.trans (below_alloc2 (by simp; omega) _)).drew
theorem row_made {W:World} {b t n:Nat} {z z':Value} (e:z'=z) (h:W.heap[b]? = some (.cells (madeCells #[z] n) t)):W.rowIs b t n (fun _=>z'):=by
 subst e;exact ⟨_,h,size_madeCells _ _,fun i hi=>by simp [madeCells,hi,Nat.mod_one]⟩
theorem begLeaf {p:Prg} {w1:World} {o1 o2 o3 o4:Obj} {q:Array Value} (e f g h:Nat) (he:[o1,o2,o3,o4][e]? = some (.cells (madeCells #[.bool false] p.funs.length) 4)) (hf:[o1,o2,o3,o4][f]? = some (.cells (madeCells #[.int .u32 0] p.funs.length) 84))
  (hg:[o1,o2,o3,o4][g]? = some (.cells (madeCells #[.bool false] p.funs.length) 4)) (hh:[o1,o2,o3,o4][h]? = some (.cells (madeCells #[.int .u32 0] p.funs.length) 84)) (hd:e≠f∧e≠g∧e≠h∧f≠g∧f≠h∧g≠h)
  (hq:q=bCells p (w1.heap.size+e) (w1.heap.size+f) (w1.heap.size+g) (w1.heap.size+h) 0 0 (.slice none 0 0) (.slice none 0 0)) :
  Beg p w1.heap.size (w1.heap.size+4) (w1.heap.size+e) (w1.heap.size+f) (w1.heap.size+g) (w1.heap.size+h) (fun _=>0) (fun _=>0) (.slice none 0 0) (.slice none 0 0) 0 0 0 0 (((((w1.alloc o1).alloc o2).alloc o3).alloc o4).alloc (.cells q 88)).drew ∧
   Below w1.heap.size w1 (((((w1.alloc o1).alloc o2).alloc o3).alloc o4).alloc (.cells q 88)).drew:=by
 have F:=five w1 o1 o2 o3 o4 (.cells q 88)
 have H:∀ i o,[o1,o2,o3,o4][i]? = some o→(((((w1.alloc o1).alloc o2).alloc o3).alloc o4).alloc (.cells q 88)).drew.heap[w1.heap.size+i]? = some o:=fun i o hi=>by
  match i,hi with
  | 0,hi=>injection hi with hi; subst hi; exact F.1
  | 1,hi=>injection hi with hi; subst hi; exact F.2.1
  | 2,hi=>injection hi with hi; subst hi; exact F.2.2.1
  | 3,hi=>injection hi with hi; subst hi; exact F.2.2.2.1
  | n+4,hi=>simp at hi
 have l1:e<4:=(List.getElem?_eq_some_iff.1 he).1;have l2:f<4:=(List.getElem?_eq_some_iff.1 hf).1;have l3:g<4:=(List.getElem?_eq_some_iff.1 hg).1;have l4:h<4:=(List.getElem?_eq_some_iff.1 hh).1;exact ⟨Beg.first ⟨by omega,by omega,by omega,by omega,by omega,by omega,by omega,by omega,by omega,by omega⟩ ⟨by omega,by omega,by omega,by omega,by omega⟩ (by rw [← hq]; exact F.2.2.2.2.1) (row_made rfl (H e _ he)) (row_made rfl (H f _ hf)) (row_made rfl (H g _ hg)) (row_made rfl (H h _ hh)),F.2.2.2.2.2⟩
theorem begin_any (p:Prg) (hv:prgOk p) (w:World) (h:Lies w w.heap.size p):Calls Tryz.prog 66 #[p.val] w (Begun p w):=by
 have hW:=wf_of hv;have hn:=hW.funs;obtain ⟨i0,hiR,hzR⟩:=Option.map_eq_some_iff.1 boolsInfo;have hz0R:i0.zero=some (.slice none 0 0):=congrArg (fun t=>t.1) hzR;have hz1R:i0.size=1:=congrArg (fun t=>t.2.1) hzR;have hz2R:i0.bytes=24:=congrArg (fun t=>t.2.2) hzR;obtain ⟨i1,hiB,hzB⟩:=Option.map_eq_some_iff.1 setsInfo;have hz0B:i1.zero=some (.slice none 0 0):=congrArg (fun t=>t.1) hzB;have hz1B:i1.size=1:=congrArg (fun t=>t.2.1) hzB;have hz2B:i1.bytes=24:=congrArg (fun t=>t.2.2) hzB;clear hzR hzB;have HAC:=hid (fun (W:World) (hb:Below w.heap.size w W) (i:Ins) (hi:i.op=57→Idx i.a p.obs.length)=>acq_any p i hi W (h.next hb));have HLI:=hid h;obtain ⟨b,off,hA,hbl,-⟩:=h.fn hn.1
 have hmkB:=fun W=>run_make_row' (P:=Tryz.prog) 82 4 (.bool false) 1 Tryz.underlying82 (by kernel_rfl) rfl .i64 .i64 p.funs.length (by omega) (by omega) W
 have hmkS:=fun W=>run_make_row' (P:=Tryz.prog) 79 84 (.int .u32 0) 4 Tryz.underlying79 (by kernel_rfl) rfl .i64 .i64 p.funs.length (by omega) (by omega) W
 unfold Prg.val at HAC ⊢;rw [hA] at HAC ⊢;have HA:=hid hA;clear h hA;have hT:=one_new w #[.slice (some ⟨b,off,none⟩) p.funs.length p.funC,.slice p.obA p.obs.length p.obC,.slice p.vrA p.vrs.length p.vrC] 26;go_enter Tryz.func66,Tryz.ntmps66;go_upto_region 1 with fail;generalize w.alloc _=w1 at hT ⊢;obtain ⟨x0,x1,x2⟩:=bx3 hT.fst;go_upto_region 2 with fail
 -- REGION 2
 have HK:Hid (∀ (W:World) (q:Obj),(W.cell? ⟨w.heap.size,0,none⟩=some (.slice (some ⟨b,off,none⟩) p.funs.length p.funC)∧W.cell? ⟨w.heap.size,1,none⟩=some (.slice p.obA p.obs.length p.obC)∧W.cell? ⟨w.heap.size,2,none⟩=some (.slice p.vrA p.vrs.length p.vrC))→((W.alloc q).cell? ⟨w.heap.size,0,none⟩=some (.slice (some ⟨b,off,none⟩) p.funs.length p.funC)∧(W.alloc q).cell? ⟨w.heap.size,1,none⟩=some (.slice p.obA p.obs.length p.obC)∧(W.alloc q).cell? ⟨w.heap.size,2,none⟩=some (.slice p.vrA p.vrs.length p.vrC))):=hid (fun W q h=>⟨((below_alloc W q).cell (block_lt_of_cell h.1)).trans h.1,((below_alloc W q).cell (block_lt_of_cell h.2.1)).trans h.2.1,((below_alloc W q).cell (block_lt_of_cell h.2.2)).trans h.2.2⟩)
 have HCE:Hid (∀ E Wn N F:Nat,#[.slice (some ⟨b,off,none⟩) p.funs.length p.funC,.slice p.obA p.obs.length p.obC,.slice p.vrA p.vrs.length p.vrC,.int .u32 0,.int .u32 0,.slice (some ⟨E,0,none⟩) p.funs.length p.funs.length,.slice (some ⟨Wn,0,none⟩) p.funs.length p.funs.length,.slice (some ⟨N,0,none⟩) p.funs.length p.funs.length,.slice (some ⟨F,0,none⟩) p.funs.length p.funs.length,.slice none 0 0,.slice none 0 0,.bool false]=bCells p E Wn N F 0 0 (.slice none 0 0) (.slice none 0 0)):=hid (fun E Wn N F=>by unfold bCells; rw [HA.out]; rfl)
 refine wp_mono (Q:=fun e a W=>e=.normal∧∃ (A E Wn N F:Nat) (u14 u15 u16 u17 u18 u19 u20 u21 u22 u23 u24:Value),a=⟨((.agg #[.slice (some ⟨b,off,none⟩) p.funs.length p.funC,.slice p.obA p.obs.length p.obC,.slice p.vrA p.vrs.length p.vrC]:Value)::.pointer (some ⟨w.heap.size,0,none⟩)::.pointer none::.int .i64 p.funs.length::.pointer (some ⟨A,0,none⟩)::undef::undef::undef::undef::undef::undef::.pointer (some ⟨w.heap.size,0,none⟩)::.slice (some ⟨b,off,none⟩) p.funs.length p.funC::.int .i64 p.funs.length::u14::u15::u16::u17::u18::u19::u20::u21::u22::u23::u24::undef::undef::undef::undef::undef::undef::undef::undef::undef::undef::undef::undef::undef::undef::undef::undef::undef::undef::undef::undef::undef::undef::undef::undef::undef::undef::undef::undef::undef::undef::undef::undef::undef::undef::undef::undef::undef::undef::undef::undef::undef::undef::undef::undef::undef::undef::undef::undef::undef::undef::undef::undef::undef::undef::undef::undef::undef::undef::undef::undef::undef::undef::undef::undef::undef::undef::undef::undef::undef::undef::[]).toArray,[]⟩∧Beg p w1.heap.size A E Wn N F (fun _=>0) (fun _=>0) (.slice none 0 0) (.slice none 0 0) 0 0 0 0 W∧Below w1.heap.size w1 W) ?_ ?_
 ·refine wp_region_held_drew (S:=fun w'=>w'.cell? ⟨w.heap.size,0,none⟩=some (.slice (some ⟨b,off,none⟩) p.funs.length p.funC)∧w'.cell? ⟨w.heap.size,1,none⟩=some (.slice p.obA p.obs.length p.obC)∧w'.cell? ⟨w.heap.size,2,none⟩=some (.slice p.vrA p.vrs.length p.vrC)) (by kernel_rfl) ⟨x0,x1,x2⟩ (fun hHeld=>?_)
  refine tkH 0 rfl ?_;try simp only [frS,Act.put]
  refine tkH 1 rfl ?_;try simp only [frS,Act.put]
  refine tkH 3 rfl ?_;try simp only [frS,Act.put]
  refine tkH 5 rfl ?_;try simp only [frS,Act.put]
  refine tkH 7 rfl ?_;try simp only [frS,Act.put]
  refine wpAnyH_ready (rs:=[2,4,6,8]) (by kernel_rfl) (by simp) ?_;refine (AllReadyH.cons rfl (fun K hK=>?_) (AllReadyH.cons rfl (fun K hK=>?_) (AllReadyH.cons rfl (fun K hK=>?_) (AllReadyH.cons rfl (fun K hK=>?_) AllReadyH.nil))))
  ·go_simp
   refine hK.out _ _ ?_ (fun hHeld=>?_)
   ·exact HK.out _ _ hHeld
   clear hK K;try simp only [frS,Act.put]
   refine wpAnyH_ready (rs:=[4,6,8]) (by kernel_rfl) (by simp) ?_;refine (AllReadyH.cons rfl (fun K hK=>?_) (AllReadyH.cons rfl (fun K hK=>?_) (AllReadyH.cons rfl (fun K hK=>?_) AllReadyH.nil)))
   ·go_simp
    refine hK.out _ _ ?_ (fun hHeld=>?_)
    ·exact HK.out _ _ hHeld
    clear hK K;try simp only [frS,Act.put]
    refine wpAnyH_ready (rs:=[6,8]) (by kernel_rfl) (by simp) ?_;refine (AllReadyH.cons rfl (fun K hK=>?_) (AllReadyH.cons rfl (fun K hK=>?_) AllReadyH.nil))
    ·go_simp
     refine hK.out _ _ ?_ (fun hHeld=>?_)
     ·exact HK.out _ _ hHeld
     clear hK K;try simp only [frS,Act.put]
     refine rdH 8 rfl fun K hK=>?_
     ·go_simp
      refine hK.out _ _ ?_ (fun hHeld=>?_)
      ·exact HK.out _ _ hHeld
      clear hK K;try simp only [frS,Act.put]
      refine tkH 9 rfl ?_;try simp only [frS,Act.put]
      refine rdH 10 rfl fun K hK=>?_
      go_simp;refine hK.out _ _ ?_ (fun hHeld=>?_)
      ·exact HK.out _ _ hHeld
      clear hK K;try simp only [frS,Act.put]
      refine tkH 11 rfl ?_;try simp only [frS,Act.put]
      refine wpAnyH_done (by kernel_rfl) ?_ _;exact ⟨rfl,_,_,_,_,_,_,_,_,_,_,_,_,_,_,_,_,rfl,begLeaf 0 1 2 3 rfl rfl rfl rfl (by decide) (HCE.out _ _ _ _)⟩
    ·go_simp
     refine hK.out _ _ ?_ (fun hHeld=>?_)
     ·exact HK.out _ _ hHeld
     clear hK K;try simp only [frS,Act.put]
     refine rdH 6 rfl fun K hK=>?_
     ·go_simp
      refine hK.out _ _ ?_ (fun hHeld=>?_)
      ·exact HK.out _ _ hHeld
      clear hK K;try simp only [frS,Act.put]
      refine tkH 9 rfl ?_;try simp only [frS,Act.put]
      refine rdH 10 rfl fun K hK=>?_
      go_simp;refine hK.out _ _ ?_ (fun hHeld=>?_)
      ·exact HK.out _ _ hHeld
      clear hK K;try simp only [frS,Act.put]
      refine tkH 11 rfl ?_;try simp only [frS,Act.put]
      refine wpAnyH_done (by kernel_rfl) ?_ _;exact ⟨rfl,_,_,_,_,_,_,_,_,_,_,_,_,_,_,_,_,rfl,begLeaf 0 1 3 2 rfl rfl rfl rfl (by decide) (HCE.out _ _ _ _)⟩
   ·go_simp
    refine hK.out _ _ ?_ (fun hHeld=>?_)
    ·exact HK.out _ _ hHeld
    clear hK K;try simp only [frS,Act.put]
    refine wpAnyH_ready (rs:=[4,8]) (by kernel_rfl) (by simp) ?_;refine (AllReadyH.cons rfl (fun K hK=>?_) (AllReadyH.cons rfl (fun K hK=>?_) AllReadyH.nil))
    ·go_simp
     refine hK.out _ _ ?_ (fun hHeld=>?_)
     ·exact HK.out _ _ hHeld
     clear hK K;try simp only [frS,Act.put]
     refine rdH 8 rfl fun K hK=>?_
     ·go_simp
      refine hK.out _ _ ?_ (fun hHeld=>?_)
      ·exact HK.out _ _ hHeld
      clear hK K;try simp only [frS,Act.put]
      refine tkH 9 rfl ?_;try simp only [frS,Act.put]
      refine rdH 10 rfl fun K hK=>?_
      go_simp;refine hK.out _ _ ?_ (fun hHeld=>?_)
      ·exact HK.out _ _ hHeld
      clear hK K;try simp only [frS,Act.put]
      refine tkH 11 rfl ?_;try simp only [frS,Act.put]
      refine wpAnyH_done (by kernel_rfl) ?_ _;exact ⟨rfl,_,_,_,_,_,_,_,_,_,_,_,_,_,_,_,_,rfl,begLeaf 0 2 1 3 rfl rfl rfl rfl (by decide) (HCE.out _ _ _ _)⟩
    ·go_simp
     refine hK.out _ _ ?_ (fun hHeld=>?_)
     ·exact HK.out _ _ hHeld
     clear hK K;try simp only [frS,Act.put]
     refine rdH 4 rfl fun K hK=>?_
     ·go_simp
      refine hK.out _ _ ?_ (fun hHeld=>?_)
      ·exact HK.out _ _ hHeld
      clear hK K;try simp only [frS,Act.put]
      refine tkH 9 rfl ?_;try simp only [frS,Act.put]
      refine rdH 10 rfl fun K hK=>?_
      go_simp;refine hK.out _ _ ?_ (fun hHeld=>?_)
      ·exact HK.out _ _ hHeld
      clear hK K;try simp only [frS,Act.put]
      refine tkH 11 rfl ?_;try simp only [frS,Act.put]
      refine wpAnyH_done (by kernel_rfl) ?_ _;exact ⟨rfl,_,_,_,_,_,_,_,_,_,_,_,_,_,_,_,_,rfl,begLeaf 0 3 1 2 rfl rfl rfl rfl (by decide) (HCE.out _ _ _ _)⟩
   ·go_simp
    refine hK.out _ _ ?_ (fun hHeld=>?_)
    ·exact HK.out _ _ hHeld
    clear hK K;try simp only [frS,Act.put]
    refine wpAnyH_ready (rs:=[4,6]) (by kernel_rfl) (by simp) ?_;refine (AllReadyH.cons rfl (fun K hK=>?_) (AllReadyH.cons rfl (fun K hK=>?_) AllReadyH.nil))
    ·go_simp
     refine hK.out _ _ ?_ (fun hHeld=>?_)
     ·exact HK.out _ _ hHeld
     clear hK K;try simp only [frS,Act.put]
     refine rdH 6 rfl fun K hK=>?_
     ·go_simp
      refine hK.out _ _ ?_ (fun hHeld=>?_)
      ·exact HK.out _ _ hHeld
      clear hK K;try simp only [frS,Act.put]
      refine tkH 9 rfl ?_;try simp only [frS,Act.put]
      refine rdH 10 rfl fun K hK=>?_
      go_simp;refine hK.out _ _ ?_ (fun hHeld=>?_)
      ·exact HK.out _ _ hHeld
      clear hK K;try simp only [frS,Act.put]
      refine tkH 11 rfl ?_;try simp only [frS,Act.put]
      refine wpAnyH_done (by kernel_rfl) ?_ _;exact ⟨rfl,_,_,_,_,_,_,_,_,_,_,_,_,_,_,_,_,rfl,begLeaf 0 2 3 1 rfl rfl rfl rfl (by decide) (HCE.out _ _ _ _)⟩
    ·go_simp
     refine hK.out _ _ ?_ (fun hHeld=>?_)
     ·exact HK.out _ _ hHeld
     clear hK K;try simp only [frS,Act.put]
     refine rdH 4 rfl fun K hK=>?_
     ·go_simp
      refine hK.out _ _ ?_ (fun hHeld=>?_)
      ·exact HK.out _ _ hHeld
      clear hK K;try simp only [frS,Act.put]
      refine tkH 9 rfl ?_;try simp only [frS,Act.put]
      refine rdH 10 rfl fun K hK=>?_
      go_simp;refine hK.out _ _ ?_ (fun hHeld=>?_)
      ·exact HK.out _ _ hHeld
      clear hK K;try simp only [frS,Act.put]
      refine tkH 11 rfl ?_;try simp only [frS,Act.put]
      refine wpAnyH_done (by kernel_rfl) ?_ _;exact ⟨rfl,_,_,_,_,_,_,_,_,_,_,_,_,_,_,_,_,rfl,begLeaf 0 3 2 1 rfl rfl rfl rfl (by decide) (HCE.out _ _ _ _)⟩
  ·go_simp
   refine hK.out _ _ ?_ (fun hHeld=>?_)
   ·exact HK.out _ _ hHeld
   clear hK K;try simp only [frS,Act.put]
   refine wpAnyH_ready (rs:=[2,6,8]) (by kernel_rfl) (by simp) ?_;refine (AllReadyH.cons rfl (fun K hK=>?_) (AllReadyH.cons rfl (fun K hK=>?_) (AllReadyH.cons rfl (fun K hK=>?_) AllReadyH.nil)))
   ·go_simp
    refine hK.out _ _ ?_ (fun hHeld=>?_)
    ·exact HK.out _ _ hHeld
    clear hK K;try simp only [frS,Act.put]
    refine wpAnyH_ready (rs:=[6,8]) (by kernel_rfl) (by simp) ?_;refine (AllReadyH.cons rfl (fun K hK=>?_) (AllReadyH.cons rfl (fun K hK=>?_) AllReadyH.nil))
    ·go_simp
     refine hK.out _ _ ?_ (fun hHeld=>?_)
     ·exact HK.out _ _ hHeld
     clear hK K;try simp only [frS,Act.put]
     refine rdH 8 rfl fun K hK=>?_
     ·go_simp
      refine hK.out _ _ ?_ (fun hHeld=>?_)
      ·exact HK.out _ _ hHeld
      clear hK K;try simp only [frS,Act.put]
      refine tkH 9 rfl ?_;try simp only [frS,Act.put]
      refine rdH 10 rfl fun K hK=>?_
      go_simp;refine hK.out _ _ ?_ (fun hHeld=>?_)
      ·exact HK.out _ _ hHeld
      clear hK K;try simp only [frS,Act.put]
      refine tkH 11 rfl ?_;try simp only [frS,Act.put]
      refine wpAnyH_done (by kernel_rfl) ?_ _;exact ⟨rfl,_,_,_,_,_,_,_,_,_,_,_,_,_,_,_,_,rfl,begLeaf 1 0 2 3 rfl rfl rfl rfl (by decide) (HCE.out _ _ _ _)⟩
    ·go_simp
     refine hK.out _ _ ?_ (fun hHeld=>?_)
     ·exact HK.out _ _ hHeld
     clear hK K;try simp only [frS,Act.put]
     refine rdH 6 rfl fun K hK=>?_
     ·go_simp
      refine hK.out _ _ ?_ (fun hHeld=>?_)
      ·exact HK.out _ _ hHeld
      clear hK K;try simp only [frS,Act.put]
      refine tkH 9 rfl ?_;try simp only [frS,Act.put]
      refine rdH 10 rfl fun K hK=>?_
      go_simp;refine hK.out _ _ ?_ (fun hHeld=>?_)
      ·exact HK.out _ _ hHeld
      clear hK K;try simp only [frS,Act.put]
      refine tkH 11 rfl ?_;try simp only [frS,Act.put]
      refine wpAnyH_done (by kernel_rfl) ?_ _;exact ⟨rfl,_,_,_,_,_,_,_,_,_,_,_,_,_,_,_,_,rfl,begLeaf 1 0 3 2 rfl rfl rfl rfl (by decide) (HCE.out _ _ _ _)⟩
   ·go_simp
    refine hK.out _ _ ?_ (fun hHeld=>?_)
    ·exact HK.out _ _ hHeld
    clear hK K;try simp only [frS,Act.put]
    refine wpAnyH_ready (rs:=[2,8]) (by kernel_rfl) (by simp) ?_;refine (AllReadyH.cons rfl (fun K hK=>?_) (AllReadyH.cons rfl (fun K hK=>?_) AllReadyH.nil))
    ·go_simp
     refine hK.out _ _ ?_ (fun hHeld=>?_)
     ·exact HK.out _ _ hHeld
     clear hK K;try simp only [frS,Act.put]
     refine rdH 8 rfl fun K hK=>?_
     ·go_simp
      refine hK.out _ _ ?_ (fun hHeld=>?_)
      ·exact HK.out _ _ hHeld
      clear hK K;try simp only [frS,Act.put]
      refine tkH 9 rfl ?_;try simp only [frS,Act.put]
      refine rdH 10 rfl fun K hK=>?_
      go_simp;refine hK.out _ _ ?_ (fun hHeld=>?_)
      ·exact HK.out _ _ hHeld
      clear hK K;try simp only [frS,Act.put]
      refine tkH 11 rfl ?_;try simp only [frS,Act.put]
      refine wpAnyH_done (by kernel_rfl) ?_ _;exact ⟨rfl,_,_,_,_,_,_,_,_,_,_,_,_,_,_,_,_,rfl,begLeaf 2 0 1 3 rfl rfl rfl rfl (by decide) (HCE.out _ _ _ _)⟩
    ·go_simp
     refine hK.out _ _ ?_ (fun hHeld=>?_)
     ·exact HK.out _ _ hHeld
     clear hK K;try simp only [frS,Act.put]
     refine rdH 2 rfl fun K hK=>?_
     ·go_simp
      refine hK.out _ _ ?_ (fun hHeld=>?_)
      ·exact HK.out _ _ hHeld
      clear hK K;try simp only [frS,Act.put]
      refine tkH 9 rfl ?_;try simp only [frS,Act.put]
      refine rdH 10 rfl fun K hK=>?_
      go_simp;refine hK.out _ _ ?_ (fun hHeld=>?_)
      ·exact HK.out _ _ hHeld
      clear hK K;try simp only [frS,Act.put]
      refine tkH 11 rfl ?_;try simp only [frS,Act.put]
      refine wpAnyH_done (by kernel_rfl) ?_ _;exact ⟨rfl,_,_,_,_,_,_,_,_,_,_,_,_,_,_,_,_,rfl,begLeaf 3 0 1 2 rfl rfl rfl rfl (by decide) (HCE.out _ _ _ _)⟩
   ·go_simp
    refine hK.out _ _ ?_ (fun hHeld=>?_)
    ·exact HK.out _ _ hHeld
    clear hK K;try simp only [frS,Act.put]
    refine wpAnyH_ready (rs:=[2,6]) (by kernel_rfl) (by simp) ?_;refine (AllReadyH.cons rfl (fun K hK=>?_) (AllReadyH.cons rfl (fun K hK=>?_) AllReadyH.nil))
    ·go_simp
     refine hK.out _ _ ?_ (fun hHeld=>?_)
     ·exact HK.out _ _ hHeld
     clear hK K;try simp only [frS,Act.put]
     refine rdH 6 rfl fun K hK=>?_
     ·go_simp
      refine hK.out _ _ ?_ (fun hHeld=>?_)
      ·exact HK.out _ _ hHeld
      clear hK K;try simp only [frS,Act.put]
      refine tkH 9 rfl ?_;try simp only [frS,Act.put]
      refine rdH 10 rfl fun K hK=>?_
      go_simp;refine hK.out _ _ ?_ (fun hHeld=>?_)
      ·exact HK.out _ _ hHeld
      clear hK K;try simp only [frS,Act.put]
      refine tkH 11 rfl ?_;try simp only [frS,Act.put]
      refine wpAnyH_done (by kernel_rfl) ?_ _;exact ⟨rfl,_,_,_,_,_,_,_,_,_,_,_,_,_,_,_,_,rfl,begLeaf 2 0 3 1 rfl rfl rfl rfl (by decide) (HCE.out _ _ _ _)⟩
    ·go_simp
     refine hK.out _ _ ?_ (fun hHeld=>?_)
     ·exact HK.out _ _ hHeld
     clear hK K;try simp only [frS,Act.put]
     refine rdH 2 rfl fun K hK=>?_
     ·go_simp
      refine hK.out _ _ ?_ (fun hHeld=>?_)
      ·exact HK.out _ _ hHeld
      clear hK K;try simp only [frS,Act.put]
      refine tkH 9 rfl ?_;try simp only [frS,Act.put]
      refine rdH 10 rfl fun K hK=>?_
      go_simp;refine hK.out _ _ ?_ (fun hHeld=>?_)
      ·exact HK.out _ _ hHeld
      clear hK K;try simp only [frS,Act.put]
      refine tkH 11 rfl ?_;try simp only [frS,Act.put]
      refine wpAnyH_done (by kernel_rfl) ?_ _;exact ⟨rfl,_,_,_,_,_,_,_,_,_,_,_,_,_,_,_,_,rfl,begLeaf 3 0 2 1 rfl rfl rfl rfl (by decide) (HCE.out _ _ _ _)⟩
  ·go_simp
   refine hK.out _ _ ?_ (fun hHeld=>?_)
   ·exact HK.out _ _ hHeld
   clear hK K;try simp only [frS,Act.put]
   refine wpAnyH_ready (rs:=[2,4,8]) (by kernel_rfl) (by simp) ?_;refine (AllReadyH.cons rfl (fun K hK=>?_) (AllReadyH.cons rfl (fun K hK=>?_) (AllReadyH.cons rfl (fun K hK=>?_) AllReadyH.nil)))
   ·go_simp
    refine hK.out _ _ ?_ (fun hHeld=>?_)
    ·exact HK.out _ _ hHeld
    clear hK K;try simp only [frS,Act.put]
    refine wpAnyH_ready (rs:=[4,8]) (by kernel_rfl) (by simp) ?_;refine (AllReadyH.cons rfl (fun K hK=>?_) (AllReadyH.cons rfl (fun K hK=>?_) AllReadyH.nil))
    ·go_simp
     refine hK.out _ _ ?_ (fun hHeld=>?_)
     ·exact HK.out _ _ hHeld
     clear hK K;try simp only [frS,Act.put]
     refine rdH 8 rfl fun K hK=>?_
     ·go_simp
      refine hK.out _ _ ?_ (fun hHeld=>?_)
      ·exact HK.out _ _ hHeld
      clear hK K;try simp only [frS,Act.put]
      refine tkH 9 rfl ?_;try simp only [frS,Act.put]
      refine rdH 10 rfl fun K hK=>?_
      go_simp;refine hK.out _ _ ?_ (fun hHeld=>?_)
      ·exact HK.out _ _ hHeld
      clear hK K;try simp only [frS,Act.put]
      refine tkH 11 rfl ?_;try simp only [frS,Act.put]
      refine wpAnyH_done (by kernel_rfl) ?_ _;exact ⟨rfl,_,_,_,_,_,_,_,_,_,_,_,_,_,_,_,_,rfl,begLeaf 1 2 0 3 rfl rfl rfl rfl (by decide) (HCE.out _ _ _ _)⟩
    ·go_simp
     refine hK.out _ _ ?_ (fun hHeld=>?_)
     ·exact HK.out _ _ hHeld
     clear hK K;try simp only [frS,Act.put]
     refine rdH 4 rfl fun K hK=>?_
     ·go_simp
      refine hK.out _ _ ?_ (fun hHeld=>?_)
      ·exact HK.out _ _ hHeld
      clear hK K;try simp only [frS,Act.put]
      refine tkH 9 rfl ?_;try simp only [frS,Act.put]
      refine rdH 10 rfl fun K hK=>?_
      go_simp;refine hK.out _ _ ?_ (fun hHeld=>?_)
      ·exact HK.out _ _ hHeld
      clear hK K;try simp only [frS,Act.put]
      refine tkH 11 rfl ?_;try simp only [frS,Act.put]
      refine wpAnyH_done (by kernel_rfl) ?_ _;exact ⟨rfl,_,_,_,_,_,_,_,_,_,_,_,_,_,_,_,_,rfl,begLeaf 1 3 0 2 rfl rfl rfl rfl (by decide) (HCE.out _ _ _ _)⟩
   ·go_simp
    refine hK.out _ _ ?_ (fun hHeld=>?_)
    ·exact HK.out _ _ hHeld
    clear hK K;try simp only [frS,Act.put]
    refine wpAnyH_ready (rs:=[2,8]) (by kernel_rfl) (by simp) ?_;refine (AllReadyH.cons rfl (fun K hK=>?_) (AllReadyH.cons rfl (fun K hK=>?_) AllReadyH.nil))
    ·go_simp
     refine hK.out _ _ ?_ (fun hHeld=>?_)
     ·exact HK.out _ _ hHeld
     clear hK K;try simp only [frS,Act.put]
     refine rdH 8 rfl fun K hK=>?_
     ·go_simp
      refine hK.out _ _ ?_ (fun hHeld=>?_)
      ·exact HK.out _ _ hHeld
      clear hK K;try simp only [frS,Act.put]
      refine tkH 9 rfl ?_;try simp only [frS,Act.put]
      refine rdH 10 rfl fun K hK=>?_
      go_simp;refine hK.out _ _ ?_ (fun hHeld=>?_)
      ·exact HK.out _ _ hHeld
      clear hK K;try simp only [frS,Act.put]
      refine tkH 11 rfl ?_;try simp only [frS,Act.put]
      refine wpAnyH_done (by kernel_rfl) ?_ _;exact ⟨rfl,_,_,_,_,_,_,_,_,_,_,_,_,_,_,_,_,rfl,begLeaf 2 1 0 3 rfl rfl rfl rfl (by decide) (HCE.out _ _ _ _)⟩
    ·go_simp
     refine hK.out _ _ ?_ (fun hHeld=>?_)
     ·exact HK.out _ _ hHeld
     clear hK K;try simp only [frS,Act.put]
     refine rdH 2 rfl fun K hK=>?_
     ·go_simp
      refine hK.out _ _ ?_ (fun hHeld=>?_)
      ·exact HK.out _ _ hHeld
      clear hK K;try simp only [frS,Act.put]
      refine tkH 9 rfl ?_;try simp only [frS,Act.put]
      refine rdH 10 rfl fun K hK=>?_
      go_simp;refine hK.out _ _ ?_ (fun hHeld=>?_)
      ·exact HK.out _ _ hHeld
      clear hK K;try simp only [frS,Act.put]
      refine tkH 11 rfl ?_;try simp only [frS,Act.put]
      refine wpAnyH_done (by kernel_rfl) ?_ _;exact ⟨rfl,_,_,_,_,_,_,_,_,_,_,_,_,_,_,_,_,rfl,begLeaf 3 1 0 2 rfl rfl rfl rfl (by decide) (HCE.out _ _ _ _)⟩
   ·go_simp
    refine hK.out _ _ ?_ (fun hHeld=>?_)
    ·exact HK.out _ _ hHeld
    clear hK K;try simp only [frS,Act.put]
    refine wpAnyH_ready (rs:=[2,4]) (by kernel_rfl) (by simp) ?_;refine (AllReadyH.cons rfl (fun K hK=>?_) (AllReadyH.cons rfl (fun K hK=>?_) AllReadyH.nil))
    ·go_simp
     refine hK.out _ _ ?_ (fun hHeld=>?_)
     ·exact HK.out _ _ hHeld
     clear hK K;try simp only [frS,Act.put]
     refine rdH 4 rfl fun K hK=>?_
     ·go_simp
      refine hK.out _ _ ?_ (fun hHeld=>?_)
      ·exact HK.out _ _ hHeld
      clear hK K;try simp only [frS,Act.put]
      refine tkH 9 rfl ?_;try simp only [frS,Act.put]
      refine rdH 10 rfl fun K hK=>?_
      go_simp;refine hK.out _ _ ?_ (fun hHeld=>?_)
      ·exact HK.out _ _ hHeld
      clear hK K;try simp only [frS,Act.put]
      refine tkH 11 rfl ?_;try simp only [frS,Act.put]
      refine wpAnyH_done (by kernel_rfl) ?_ _;exact ⟨rfl,_,_,_,_,_,_,_,_,_,_,_,_,_,_,_,_,rfl,begLeaf 2 3 0 1 rfl rfl rfl rfl (by decide) (HCE.out _ _ _ _)⟩
    ·go_simp
     refine hK.out _ _ ?_ (fun hHeld=>?_)
     ·exact HK.out _ _ hHeld
     clear hK K;try simp only [frS,Act.put]
     refine rdH 2 rfl fun K hK=>?_
     ·go_simp
      refine hK.out _ _ ?_ (fun hHeld=>?_)
      ·exact HK.out _ _ hHeld
      clear hK K;try simp only [frS,Act.put]
      refine tkH 9 rfl ?_;try simp only [frS,Act.put]
      refine rdH 10 rfl fun K hK=>?_
      go_simp;refine hK.out _ _ ?_ (fun hHeld=>?_)
      ·exact HK.out _ _ hHeld
      clear hK K;try simp only [frS,Act.put]
      refine tkH 11 rfl ?_;try simp only [frS,Act.put]
      refine wpAnyH_done (by kernel_rfl) ?_ _;exact ⟨rfl,_,_,_,_,_,_,_,_,_,_,_,_,_,_,_,_,rfl,begLeaf 3 2 0 1 rfl rfl rfl rfl (by decide) (HCE.out _ _ _ _)⟩
  ·go_simp
   refine hK.out _ _ ?_ (fun hHeld=>?_)
   ·exact HK.out _ _ hHeld
   clear hK K;try simp only [frS,Act.put]
   refine wpAnyH_ready (rs:=[2,4,6]) (by kernel_rfl) (by simp) ?_;refine (AllReadyH.cons rfl (fun K hK=>?_) (AllReadyH.cons rfl (fun K hK=>?_) (AllReadyH.cons rfl (fun K hK=>?_) AllReadyH.nil)))
   ·go_simp
    refine hK.out _ _ ?_ (fun hHeld=>?_)
    ·exact HK.out _ _ hHeld
    clear hK K;try simp only [frS,Act.put]
    refine wpAnyH_ready (rs:=[4,6]) (by kernel_rfl) (by simp) ?_;refine (AllReadyH.cons rfl (fun K hK=>?_) (AllReadyH.cons rfl (fun K hK=>?_) AllReadyH.nil))
    ·go_simp
     refine hK.out _ _ ?_ (fun hHeld=>?_)
     ·exact HK.out _ _ hHeld
     clear hK K;try simp only [frS,Act.put]
     refine rdH 6 rfl fun K hK=>?_
     ·go_simp
      refine hK.out _ _ ?_ (fun hHeld=>?_)
      ·exact HK.out _ _ hHeld
      clear hK K;try simp only [frS,Act.put]
      refine tkH 9 rfl ?_;try simp only [frS,Act.put]
      refine rdH 10 rfl fun K hK=>?_
      go_simp;refine hK.out _ _ ?_ (fun hHeld=>?_)
      ·exact HK.out _ _ hHeld
      clear hK K;try simp only [frS,Act.put]
      refine tkH 11 rfl ?_;try simp only [frS,Act.put]
      refine wpAnyH_done (by kernel_rfl) ?_ _;exact ⟨rfl,_,_,_,_,_,_,_,_,_,_,_,_,_,_,_,_,rfl,begLeaf 1 2 3 0 rfl rfl rfl rfl (by decide) (HCE.out _ _ _ _)⟩
    ·go_simp
     refine hK.out _ _ ?_ (fun hHeld=>?_)
     ·exact HK.out _ _ hHeld
     clear hK K;try simp only [frS,Act.put]
     refine rdH 4 rfl fun K hK=>?_
     ·go_simp
      refine hK.out _ _ ?_ (fun hHeld=>?_)
      ·exact HK.out _ _ hHeld
      clear hK K;try simp only [frS,Act.put]
      refine tkH 9 rfl ?_;try simp only [frS,Act.put]
      refine rdH 10 rfl fun K hK=>?_
      go_simp;refine hK.out _ _ ?_ (fun hHeld=>?_)
      ·exact HK.out _ _ hHeld
      clear hK K;try simp only [frS,Act.put]
      refine tkH 11 rfl ?_;try simp only [frS,Act.put]
      refine wpAnyH_done (by kernel_rfl) ?_ _;exact ⟨rfl,_,_,_,_,_,_,_,_,_,_,_,_,_,_,_,_,rfl,begLeaf 1 3 2 0 rfl rfl rfl rfl (by decide) (HCE.out _ _ _ _)⟩
   ·go_simp
    refine hK.out _ _ ?_ (fun hHeld=>?_)
    ·exact HK.out _ _ hHeld
    clear hK K;try simp only [frS,Act.put]
    refine wpAnyH_ready (rs:=[2,6]) (by kernel_rfl) (by simp) ?_;refine (AllReadyH.cons rfl (fun K hK=>?_) (AllReadyH.cons rfl (fun K hK=>?_) AllReadyH.nil))
    ·go_simp
     refine hK.out _ _ ?_ (fun hHeld=>?_)
     ·exact HK.out _ _ hHeld
     clear hK K;try simp only [frS,Act.put]
     refine rdH 6 rfl fun K hK=>?_
     ·go_simp
      refine hK.out _ _ ?_ (fun hHeld=>?_)
      ·exact HK.out _ _ hHeld
      clear hK K;try simp only [frS,Act.put]
      refine tkH 9 rfl ?_;try simp only [frS,Act.put]
      refine rdH 10 rfl fun K hK=>?_
      go_simp;refine hK.out _ _ ?_ (fun hHeld=>?_)
      ·exact HK.out _ _ hHeld
      clear hK K;try simp only [frS,Act.put]
      refine tkH 11 rfl ?_;try simp only [frS,Act.put]
      refine wpAnyH_done (by kernel_rfl) ?_ _;exact ⟨rfl,_,_,_,_,_,_,_,_,_,_,_,_,_,_,_,_,rfl,begLeaf 2 1 3 0 rfl rfl rfl rfl (by decide) (HCE.out _ _ _ _)⟩
    ·go_simp
     refine hK.out _ _ ?_ (fun hHeld=>?_)
     ·exact HK.out _ _ hHeld
     clear hK K;try simp only [frS,Act.put]
     refine rdH 2 rfl fun K hK=>?_
     ·go_simp
      refine hK.out _ _ ?_ (fun hHeld=>?_)
      ·exact HK.out _ _ hHeld
      clear hK K;try simp only [frS,Act.put]
      refine tkH 9 rfl ?_;try simp only [frS,Act.put]
      refine rdH 10 rfl fun K hK=>?_
      go_simp;refine hK.out _ _ ?_ (fun hHeld=>?_)
      ·exact HK.out _ _ hHeld
      clear hK K;try simp only [frS,Act.put]
      refine tkH 11 rfl ?_;try simp only [frS,Act.put]
      refine wpAnyH_done (by kernel_rfl) ?_ _;exact ⟨rfl,_,_,_,_,_,_,_,_,_,_,_,_,_,_,_,_,rfl,begLeaf 3 1 2 0 rfl rfl rfl rfl (by decide) (HCE.out _ _ _ _)⟩
   ·go_simp
    refine hK.out _ _ ?_ (fun hHeld=>?_)
    ·exact HK.out _ _ hHeld
    clear hK K;try simp only [frS,Act.put]
    refine wpAnyH_ready (rs:=[2,4]) (by kernel_rfl) (by simp) ?_;refine (AllReadyH.cons rfl (fun K hK=>?_) (AllReadyH.cons rfl (fun K hK=>?_) AllReadyH.nil))
    ·go_simp
     refine hK.out _ _ ?_ (fun hHeld=>?_)
     ·exact HK.out _ _ hHeld
     clear hK K;try simp only [frS,Act.put]
     refine rdH 4 rfl fun K hK=>?_
     ·go_simp
      refine hK.out _ _ ?_ (fun hHeld=>?_)
      ·exact HK.out _ _ hHeld
      clear hK K;try simp only [frS,Act.put]
      refine tkH 9 rfl ?_;try simp only [frS,Act.put]
      refine rdH 10 rfl fun K hK=>?_
      go_simp;refine hK.out _ _ ?_ (fun hHeld=>?_)
      ·exact HK.out _ _ hHeld
      clear hK K;try simp only [frS,Act.put]
      refine tkH 11 rfl ?_;try simp only [frS,Act.put]
      refine wpAnyH_done (by kernel_rfl) ?_ _;exact ⟨rfl,_,_,_,_,_,_,_,_,_,_,_,_,_,_,_,_,rfl,begLeaf 2 3 1 0 rfl rfl rfl rfl (by decide) (HCE.out _ _ _ _)⟩
    ·go_simp
     refine hK.out _ _ ?_ (fun hHeld=>?_)
     ·exact HK.out _ _ hHeld
     clear hK K;try simp only [frS,Act.put]
     refine rdH 2 rfl fun K hK=>?_
     ·go_simp
      refine hK.out _ _ ?_ (fun hHeld=>?_)
      ·exact HK.out _ _ hHeld
      clear hK K;try simp only [frS,Act.put]
      refine tkH 9 rfl ?_;try simp only [frS,Act.put]
      refine rdH 10 rfl fun K hK=>?_
      go_simp;refine hK.out _ _ ?_ (fun hHeld=>?_)
      ·exact HK.out _ _ hHeld
      clear hK K;try simp only [frS,Act.put]
      refine tkH 11 rfl ?_;try simp only [frS,Act.put]
      refine wpAnyH_done (by kernel_rfl) ?_ _;exact ⟨rfl,_,_,_,_,_,_,_,_,_,_,_,_,_,_,_,_,rfl,begLeaf 3 2 1 0 rfl rfl rfl rfl (by decide) (HCE.out _ _ _ _)⟩
 rintro e a w2 ⟨rfl,A,E,Wn,N,F,u14,u15,u16,u17,u18,u19,u20,u21,u22,u23,u24,rfl,hB,hb2⟩;have hT2:=hT.next hb2;have hz1:=hT.size;have hl1:w1.heap.size≤w2.heap.size:=hb2.size;have hbw1:=hb2;have HT1:=hid hT;have HL0:=hid (HLI.out.next hT.below);clear x0 x1 x2 hT hb2 HK HCE hmkB hmkS;obtain ⟨x0,x1,x2⟩:=bx3 hT2.fst;dsimp only [Exit.then];go_upto_region 4 with fail;have HL1:Hid (Lies w1 w1.heap.size p):=by show _; exact HL0.out
 have HFN:=hid (fun (W:World) (ht:Below w1.heap.size w1 W) (f:Nat) (hf:f<p.funs.length)=>fn_at HL1.out HA.out hf (Turn.of_below ht:Turn w1.heap.size w1.heap.size w1 W));have HPB:Hid (∀ W,Below w1.heap.size w1 W→Bx W w.heap.size [.slice (some ⟨b,off,none⟩) p.funs.length p.funC,.slice p.obA p.obs.length p.obC,.slice p.vrA p.vrs.length p.vrC]):=hid (fun W ht q v hv=>(ht.cell (by show w.heap.size<_; omega)).trans (HT1.out.fst q v hv));have HBW:Hid (∀ W,Below w1.heap.size w1 W→Below w.heap.size w W):=hid (fun W ht=>HT1.out.below.trans (ht.mono (by omega)));clear x0 x1 x2 hT2;go_loopw [28] (fun i wr=>∃ (j:Nat) (rb bb:Nat→Nat) (vR vB:Value),i=.int .i64 j∧j≤p.funs.length∧Beg p w1.heap.size A E Wn N F rb bb vR vB j j (allTo p j) (cleTo p j) wr∧Below w1.heap.size w1 wr) (fun i _=>p.funs.length - (intOf i).toNat)
 case atStart=>exact ⟨0,_,_,_,_,rfl,by omega,hB,hbw1⟩
 case round=>
  obtain ⟨f,rb,bb,vR,vB,rfl,hf,hB,hbw⟩:=hrel;have hf0:=zi f;have hwr1:=Wi f (by omega);by_cases hlt:f<p.funs.length
  ·have hd1:=Dt (show (f:Int)<p.funs.length by omega)
   have hd2:=Dt hlt;have hjl:(f:Int)<(p.funs.length:Int):=by omega
   obtain ⟨q0,q1,q2,q3,q4,q5⟩:=HFN.out wr hbw f hlt;go_upto_region 6 with fail;have hba:=below_alloc wr (.cells #[.string (p.fn f).name,.int .i64 (p.fn f).params,.int .i64 (p.fn f).regs,.int .i64 (p.fn f).prio,.bool (p.fn f).clean,.slice (p.fn f).codeA (p.len f) (p.fn f).codeC] 60);have hF:=bx_new wr #[.string (p.fn f).name,.int .i64 (p.fn f).params,.int .i64 (p.fn f).regs,.int .i64 (p.fn f).prio,.bool (p.fn f).clean,.slice (p.fn f).codeA (p.len f) (p.fn f).codeC] 60;have hBa:=hB.below hba;have hbwa:=hbw.trans (hba.mono hbw.size);have hZG:wr.heap.size<(World.alloc wr (.cells #[.string (p.fn f).name,.int .i64 (p.fn f).params,.int .i64 (p.fn f).regs,.int .i64 (p.fn f).prio,.bool (p.fn f).clean,.slice (p.fn f).codeA (p.len f) (p.fn f).codeC] 60)).heap.size:=by simp
   have hGA:=hB.hlt;have hGR:∀ g,vR.ownBlock=some g→g≠wr.heap.size:=fun g e=>Nat.ne_of_lt (hB.fR.own.lt g e).2
   have hGB:∀ g,vB.ownBlock=some g→g≠wr.heap.size:=fun g e=>Nat.ne_of_lt (hB.fB.own.lt g e).2
   clear q0 q1 q2 q3 q4 q5 hba hB hbw;generalize World.alloc wr _=wa at hF hBa hbwa hZG ⊢;generalize wr.heap.size=G at hF hZG hGA hGR hGB ⊢;refine wp_region_held_drew (S:=fun _=>True) (by kernel_rfl) trivial (fun hHeld=>?_);have hBd:Beg p w1.heap.size A E Wn N F rb bb vR vB f f (allTo p f) (cleTo p f) wa.drew:=hBa.below (below_drews _ _ 1);have hbwd:Below w1.heap.size w1 wa.drew:=hbwa.drew;have hFd:Bx wa.drew G [.string (p.fn f).name,.int .i64 (p.fn f).params,.int .i64 (p.fn f).regs,.int .i64 (p.fn f).prio,.bool (p.fn f).clean,.slice (p.fn f).codeA (p.len f) (p.fn f).codeC]:=hF;have hZd:G<wa.drew.heap.size:=hZG;clear hBa hbwa hF hZG;generalize wa.drew=Wd at hBd hbwd hFd hZd hHeld ⊢;have c9:=hBd.cell (k:=9) (v:=vR) rfl;have y5:=hFd 5 _ rfl;have c9a:=fun o=>((below_alloc Wd o).cell (block_lt_of_cell c9)).trans c9
   have c9b:=fun o o'=>((below_alloc (Wd.alloc o) o').cell (block_lt_of_cell (c9a o))).trans (c9a o)
   have hmk:=fun W=>run_make_row' (P:=Tryz.prog) 82 4 (.bool false) 1 Tryz.underlying82 (by kernel_rfl) rfl .i64 .i64 (p.len f) (by have:=hW.len f hlt; omega) (by have:=hW.len f hlt; omega) W
   have hle:w1.heap.size≤Wd.heap.size:=hbwd.size
   obtain ⟨v',W3,hrun,hown3,hgr3,hnil3,hob3⟩:=run_append_own_at (P:=Tryz.prog) (w:=(Wd.alloc (.cells (madeCells #[.bool false] (p.len f)) 4)).alloc (.cells #[.slice (some ⟨Wd.heap.size,0,none⟩) (p.len f) (p.len f)] 82)) w1.heap.size 85 85 82 i0 (.slice none 0 0) 1 24 Tryz.underlying85 hiR hz0R hz1R hz2R rfl (by omega) vR f _ ((hBd.fR.own.alloc _).alloc _) ⟨Wd.heap.size+1,0,none⟩ 1 1 [.slice (some ⟨Wd.heap.size,0,none⟩) (p.len f) (p.len f)] rfl (fun q u hq=>by
    have hh:=bx_new (Wd.alloc (.cells (madeCells #[.bool false] (p.len f)) 4)) #[.slice (some ⟨Wd.heap.size,0,none⟩) (p.len f) (p.len f)] 82 0 _ rfl;rw [Go.Deep.nblk_alloc] at hh
    match q,hq with
    | 0,hq=>simp only [List.getElem?_cons_zero] at hq; injection hq with hq; subst hq; exact hh) (fun u hu=>by simp only [List.mem_singleton] at hu; subst hu; rfl) (by unfold maxLen; omega) (by omega) (by simp; omega)
   obtain ⟨ga,ca,rfl⟩:=own_form hown3;have hb2:Below Wd.heap.size Wd ((Wd.alloc (.cells (madeCells #[.bool false] (p.len f)) 4)).alloc (.cells #[.slice (some ⟨Wd.heap.size,0,none⟩) (p.len f) (p.len f)] 82)):=(below_alloc _ _).trans (below_alloc2 (by simp) _);have hr2:=(World.rowIs_made Wd (.bool false) (p.len f) 4).alloc (.cells #[.slice (some ⟨Wd.heap.size,0,none⟩) (p.len f) (p.len f)] 82);have hB2:=hBd.below hb2;have hZ2:((Wd.alloc (.cells (madeCells #[.bool false] (p.len f)) 4)).alloc (.cells #[.slice (some ⟨Wd.heap.size,0,none⟩) (p.len f) (p.len f)] 82)).heap.size=Wd.heap.size+1+1:=by simp
   have hA3:=hB2.hdR hgr3;have hBn:Beg p w1.heap.size A E Wn N F (fun x=>if x=f then Wd.heap.size else rb x) bb (.slice ga (f+1) ca) vB (f+1) f (allTo p f) (cleTo p f) (W3.setCell ⟨A,9,none⟩ (.slice ga (f+1) ca)):=hBd.pushR hB2 rfl hr2 hgr3 hob3 hown3 hle;have hbwn:Below w1.heap.size w1 (W3.setCell ⟨A,9,none⟩ (.slice ga (f+1) ca)):=((hbwd.trans (hb2.mono hle)).grown hgr3 (by omega) (fun g e=>(hBd.fR.own.lt g e).1)).setCell (p:=⟨A,9,none⟩) hBd.rng.1 _
   have hFn:Bx (W3.setCell ⟨A,9,none⟩ (.slice ga (f+1) ca)) G [.string (p.fn f).name,.int .i64 (p.fn f).params,.int .i64 (p.fn f).regs,.int .i64 (p.fn f).prio,.bool (p.fn f).clean,.slice (p.fn f).codeA (p.len f) (p.fn f).codeC]:=fun q u hq=>by
    rw [World.cell?_setCell_far _ _ _ _ (by show A≠G; omega)];refine (World.cell?_of_block (hgr3.block G (by omega) (fun e=>hGR G e.symm rfl))).trans ?_;exact (hb2.cell (by show G<_; omega)).trans (hFd q u hq)
   have hZn:G<(W3.setCell ⟨A,9,none⟩ (.slice ga (f+1) ca)).heap.size:=by have:=hgr3.size; simp; omega
   have hGn:∀ g,(Value.slice ga (f+1) ca).ownBlock=some g→g≠G:=fun g e=>by
    rcases hob3 with h | h
    ·rw [h] at e; exact hGR g e
    ·rw [h,hZ2] at e; injection e with e; omega
   have c9c:W3.cell? ⟨A,9,none⟩=some vR:=(World.cell?_of_block (w:=(Wd.alloc (.cells (madeCells #[.bool false] (p.len f)) 4)).alloc (.cells #[.slice (some ⟨Wd.heap.size,0,none⟩) (p.len f) (p.len f)] 82)) hA3).trans (hB2.cell (k:=9) (v:=vR) rfl);have hfz:W3.frozen? ⟨A,9,none⟩=false:=(World.frozen?_of_block (w:=(Wd.alloc (.cells (madeCells #[.bool false] (p.len f)) 4)).alloc (.cells #[.slice (some ⟨Wd.heap.size,0,none⟩) (p.len f) (p.len f)] 82)) hA3).trans (hB2.frozen _);clear hBd hFd hb2 hr2 hB2 hA3 hgr3 hob3 hown3 hnil3 hbwd;rename_i K hK;refine (fun key:K ?aaR ?wwR=>?bodyR) ?keyR
   case bodyR=>
    refine tkH 0 rfl ?_;try simp only [frS,Act.put]
    refine tkH 1 rfl ?_;try simp only [frS,Act.put]
    refine tkH 2 rfl ?_;try simp only [frS,Act.put]
    refine tkH 3 rfl ?_;try simp only [frS,Act.put]
    refine tkH 5 rfl ?_;try simp only [frS,Act.put]
    refine wpAnyH_ready (rs:=[4,6]) (by kernel_rfl) (by simp) ?_;refine (AllReadyH.cons rfl (fun K hK=>?_) (AllReadyH.cons rfl (fun K hK=>?_) AllReadyH.nil))
    ·go_simp
     refine hK.out _ _ ?_ (fun hHeld=>?_)
     ·trivial
     clear hK K;try simp only [frS,Act.put]
     refine rdH 6 rfl fun K hK=>?_
     go_simp;refine hK.out _ _ ?_ (fun hHeld=>?_)
     ·trivial
     clear hK K;try simp only [frS,Act.put]
     refine tkH 7 rfl ?_;try simp only [frS,Act.put]
     refine rdH 8 rfl fun K hK=>?_
     go_simp;refine hK.out _ _ ?_ (fun hHeld=>?_)
     ·trivial
     clear hK K;try simp only [frS,Act.put]
     refine rdH 9 rfl fun K hK=>?_
     go_simp;refine hK.out _ _ ?_ (fun hHeld=>?_)
     ·trivial
     clear hK K;try simp only [frS,Act.put]
     refine rdH 10 rfl fun K hK=>?_
     refine step_append_run rfl (.tmp 36) (.tmp 41) _ rfl rfl rfl hrun ?_;refine hK.out _ _ ?_ (fun hHeld=>?_)
     ·trivial
     clear hK K;try simp only [frS,Act.put]
     refine tkH 11 rfl ?_;try simp only [frS,Act.put]
     refine tkH 12 rfl ?_;try simp only [frS,Act.put]
     refine rdH 13 rfl fun K hK=>?_
     go_simp;refine hK.out _ _ ?_ (fun hHeld=>?_)
     ·trivial
     clear hK K;try simp only [frS,Act.put]
     refine wpAnyH_done (by kernel_rfl) ?_ _;exact key
    ·go_simp
     refine hK.out _ _ ?_ (fun hHeld=>?_)
     ·trivial
     clear hK K;try simp only [frS,Act.put]
     refine tkH 7 rfl ?_;try simp only [frS,Act.put]
     refine wpAnyH_ready (rs:=[4,8]) (by kernel_rfl) (by simp) ?_;refine (AllReadyH.cons rfl (fun K hK=>?_) (AllReadyH.cons rfl (fun K hK=>?_) AllReadyH.nil))
     ·go_simp
      refine hK.out _ _ ?_ (fun hHeld=>?_)
      ·trivial
      clear hK K;try simp only [frS,Act.put]
      refine rdH 8 rfl fun K hK=>?_
      go_simp;refine hK.out _ _ ?_ (fun hHeld=>?_)
      ·trivial
      clear hK K;try simp only [frS,Act.put]
      refine rdH 9 rfl fun K hK=>?_
      go_simp;refine hK.out _ _ ?_ (fun hHeld=>?_)
      ·trivial
      clear hK K;try simp only [frS,Act.put]
      refine rdH 10 rfl fun K hK=>?_
      refine step_append_run rfl (.tmp 36) (.tmp 41) _ rfl rfl rfl hrun ?_;refine hK.out _ _ ?_ (fun hHeld=>?_)
      ·trivial
      clear hK K;try simp only [frS,Act.put]
      refine tkH 11 rfl ?_;try simp only [frS,Act.put]
      refine tkH 12 rfl ?_;try simp only [frS,Act.put]
      refine rdH 13 rfl fun K hK=>?_
      go_simp;refine hK.out _ _ ?_ (fun hHeld=>?_)
      ·trivial
      clear hK K;try simp only [frS,Act.put]
      refine wpAnyH_done (by kernel_rfl) ?_ _;exact key
     ·go_simp
      refine hK.out _ _ ?_ (fun hHeld=>?_)
      ·trivial
      clear hK K;try simp only [frS,Act.put]
      refine wpAnyH_ready (rs:=[4,9]) (by kernel_rfl) (by simp) ?_;refine (AllReadyH.cons rfl (fun K hK=>?_) (AllReadyH.cons rfl (fun K hK=>?_) AllReadyH.nil))
      ·go_simp
       refine hK.out _ _ ?_ (fun hHeld=>?_)
       ·trivial
       clear hK K;try simp only [frS,Act.put]
       refine rdH 9 rfl fun K hK=>?_
       go_simp;refine hK.out _ _ ?_ (fun hHeld=>?_)
       ·trivial
       clear hK K;try simp only [frS,Act.put]
       refine rdH 10 rfl fun K hK=>?_
       refine step_append_run rfl (.tmp 36) (.tmp 41) _ rfl rfl rfl hrun ?_;refine hK.out _ _ ?_ (fun hHeld=>?_)
       ·trivial
       clear hK K;try simp only [frS,Act.put]
       refine tkH 11 rfl ?_;try simp only [frS,Act.put]
       refine tkH 12 rfl ?_;try simp only [frS,Act.put]
       refine rdH 13 rfl fun K hK=>?_
       go_simp;refine hK.out _ _ ?_ (fun hHeld=>?_)
       ·trivial
       clear hK K;try simp only [frS,Act.put]
       refine wpAnyH_done (by kernel_rfl) ?_ _;exact key
      ·go_simp
       refine hK.out _ _ ?_ (fun hHeld=>?_)
       ·trivial
       clear hK K;try simp only [frS,Act.put]
       refine rdH 4 rfl fun K hK=>?_
       go_simp;refine hK.out _ _ ?_ (fun hHeld=>?_)
       ·trivial
       clear hK K;try simp only [frS,Act.put]
       refine rdH 10 rfl fun K hK=>?_
       refine step_append_run rfl (.tmp 36) (.tmp 41) _ rfl rfl rfl hrun ?_;refine hK.out _ _ ?_ (fun hHeld=>?_)
       ·trivial
       clear hK K;try simp only [frS,Act.put]
       refine tkH 11 rfl ?_;try simp only [frS,Act.put]
       refine tkH 12 rfl ?_;try simp only [frS,Act.put]
       refine rdH 13 rfl fun K hK=>?_
       go_simp;refine hK.out _ _ ?_ (fun hHeld=>?_)
       ·trivial
       clear hK K;try simp only [frS,Act.put]
       refine wpAnyH_done (by kernel_rfl) ?_ _;exact key
   clear c9 y5 c9a c9b hmk hrun c9c hfz hHeld hZ2 hle hZd;generalize W3.setCell ⟨A,9,none⟩ (.slice ga (f+1) ca)=wn at hBn hbwn hFn hZn ⊢;obtain ⟨vR2,hvn⟩:∃ v,Value.slice ga (f+1) ca=v:=⟨_,rfl⟩
   rw [hvn] at hBn hGn;obtain ⟨rb2,hbn⟩:∃ g:Nat→Nat,(fun x=>if x=f then Wd.heap.size else rb x)=g:=⟨_,rfl⟩
   rw [hbn] at hBn;have hBa:=hBn;have hbwa:=hbwn;have hF:Bx wn G [.string (p.fn f).name,.int .i64 (p.fn f).params,.int .i64 (p.fn f).regs,.int .i64 (p.fn f).prio,.bool (p.fn f).clean,.slice (p.fn f).codeA (p.len f) (p.fn f).codeC]:=hFn;have hZG:=hZn;have hGR2:=hGn;clear hvn hbn hBn hbwn hFn hZn hGn;refine hK _ _ ?_;clear hK K;go_upto_region 7 with fail;refine wp_region_held_drew (S:=fun _=>True) (by kernel_rfl) trivial (fun hHeld=>?_);have hBd:Beg p w1.heap.size A E Wn N F rb2 bb vR2 vB (f+1) f (allTo p f) (cleTo p f) wn.drew:=hBa.below (below_drews _ _ 1);have hbwd:Below w1.heap.size w1 wn.drew:=hbwa.drew;have hFd:Bx wn.drew G [.string (p.fn f).name,.int .i64 (p.fn f).params,.int .i64 (p.fn f).regs,.int .i64 (p.fn f).prio,.bool (p.fn f).clean,.slice (p.fn f).codeA (p.len f) (p.fn f).codeC]:=hF;have hZd:G<wn.drew.heap.size:=hZG
   clear hBa hbwa hF hZG;generalize wn.drew=Wd at hBd hbwd hFd hZd hHeld ⊢;have c9:=hBd.cell (k:=10) (v:=vB) rfl;have y5:=hFd 5 _ rfl;have c9a:=fun o=>((below_alloc Wd o).cell (block_lt_of_cell c9)).trans c9
   have c9b:=fun o o'=>((below_alloc (Wd.alloc o) o').cell (block_lt_of_cell (c9a o))).trans (c9a o)
   have hmk:=fun W=>run_make_row' (P:=Tryz.prog) 79 84 (.int .u32 0) 4 Tryz.underlying79 (by kernel_rfl) rfl .i64 .i64 (p.len f) (by have:=hW.len f hlt; omega) (by have:=hW.len f hlt; omega) W
   have hle:w1.heap.size≤Wd.heap.size:=hbwd.size
   obtain ⟨v',W3,hrun,hown3,hgr3,hnil3,hob3⟩:=run_append_own_at (P:=Tryz.prog) (w:=(Wd.alloc (.cells (madeCells #[.int .u32 0] (p.len f)) 84)).alloc (.cells #[.slice (some ⟨Wd.heap.size,0,none⟩) (p.len f) (p.len f)] 79)) w1.heap.size 86 86 79 i1 (.slice none 0 0) 1 24 Tryz.underlying86 hiB hz0B hz1B hz2B rfl (by omega) vB f _ ((hBd.fB.own.alloc _).alloc _) ⟨Wd.heap.size+1,0,none⟩ 1 1 [.slice (some ⟨Wd.heap.size,0,none⟩) (p.len f) (p.len f)] rfl (fun q u hq=>by
    have hh:=bx_new (Wd.alloc (.cells (madeCells #[.int .u32 0] (p.len f)) 84)) #[.slice (some ⟨Wd.heap.size,0,none⟩) (p.len f) (p.len f)] 79 0 _ rfl;rw [Go.Deep.nblk_alloc] at hh
    match q,hq with
    | 0,hq=>simp only [List.getElem?_cons_zero] at hq; injection hq with hq; subst hq; exact hh) (fun u hu=>by simp only [List.mem_singleton] at hu; subst hu; rfl) (by unfold maxLen; omega) (by omega) (by simp; omega)
   obtain ⟨ga,ca,rfl⟩:=own_form hown3;have hb2:Below Wd.heap.size Wd ((Wd.alloc (.cells (madeCells #[.int .u32 0] (p.len f)) 84)).alloc (.cells #[.slice (some ⟨Wd.heap.size,0,none⟩) (p.len f) (p.len f)] 79)):=(below_alloc _ _).trans (below_alloc2 (by simp) _);have hr2:=(World.rowIs_made Wd (sv 0) (p.len f) 84).alloc (.cells #[.slice (some ⟨Wd.heap.size,0,none⟩) (p.len f) (p.len f)] 79);have hB2:=hBd.below hb2;have hZ2:((Wd.alloc (.cells (madeCells #[.int .u32 0] (p.len f)) 84)).alloc (.cells #[.slice (some ⟨Wd.heap.size,0,none⟩) (p.len f) (p.len f)] 79)).heap.size=Wd.heap.size+1+1:=by simp
   have hA3:=hB2.hdB hgr3;have hBn:Beg p w1.heap.size A E Wn N F rb2 (fun x=>if x=f then Wd.heap.size else bb x) vR2 (.slice ga (f+1) ca) (f+1) (f+1) (allTo p f) (cleTo p f) (W3.setCell ⟨A,10,none⟩ (.slice ga (f+1) ca)):=hBd.pushB hB2 rfl hr2 hgr3 hob3 hown3 hle;have hbwn:Below w1.heap.size w1 (W3.setCell ⟨A,10,none⟩ (.slice ga (f+1) ca)):=((hbwd.trans (hb2.mono hle)).grown hgr3 (by omega) (fun g e=>(hBd.fB.own.lt g e).1)).setCell (p:=⟨A,10,none⟩) hBd.rng.1 _
   have hFn:Bx (W3.setCell ⟨A,10,none⟩ (.slice ga (f+1) ca)) G [.string (p.fn f).name,.int .i64 (p.fn f).params,.int .i64 (p.fn f).regs,.int .i64 (p.fn f).prio,.bool (p.fn f).clean,.slice (p.fn f).codeA (p.len f) (p.fn f).codeC]:=fun q u hq=>by
    rw [World.cell?_setCell_far _ _ _ _ (by show A≠G; omega)];refine (World.cell?_of_block (hgr3.block G (by omega) (fun e=>hGB G e.symm rfl))).trans ?_;exact (hb2.cell (by show G<_; omega)).trans (hFd q u hq)
   have hZn:G<(W3.setCell ⟨A,10,none⟩ (.slice ga (f+1) ca)).heap.size:=by have:=hgr3.size; simp; omega
   have hGn:∀ g,(Value.slice ga (f+1) ca).ownBlock=some g→g≠G:=fun g e=>by
    rcases hob3 with h | h
    ·rw [h] at e; exact hGB g e
    ·rw [h,hZ2] at e; injection e with e; omega
   have c9c:W3.cell? ⟨A,10,none⟩=some vB:=(World.cell?_of_block (w:=(Wd.alloc (.cells (madeCells #[.int .u32 0] (p.len f)) 84)).alloc (.cells #[.slice (some ⟨Wd.heap.size,0,none⟩) (p.len f) (p.len f)] 79)) hA3).trans (hB2.cell (k:=10) (v:=vB) rfl);have hfz:W3.frozen? ⟨A,10,none⟩=false:=(World.frozen?_of_block (w:=(Wd.alloc (.cells (madeCells #[.int .u32 0] (p.len f)) 84)).alloc (.cells #[.slice (some ⟨Wd.heap.size,0,none⟩) (p.len f) (p.len f)] 79)) hA3).trans (hB2.frozen _);clear hBd hFd hb2 hr2 hB2 hA3 hgr3 hob3 hown3 hnil3 hbwd;rename_i K hK;refine (fun key:K ?aaB ?wwB=>?bodyB) ?keyB
   case bodyB=>
    refine tkH 0 rfl ?_;try simp only [frS,Act.put]
    refine tkH 1 rfl ?_;try simp only [frS,Act.put]
    refine tkH 2 rfl ?_;try simp only [frS,Act.put]
    refine tkH 3 rfl ?_;try simp only [frS,Act.put]
    refine tkH 5 rfl ?_;try simp only [frS,Act.put]
    refine wpAnyH_ready (rs:=[4,6]) (by kernel_rfl) (by simp) ?_;refine (AllReadyH.cons rfl (fun K hK=>?_) (AllReadyH.cons rfl (fun K hK=>?_) AllReadyH.nil))
    ·go_simp
     refine hK.out _ _ ?_ (fun hHeld=>?_)
     ·trivial
     clear hK K;try simp only [frS,Act.put]
     refine rdH 6 rfl fun K hK=>?_
     go_simp;refine hK.out _ _ ?_ (fun hHeld=>?_)
     ·trivial
     clear hK K;try simp only [frS,Act.put]
     refine tkH 7 rfl ?_;try simp only [frS,Act.put]
     refine rdH 8 rfl fun K hK=>?_
     go_simp;refine hK.out _ _ ?_ (fun hHeld=>?_)
     ·trivial
     clear hK K;try simp only [frS,Act.put]
     refine rdH 9 rfl fun K hK=>?_
     go_simp;refine hK.out _ _ ?_ (fun hHeld=>?_)
     ·trivial
     clear hK K;try simp only [frS,Act.put]
     refine rdH 10 rfl fun K hK=>?_
     refine step_append_run rfl (.tmp 49) (.tmp 54) _ rfl rfl rfl hrun ?_;refine hK.out _ _ ?_ (fun hHeld=>?_)
     ·trivial
     clear hK K;try simp only [frS,Act.put]
     refine tkH 11 rfl ?_;try simp only [frS,Act.put]
     refine tkH 12 rfl ?_;try simp only [frS,Act.put]
     refine rdH 13 rfl fun K hK=>?_
     go_simp;refine hK.out _ _ ?_ (fun hHeld=>?_)
     ·trivial
     clear hK K;try simp only [frS,Act.put]
     refine wpAnyH_done (by kernel_rfl) ?_ _;exact key
    ·go_simp
     refine hK.out _ _ ?_ (fun hHeld=>?_)
     ·trivial
     clear hK K;try simp only [frS,Act.put]
     refine tkH 7 rfl ?_;try simp only [frS,Act.put]
     refine wpAnyH_ready (rs:=[4,8]) (by kernel_rfl) (by simp) ?_;refine (AllReadyH.cons rfl (fun K hK=>?_) (AllReadyH.cons rfl (fun K hK=>?_) AllReadyH.nil))
     ·go_simp
      refine hK.out _ _ ?_ (fun hHeld=>?_)
      ·trivial
      clear hK K;try simp only [frS,Act.put]
      refine rdH 8 rfl fun K hK=>?_
      go_simp;refine hK.out _ _ ?_ (fun hHeld=>?_)
      ·trivial
      clear hK K;try simp only [frS,Act.put]
      refine rdH 9 rfl fun K hK=>?_
      go_simp;refine hK.out _ _ ?_ (fun hHeld=>?_)
      ·trivial
      clear hK K;try simp only [frS,Act.put]
      refine rdH 10 rfl fun K hK=>?_
      refine step_append_run rfl (.tmp 49) (.tmp 54) _ rfl rfl rfl hrun ?_;refine hK.out _ _ ?_ (fun hHeld=>?_)
      ·trivial
      clear hK K;try simp only [frS,Act.put]
      refine tkH 11 rfl ?_;try simp only [frS,Act.put]
      refine tkH 12 rfl ?_;try simp only [frS,Act.put]
      refine rdH 13 rfl fun K hK=>?_
      go_simp;refine hK.out _ _ ?_ (fun hHeld=>?_)
      ·trivial
      clear hK K;try simp only [frS,Act.put]
      refine wpAnyH_done (by kernel_rfl) ?_ _;exact key
     ·go_simp
      refine hK.out _ _ ?_ (fun hHeld=>?_)
      ·trivial
      clear hK K;try simp only [frS,Act.put]
      refine wpAnyH_ready (rs:=[4,9]) (by kernel_rfl) (by simp) ?_;refine (AllReadyH.cons rfl (fun K hK=>?_) (AllReadyH.cons rfl (fun K hK=>?_) AllReadyH.nil))
      ·go_simp
       refine hK.out _ _ ?_ (fun hHeld=>?_)
       ·trivial
       clear hK K;try simp only [frS,Act.put]
       refine rdH 9 rfl fun K hK=>?_
       go_simp;refine hK.out _ _ ?_ (fun hHeld=>?_)
       ·trivial
       clear hK K;try simp only [frS,Act.put]
       refine rdH 10 rfl fun K hK=>?_
       refine step_append_run rfl (.tmp 49) (.tmp 54) _ rfl rfl rfl hrun ?_;refine hK.out _ _ ?_ (fun hHeld=>?_)
       ·trivial
       clear hK K;try simp only [frS,Act.put]
       refine tkH 11 rfl ?_;try simp only [frS,Act.put]
       refine tkH 12 rfl ?_;try simp only [frS,Act.put]
       refine rdH 13 rfl fun K hK=>?_
       go_simp;refine hK.out _ _ ?_ (fun hHeld=>?_)
       ·trivial
       clear hK K;try simp only [frS,Act.put]
       refine wpAnyH_done (by kernel_rfl) ?_ _;exact key
      ·go_simp
       refine hK.out _ _ ?_ (fun hHeld=>?_)
       ·trivial
       clear hK K;try simp only [frS,Act.put]
       refine rdH 4 rfl fun K hK=>?_
       go_simp;refine hK.out _ _ ?_ (fun hHeld=>?_)
       ·trivial
       clear hK K;try simp only [frS,Act.put]
       refine rdH 10 rfl fun K hK=>?_
       refine step_append_run rfl (.tmp 49) (.tmp 54) _ rfl rfl rfl hrun ?_;refine hK.out _ _ ?_ (fun hHeld=>?_)
       ·trivial
       clear hK K;try simp only [frS,Act.put]
       refine tkH 11 rfl ?_;try simp only [frS,Act.put]
       refine tkH 12 rfl ?_;try simp only [frS,Act.put]
       refine rdH 13 rfl fun K hK=>?_
       go_simp;refine hK.out _ _ ?_ (fun hHeld=>?_)
       ·trivial
       clear hK K;try simp only [frS,Act.put]
       refine wpAnyH_done (by kernel_rfl) ?_ _;exact key
   clear c9 y5 c9a c9b hmk hrun c9c hfz hHeld hZ2 hle hZd;generalize W3.setCell ⟨A,10,none⟩ (.slice ga (f+1) ca)=wn at hBn hbwn hFn hZn ⊢;obtain ⟨vB2,hvn⟩:∃ v,Value.slice ga (f+1) ca=v:=⟨_,rfl⟩
   rw [hvn] at hBn hGn;obtain ⟨bb2,hbn⟩:∃ g:Nat→Nat,(fun x=>if x=f then Wd.heap.size else bb x)=g:=⟨_,rfl⟩
   rw [hbn] at hBn;have hBa:=hBn;have hbwa:=hbwn;have hF:Bx wn G [.string (p.fn f).name,.int .i64 (p.fn f).params,.int .i64 (p.fn f).regs,.int .i64 (p.fn f).prio,.bool (p.fn f).clean,.slice (p.fn f).codeA (p.len f) (p.fn f).codeC]:=hFn;have hZG:=hZn;have hGB2:=hGn;clear hvn hbn hBn hbwn hFn hZn hGn;refine hK _ _ ?_;clear hK K;obtain ⟨y0,y1,y2,y3,y4,y5⟩:=bx6 hF;go_upto_region 9 with fail;clear y0 y1 y2 y3 y4 y5;have hlen:=hW.len f hlt;by_cases hM0:p.len f=0
   ·have hcd:(p.fn f).code=[]:=List.eq_nil_of_length_eq_zero hM0
    have HAT1:Hid (allTo p (f+1)=allTo p f):=by show _=_; rw [allTo_succ hlt,hcd]; rfl
    have HCT1:Hid (cleTo p (f+1)=cleTo p f):=by show _=_; rw [cleTo_succ hlt,hcd]; rfl
    rw [hM0];clear hcd hM0 hF hlen;go_loopw [61] (fun i wr=>i=.int .i64 0∧Beg p w1.heap.size A E Wn N F rb2 bb2 vR2 vB2 (f+1) (f+1) (allTo p f) (cleTo p f) wr∧Below w1.heap.size w1 wr) (fun i _=>0)
    case atStart=>exact ⟨rfl,hBa,hbwa⟩
    case round=>
     obtain ⟨rfl,hBe,hbe⟩:=hrel;go_wp2_with fail;go_round
     case rel=>exact ⟨f+1,rb2,bb2,vR2,vB2,rfl,by omega,by rw [HAT1.out,HCT1.out]; exact hBe,hbe⟩
     case measure=>exact ms (by omega)
   ·have hM1:0<p.len f:=by omega
    obtain ⟨b',off',b2,off2,hA',-,hb2,-,d5,-⟩:=HL1.out.at_ hlt hM1;have e5:=(HFN.out w1 (Below.refl _ _) f hlt).2.2.2.2.2;rw [HA.out] at hA';injection hA' with e;injection e with e1 e2;subst e1; subst e2;rw [d5] at e5;injection e5 with e5;injection e5 with e5;rw [← e5] at hF ⊢;have HAT:=hid (fun (W:World) (ht:Below w1.heap.size w1 W) (k:Nat) (hk:k<p.len f)=>code_at HL1.out (lo:=w1.heap.size) (hi:=w1.heap.size) ⟨Nat.le_refl _,Nat.le_refl _⟩ HA.out hb2 d5 hlt hk (Turn.of_below ht));have HAT1:Hid (allTo p (f+1)=accS p ((p.fn f).code.take (p.len f)) (allTo p f)):=by show _=_; rw [allTo_succ hlt,show (p.fn f).code.take (p.len f)=(p.fn f).code from List.take_length]
    have HCT1:Hid (cleTo p (f+1)=cleS p (p.fn f).clean ((p.fn f).code.take (p.len f)) (cleTo p f)):=by show _=_; rw [cleTo_succ hlt,show (p.fn f).code.take (p.len f)=(p.fn f).code from List.take_length]
    have hAlo:=hBa.rng.1;clear e5 d5 hM0 hb2 hM1;go_loopw [61] (fun i wr=>∃ k:Nat,i=.int .i64 k∧k≤p.len f∧Beg p w1.heap.size A E Wn N F rb2 bb2 vR2 vB2 (f+1) (f+1) (accS p ((p.fn f).code.take k) (allTo p f)) (cleS p (p.fn f).clean ((p.fn f).code.take k) (cleTo p f)) wr∧Below w1.heap.size w1 wr∧Bx wr G [.string (p.fn f).name,.int .i64 (p.fn f).params,.int .i64 (p.fn f).regs,.int .i64 (p.fn f).prio,.bool (p.fn f).clean,.slice (some ⟨b2,off2,none⟩) (p.len f) (p.fn f).codeC]∧G<wr.heap.size) (fun i _=>p.len f - (intOf i).toNat)
    case atStart=>exact ⟨0,rfl,by omega,hBa,hbwa,hF,hZG⟩
    case round=>
     clear hBa hbwa hF hZG;obtain ⟨k,rfl,hk,hBk,hbk,hFk,hZk⟩:=hrel;have hk0:=zi k;have hwr2:=Wi k (by omega);by_cases hltk:k<p.len f
     ·have hd3:=Dt (show (k:Int)<p.len f by omega)
      have hd4:=Dt hltk;have hkl:(k:Int)<(p.len f:Int):=by omega
      have HAS:=hid (accS_succ (p:=p) (f:=f) hltk (allTo p f));have HCS:=hid (cleS_succ (p:=p) (f:=f) hltk (p.fn f).clean (cleTo p f));have hI:=hW.ins f k hlt hltk;obtain ⟨q0,q1,q2,q3,q4⟩:=HAT.out wr hbk k hltk;generalize accS p ((p.fn f).code.take k) (allTo p f)=al at hBk HAS;generalize cleS p (p.fn f).clean ((p.fn f).code.take k) (cleTo p f)=cl at hBk HCS;have HII:=hid hI;clear hI;go_upto_region 11 with fail;have hbi:=below_alloc wr (.cells #[.int .i64 (p.ins f k).op,.int .i64 (p.ins f k).a,.int .i64 (p.ins f k).b,.int .i64 (p.ins f k).c,.slice (p.ins f k).argA (p.ins f k).args.length (p.ins f k).argC] 63);have hX:=bx_new wr #[.int .i64 (p.ins f k).op,.int .i64 (p.ins f k).a,.int .i64 (p.ins f k).b,.int .i64 (p.ins f k).c,.slice (p.ins f k).argA (p.ins f k).args.length (p.ins f k).argC] 63;have hBi:=hBk.below hbi
      have hbki:=hbk.trans (hbi.mono hbk.size);have hFi:=hFk.below hbi hZk;have hZi:G<(World.alloc wr (.cells #[.int .i64 (p.ins f k).op,.int .i64 (p.ins f k).a,.int .i64 (p.ins f k).b,.int .i64 (p.ins f k).c,.slice (p.ins f k).argA (p.ins f k).args.length (p.ins f k).argC] 63)).heap.size:=by simp; omega
      clear q0 q1 q2 q3 q4 hbi hBk hbk hFk hZk;generalize World.alloc wr _=wi at hX hBi hbki hFi hZi ⊢;generalize wr.heap.size=Z at hX ⊢;obtain ⟨z0,z1,z2,z3,z4⟩:=bx5 hX;obtain ⟨x0,x1,x2⟩:=bx3 (HPB.out _ hbki);have HC:=HAC.out wi (HBW.out _ hbki) (p.ins f k) (fun e=>(HII.out.wait e).1);unfold Ins.val Ins.cells at HC
      cases hq:acq p (p.ins f k) with
      | none=>
       have e6:acqVal p (p.ins f k)=.tuple #[.int .i64 0,.bool false]:=by unfold acqVal; rw [hq]
       have HAS2:Hid (al ||| acqBit p (p.ins f k)=al):=by show _=_; unfold acqBit; rw [hq]; exact BitVec.or_zero
       have HCS2:Hid ((if (p.fn f).clean then cl ||| acqBit p (p.ins f k) else cl)=cl):=by show _=_; unfold acqBit; rw [hq]; split <;> first | exact BitVec.or_zero | rfl
       rw [e6] at HC;have HC:=hid HC;clear hq e6 hX;go_wp2_with fail;refine HC.out.mono ?_;rintro e wk ⟨rfl,hbn⟩;clear z0 z1 z2 z3 z4 x0 x1 x2;have hBn:=hBi.below hbn;have hbkn:=hbki.trans (hbn.mono hbki.size);have hFn:=hFi.below hbn hZi;have hZn:G<wk.heap.size:=Nat.lt_of_lt_of_le hZi hbn.size;clear hBi hbki hFi hZi hbn;go_wp2_with fail;go_round
       case rel=>exact ⟨k+1,rfl,by omega,by rw [HAS.out,HCS.out,HAS2.out,HCS2.out]; exact ⟨hBn,hbkn,hFn,hZn⟩⟩
       case measure=>exact ms (by omega)
      | some l=>
       obtain ⟨⟨hl0,hl1⟩,-⟩:=acq_idx HII.out hq;obtain ⟨m,rfl⟩:∃ m:Nat,l=m:=⟨l.toNat,by omega⟩
       have hm16:m<16:=by have:=hW.obs; omega
       have e6:acqVal p (p.ins f k)=.tuple #[.int .i64 (m:Int),.bool true]:=by unfold acqVal; rw [hq]
       have HAB:Hid (acqBit p (p.ins f k)=bit m):=by show _=_; unfold acqBit; rw [hq]; rfl
       rw [e6] at HC;have HC:=hid HC;clear hq e6 hX hl0 hl1;go_wp2_with fail;refine HC.out.mono ?_;rintro e wk ⟨rfl,hbn⟩;clear z0 z1 z2 z3 z4 x0 x1 x2;have hBn:=hBi.below hbn;have hbkn:=hbki.trans (hbn.mono hbki.size);have hFn:=hFi.below hbn hZi;have hZn:G<wk.heap.size:=Nat.lt_of_lt_of_le hZi hbn.size;clear hBi hbki hFi hZi hbn;go_upto_region 13 with fail;refine wp_region_held_drew (S:=fun _=>True) (by kernel_rfl) trivial (fun hHeld=>?_);have hBn2:=hBn.below (below_drews _ wk 1);have hbkn2:=hbkn.drew;have hFn2:Bx wk.drew G _:=hFn;have hZn2:G<wk.drew.heap.size:=hZn;change Beg p _ _ _ _ _ _ _ _ _ _ _ _ _ _ wk.drew at hBn2;clear hBn hbkn hFn hZn;generalize wk.drew=wd at hBn2 hbkn2 hFn2 hZn2 hHeld ⊢;have c3:=hBn2.cell (k:=3) (v:=sv al) rfl;have hfz:=hBn2.frozen 3;unfold sv at c3;refine tkH 0 rfl ?_;try simp only [frS,Act.put]
       refine tkH 1 rfl ?_;try simp only [frS,Act.put]
       refine tkH 2 rfl ?_;try simp only [frS,Act.put]
       refine tkH 4 rfl ?_;try simp only [frS,Act.put]
       refine tkH 5 rfl ?_;try simp only [frS,Act.put]
       refine rdH 3 rfl fun K hK=>?_
       go_simp;refine hK.out _ _ ?_ (fun hHeld=>?_)
       ·trivial
       clear hK K;try simp only [frS,Act.put]
       refine tkH 6 rfl ?_;try simp only [frS,Act.put]
       refine tkH 7 rfl ?_;try simp only [frS,Act.put]
       refine tkH 8 rfl ?_;try simp only [frS,Act.put]
       refine rdH 9 rfl fun K hK=>?_
       go_simp;refine hK.out _ _ ?_ (fun hHeld=>?_)
       ·trivial
       clear hK K;try simp only [frS,Act.put]
       refine wpAnyH_done (by kernel_rfl) ?_ _
       try dsimp only [Exit.then]
       generalize hWE:World.setCell wd ⟨A,3,none⟩ _=wj
       have hBn:Beg p w1.heap.size A E Wn N F rb2 bb2 vR2 vB2 (f+1) (f+1) (al ||| bit m) cl wj:=by
        have h9:=hBn2.all (al ||| bit m);unfold sv at h9;rw [← or_sv,← bit_sv] at h9;rw [← hWE];exact h9
       have hbkn:=hbkn2.setCell (p:=⟨A,3,none⟩) hAlo (.int .u32 ((al ||| bit m).toNat:Int))
       have hE9:World.setCell wd ⟨A,3,none⟩ (.int .u32 ((al ||| bit m).toNat:Int))=wj:=by
        rw [← hWE,← or_sv,← bit_sv];rfl
       rw [hE9] at hbkn
       have hFn:Bx wj G _:=fun q u hq=>by
        rw [← hWE,World.cell?_setCell_far _ _ _ _ (by show A≠G; omega)];exact hFn2 q u hq
       have hZn:G<wj.heap.size:=by rw [← hWE]; simp; exact hZn2
       clear hBn2 hbkn2 hFn2 hZn2 hWE hE9 c3 hfz hHeld;obtain ⟨y0,y1,y2,y3,y4,y5⟩:=bx6 hFn;rcases Bool.eq_false_or_eq_true (p.fn f).clean with hcl | hcl;rotate_left
       ·rw [hcl] at y4
        have HC2:Hid (∀ x:BS,(if (p.fn f).clean then x else cl)=cl):=by intro x; rw [hcl]; rfl
        clear hcl y0 y1 y2 y3 y5;go_wp2_with fail;go_round
        case rel=>exact ⟨k+1,rfl,by omega,by rw [HAS.out,HCS.out,HC2.out,HAB.out]; exact ⟨hBn,hbkn,hFn,hZn⟩⟩
        case measure=>exact ms (by omega)
       ·rw [hcl] at y4
        have HC2:Hid (∀ x:BS,(if (p.fn f).clean then x else cl)=x):=by intro x; rw [hcl]; rfl
        clear hcl y0 y1 y2 y3 y5;go_upto_region 15 with fail;clear y4;refine wp_region_held_drew (S:=fun _=>True) (by kernel_rfl) trivial (fun hHeld=>?_);have hBn2:=hBn.below (below_drews _ wj 1);have hbkn2:=hbkn.drew;have hFn2:Bx wj.drew G _:=hFn;have hZn2:G<wj.drew.heap.size:=hZn;change Beg p _ _ _ _ _ _ _ _ _ _ _ _ _ _ wj.drew at hBn2;clear hBn hbkn hFn hZn;generalize wj.drew=wd at hBn2 hbkn2 hFn2 hZn2 hHeld ⊢;have c3:=hBn2.cell (k:=4) (v:=sv cl) rfl;have hfz:=hBn2.frozen 4;unfold sv at c3;refine tkH 0 rfl ?_;try simp only [frS,Act.put]
        refine tkH 1 rfl ?_;try simp only [frS,Act.put]
        refine tkH 2 rfl ?_;try simp only [frS,Act.put]
        refine tkH 4 rfl ?_;try simp only [frS,Act.put]
        refine tkH 5 rfl ?_;try simp only [frS,Act.put]
        refine rdH 3 rfl fun K hK=>?_
        go_simp;refine hK.out _ _ ?_ (fun hHeld=>?_)
        ·trivial
        clear hK K;try simp only [frS,Act.put]
        refine tkH 6 rfl ?_;try simp only [frS,Act.put]
        refine tkH 7 rfl ?_;try simp only [frS,Act.put]
        refine tkH 8 rfl ?_;try simp only [frS,Act.put]
        refine rdH 9 rfl fun K hK=>?_
        go_simp;refine hK.out _ _ ?_ (fun hHeld=>?_)
        ·trivial
        clear hK K;try simp only [frS,Act.put]
        refine wpAnyH_done (by kernel_rfl) ?_ _
        try dsimp only [Exit.then]
        generalize hWE:World.setCell wd ⟨A,4,none⟩ _=wl
        have hBn:Beg p w1.heap.size A E Wn N F rb2 bb2 vR2 vB2 (f+1) (f+1) (al ||| bit m) (cl ||| bit m) wl:=by
         have h9:=hBn2.clean (cl ||| bit m);unfold sv at h9;rw [← or_sv,← bit_sv] at h9;rw [← hWE];exact h9
        have hbkn:=hbkn2.setCell (p:=⟨A,4,none⟩) hAlo (.int .u32 ((cl ||| bit m).toNat:Int))
        have hE9:World.setCell wd ⟨A,4,none⟩ (.int .u32 ((cl ||| bit m).toNat:Int))=wl:=by
         rw [← hWE,← or_sv,← bit_sv];rfl
        rw [hE9] at hbkn
        have hFn:Bx wl G _:=fun q u hq=>by
         rw [← hWE,World.cell?_setCell_far _ _ _ _ (by show A≠G; omega)];exact hFn2 q u hq
        have hZn:G<wl.heap.size:=by rw [← hWE]; simp; exact hZn2
        clear hBn2 hbkn2 hFn2 hZn2 hWE hE9 c3 hfz hHeld;go_wp2_with fail;go_round
        case rel=>exact ⟨k+1,rfl,by omega,by rw [HAS.out,HCS.out,HC2.out,HAB.out]; exact ⟨hBn,hbkn,hFn,hZn⟩⟩
        case measure=>exact ms (by omega)
     ·obtain rfl:k=p.len f:=by omega
      have hd3:=Df (show ¬ ((p.len f:Int)<(p.len f:Int)) by omega);have hd4:=Df (show ¬ (p.len f<p.len f) by omega);go_wp2_with fail;go_round
      case rel=>exact ⟨f+1,rb2,bb2,vR2,vB2,rfl,by omega,by rw [HAT1.out,HCT1.out]; exact hBk,hbk⟩
      case measure=>exact ms (by omega)
  ·obtain rfl:f=p.funs.length:=by omega
   have hd1:=Df (show ¬ (p.funs.length:Int)<p.funs.length by omega);have hd2:=Df (show ¬ (p.funs.length<p.funs.length) by omega);go_wp2_with fail;go_ret;rw [allM_eq,cleanM_eq] at hB;obtain ⟨L,hLA,hLlo,hm⟩:=hB.mem hn.1 (HL1.out.below hbw);exact ⟨L,by rw [hLA]; rfl,hm,by omega,HBW.out _ hbw⟩
end Go.Proofs.YtkpjdanfpolimaaGreat
