/- expr.write of an operator with two arguments, walked. Conditions: the expression is valid and lies below the builder. -/
import Derived.Test.YtmbffkemfepekaaGreatDoorPtWr3
namespace Go.Proofs.YtmbffkemfepekaaGreatDoor
open Go.Shelf Go.RowKit Go.Sort
theorem set5_01 {W:World} {B:Nat} {u0 u1:Value} (h0:W.cell? ⟨B,0,none⟩=some u0) (h1:W.cell? ⟨B,1,none⟩=some u1) (v0 v1 v2 v3 v4:Value) :
  (((((W.setCell ⟨B,0,none⟩ v0).setCell ⟨B,1,none⟩ v1).setCell ⟨B,2,none⟩ v2).setCell ⟨B,3,none⟩ v3).setCell ⟨B,4,none⟩ v4).cell? ⟨B,0,none⟩=some v0∧(((((W.setCell ⟨B,0,none⟩ v0).setCell ⟨B,1,none⟩ v1).setCell ⟨B,2,none⟩ v2).setCell ⟨B,3,none⟩ v3).setCell ⟨B,4,none⟩ v4).cell? ⟨B,1,none⟩=some v1:=by
 have n (i j:Nat) (h:i≠j):(⟨B,i,none⟩:Addr)≠⟨B,j,none⟩:=by intro e; injection e; omega
 constructor
 ·rw [World.cell?_setCell_other _ _ _ _ (n 4 0 (by omega)),World.cell?_setCell_other _ _ _ _ (n 3 0 (by omega)),World.cell?_setCell_other _ _ _ _ (n 2 0 (by omega)),World.cell?_setCell_other _ _ _ _ (n 1 0 (by omega))]
  exact World.cell?_setCell_same _ _ _ h0
 ·rw [World.cell?_setCell_other _ _ _ _ (n 4 1 (by omega)),World.cell?_setCell_other _ _ _ _ (n 3 1 (by omega)),World.cell?_setCell_other _ _ _ _ (n 2 1 (by omega))]
  exact World.cell?_setCell_same _ _ _ ((World.cell?_setCell_other _ _ _ _ (n 0 1 (by omega))).trans h1)
/-- operators' contract for a region that fetches a known operator's sign and precedence beside an alloc. -/
theorem ops_pv (V:World) (b:Nat) (o:Int) (hk:3≤o∧o≤15) (h1:V.cell? ⟨b,1,none⟩=some (.int .i64 o)) (h2:b<V.heap.size):Calls Tryz.prog 71 #[] V fun e W=>∃ (M:Nat) (a r:Int) (g:Fn) (c:Array Value),e=.returned (.map (some M)) ∧
  W.cell? ⟨b,1,none⟩=some (.int .i64 o)∧b<W.heap.size∧Below V.heap.size V W∧(Instr.lookup 125 (.map (some M)) (.int .i64 o) false).run Tryz.prog W=.ok (.agg #[.string ⟨(signO o).toArray⟩,.int .i64 (precO o:Nat),.int .i64 a,.int .i64 r,.func g #[] c]) W ∧
  (∀ ob,(Instr.lookup 125 (.map (some M)) (.int .i64 o) false).run Tryz.prog (W.alloc ob)=.ok (.agg #[.string ⟨(signO o).toArray⟩,.int .i64 (precO o:Nat),.int .i64 a,.int .i64 r,.func g #[] c]) (W.alloc ob)) ∧
  (∀ ob,(W.alloc ob).cell? ⟨b,1,none⟩=some (.int .i64 o))∧∀ ob:Obj,b<(W.alloc ob).heap.size:=by
 refine (operators_any V).mono ?_
 rintro e W ⟨rfl,hS⟩
 obtain ⟨i,a,r,g,c,hf⟩:=find_prec (M:=V.heap.size) hk
 have hl:∀ W',Below W.heap.size W W'→(Instr.lookup 125 (.map (some V.heap.size)) (.int .i64 o) false).run Tryz.prog W'=.ok (.agg #[.string ⟨(signO o).toArray⟩,.int .i64 (precO o:Nat),.int .i64 a,.int .i64 r,.func g #[] c]) W':=fun W' hb=>by rw [(hS.map.below hb hS.map.lt).look o false,hf]; rfl
 have q1:=(hS.below.cell (p:=⟨b,1,none⟩) h2).trans h1
 have q2:=Nat.lt_of_lt_of_le h2 hS.below.size
 exact ⟨_,a,r,g,c,rfl,q1,q2,hS.below,hl W (Below.refl _ _),fun _=>hl _ (below_alloc _ _),fun ob=>(World.cell?_alloc_lt W ob ⟨b,1,none⟩ q2).trans q1,fun ob=>Nat.lt_of_lt_of_le q2 (below_alloc W ob).size⟩
set_option linter.unusedSimpArgs false
set_option maxRecDepth 100000 in
set_option maxHeartbeats 12800000 in
theorem write_bin (o:Int) (a1 a2:Ex) (hbin:3≤o∧o≤15) (hW1:WrC a1) (hW2:WrC a2):WrC (exBin o a1 a2):=by
 intro lo vs B b l w hg h hlo hB hbd hT hlen
 obtain ⟨A,c,e1,-,harg⟩:=h.arg
 obtain ⟨b0,off,k1,o1,n1,v1,A1,m1,c1,rfl,hb0,hla,x0,x1,x2,x3,x4⟩:=harg 0 (by show 0<2; omega)
 obtain ⟨b0',off',k2,o2,n2,v2,A2,m2,c2,hA2,-,hla2,u0,u1,u2,u3,u4⟩:=harg 1 (by show 1<2; omega)
 injection hA2 with hA2
 injection hA2 with hA3 hA4
 subst hA3
 subst hA4
 change LiesE w lo _ a1 at hla
 change LiesE w lo _ a2 at hla2
 simp only [Nat.zero_mul,Nat.add_zero] at x0 x1 x2 x3 x4
 simp only [Nat.one_mul] at u0 u1 u2 u3 u4
 simp only [exBin,Ex.kind,Ex.op,Ex.name,Ex.val,Ex.args,exC,List.length_cons,List.length_nil,Nat.zero_add] at e1
 subst e1
 rw [wr_bin] at hlen ⊢
 have HAR:=Lib.hid (fun (W:World) (l':List UInt8) (lim:Nat) (hb:Below B w W) (hbd':Bld B b l' W) hl=>arg_of a1 hW1 lo _ B b l' W lim hg.binl (hla.below' hb hlo) hlo (Nat.le_trans hB hb.size) hbd' (hT.next hb) hl)
 change Hid (∀ (W:World) (l':List UInt8) (lim:Nat),Below B w W→Bld B b l' W→_→Calls Tryz.prog 70 #[.pointer (some ⟨b,0,none⟩),.agg #[.int .i64 k1,.int .i64 o1,.string n1,.int .i64 v1,.slice A1 m1 c1],.int .i64 (lim:Nat)] W (WrP B b l' (parB lim (precE a1,wrE a1)) W)) at HAR
 have HAS:=Lib.hid (fun (W:World) (l':List UInt8) (lim:Nat) (hb:Below B w W) (hbd':Bld B b l' W) hl=>arg_of a2 hW2 lo _ B b l' W lim hg.binr (hla2.below' hb hlo) hlo (Nat.le_trans hB hb.size) hbd' (hT.next hb) hl)
 change Hid (∀ (W:World) (l':List UInt8) (lim:Nat),Below B w W→Bld B b l' W→_→Calls Tryz.prog 70 #[.pointer (some ⟨b,0,none⟩),.agg #[.int .i64 k2,.int .i64 o2,.string n2,.int .i64 v2,.slice A2 m2 c2],.int .i64 (lim:Nat)] W (WrP B b l' (parB lim (precE a2,wrE a2)) W)) at HAS
 have HBS:Hid (B≤w.heap.size):=Lib.hid hB
 have HBD:=Lib.hid hbd
 have hlt:=hbd.lt
 have HAC:Hid (∀ W,Below B w W→(W.cell? ⟨b0,off,none⟩=some (.int .i64 k1)∧W.cell? ⟨b0,off+1,none⟩=some (.int .i64 o1)∧W.cell? ⟨b0,off+2,none⟩=some (.string n1)∧W.cell? ⟨b0,off+3,none⟩=some (.int .i64 v1)∧W.cell? ⟨b0,off+4,none⟩=some (.slice A1 m1 c1))∧(W.cell? ⟨b0,off+5,none⟩=some (.int .i64 k2)∧W.cell? ⟨b0,off+5+1,none⟩=some (.int .i64 o2)∧W.cell? ⟨b0,off+5+2,none⟩=some (.string n2)∧W.cell? ⟨b0,off+5+3,none⟩=some (.int .i64 v2)∧W.cell? ⟨b0,off+5+4,none⟩=some (.slice A2 m2 c2))):=Lib.hid (fun W hb=>
  have hc:=fun j=>hb.cell (p:=⟨b0,j,none⟩) (by show b0<_; omega)
  ⟨⟨(hc _).trans x0,(hc _).trans x1,(hc _).trans x2,(hc _).trans x3,(hc _).trans x4⟩,(hc _).trans u0,(hc _).trans u1,(hc _).trans u2,(hc _).trans u3,(hc _).trans u4⟩)
 unfold WrP at HAR HAS ⊢
 have hO:=one_new w #[.int .i64 4,.int .i64 o,.string ByteArray.empty,.int .i64 0,.slice (some ⟨b0,off,none⟩) 2 c] 38
 clear hT hbd h hg hB harg hla hla2 x0 x1 x2 x3 x4 u0 u1 u2 u3 u4 hW1 hW2
 have HLEN:=Lib.hid hlen
 clear hlen
 go_enter Tryz.func41,Tryz.ntmps41
 go_upto_region 1 with fail
 have hz1:=hO.size
 generalize w.alloc _=w1 at hO hz1 ⊢
 have hbx:=hO.fst
 have HB1:=Lib.hid hO.below
 clear hO
 have HBX:=Lib.hid hbx
 obtain ⟨d0,d1,d2,d3,d4⟩:=bx5 hbx
 clear hbx
 have hzl:w.heap.size<w1.heap.size:=by omega
 go_upto_region 2 with fail
 go_cut [4] (fun r4 wx=>∃ Y:Nat,r4=.pointer (some ⟨Y,0,none⟩)∧wx.cell? ⟨Y,0,none⟩=some (.string ⟨(signO o).toArray⟩)∧wx.cell? ⟨Y,1,none⟩=some (.int .i64 (precO o:Nat))∧Below w1.heap.size w1 wx∧w1.heap.size≤Y∧Y<wx.heap.size)
 case first=>
  clear HAR HAS HAC HLEN HBD HBX HB1 HBS hlt hlo hb0
  have hzd0:w.heap.size<w1.heap.size:=hzl
  have y1:w1.drew.cell? ⟨w.heap.size,1,none⟩=some (.int .i64 o):=d1
  have hzd:w.heap.size<w1.drew.heap.size:=hzd0
  have hbe:Below w1.heap.size w1 w1.drew:=⟨rfl,rfl,rfl,Nat.le_refl _,fun _ _=>rfl⟩
  refine wp_region_held_drew (S:=fun w'=>w'.cell? ⟨w.heap.size,1,none⟩=some (.int .i64 o)∧w.heap.size<w'.heap.size) (by kernel_rfl) ⟨y1,hzd⟩ (fun hHeld=>?_)
  clear d0 d1 d2 d3 d4 hzd0
  generalize w1.drew=we at y1 hzd hHeld hbe ⊢
  have y1a:=fun ob=>(World.cell?_alloc_lt we ob ⟨w.heap.size,1,none⟩ hzd).trans y1
  have hza:=fun ob:Obj=>Nat.lt_of_lt_of_le hzd (below_alloc we ob).size
  have y1b:=y1a (.cells #[.string ⟨#[]⟩,.int .i64 0,.int .i64 0,.int .i64 0,.nilFunc] 124)
  have hzb:=hza (.cells #[.string ⟨#[]⟩,.int .i64 0,.int .i64 0,.int .i64 0,.nilFunc] 124)
  have za0:(we.alloc (.cells #[.string ⟨#[]⟩,.int .i64 0,.int .i64 0,.int .i64 0,.nilFunc] 124)).cell? ⟨we.heap.size,0,none⟩=some (.string ⟨#[]⟩):=bx_new we #[.string ⟨#[]⟩,.int .i64 0,.int .i64 0,.int .i64 0,.nilFunc] 124 0 _ rfl
  have fa0:(we.alloc (.cells #[.string ⟨#[]⟩,.int .i64 0,.int .i64 0,.int .i64 0,.nilFunc] 124)).frozen? ⟨we.heap.size,0,none⟩=false:=by simp
  have za1:(we.alloc (.cells #[.string ⟨#[]⟩,.int .i64 0,.int .i64 0,.int .i64 0,.nilFunc] 124)).cell? ⟨we.heap.size,1,none⟩=some (.int .i64 0):=bx_new we #[.string ⟨#[]⟩,.int .i64 0,.int .i64 0,.int .i64 0,.nilFunc] 124 1 _ rfl
  have fa1:(we.alloc (.cells #[.string ⟨#[]⟩,.int .i64 0,.int .i64 0,.int .i64 0,.nilFunc] 124)).frozen? ⟨we.heap.size,1,none⟩=false:=by simp
  have za2:(we.alloc (.cells #[.string ⟨#[]⟩,.int .i64 0,.int .i64 0,.int .i64 0,.nilFunc] 124)).cell? ⟨we.heap.size,2,none⟩=some (.int .i64 0):=bx_new we #[.string ⟨#[]⟩,.int .i64 0,.int .i64 0,.int .i64 0,.nilFunc] 124 2 _ rfl
  have fa2:(we.alloc (.cells #[.string ⟨#[]⟩,.int .i64 0,.int .i64 0,.int .i64 0,.nilFunc] 124)).frozen? ⟨we.heap.size,2,none⟩=false:=by simp
  have za3:(we.alloc (.cells #[.string ⟨#[]⟩,.int .i64 0,.int .i64 0,.int .i64 0,.nilFunc] 124)).cell? ⟨we.heap.size,3,none⟩=some (.int .i64 0):=bx_new we #[.string ⟨#[]⟩,.int .i64 0,.int .i64 0,.int .i64 0,.nilFunc] 124 3 _ rfl
  have fa3:(we.alloc (.cells #[.string ⟨#[]⟩,.int .i64 0,.int .i64 0,.int .i64 0,.nilFunc] 124)).frozen? ⟨we.heap.size,3,none⟩=false:=by simp
  have za4:(we.alloc (.cells #[.string ⟨#[]⟩,.int .i64 0,.int .i64 0,.int .i64 0,.nilFunc] 124)).cell? ⟨we.heap.size,4,none⟩=some (.nilFunc):=bx_new we #[.string ⟨#[]⟩,.int .i64 0,.int .i64 0,.int .i64 0,.nilFunc] 124 4 _ rfl
  have fa4:(we.alloc (.cells #[.string ⟨#[]⟩,.int .i64 0,.int .i64 0,.int .i64 0,.nilFunc] 124)).frozen? ⟨we.heap.size,4,none⟩=false:=by simp
  have hlz:we.heap.size<(we.alloc (.cells #[.string ⟨#[]⟩,.int .i64 0,.int .i64 0,.int .i64 0,.nilFunc] 124)).heap.size:=by simp
  have hne5:we.heap.size≠w.heap.size:=Nat.ne_of_gt hzd
  have HZ:=Lib.hid (And.intro za0 (And.intro za1 (And.intro za2 (And.intro za3 za4))))
  have HF:=Lib.hid (And.intro fa0 (And.intro fa1 (And.intro fa2 (And.intro fa3 fa4))))
  clear za0 za1 za2 za3 za4 fa0 fa1 fa2 fa3 fa4
  have H25A:Hid (∀ (W5:World) (s5 p5:Int) (g5:Fn) (c5:Array Value),Below we.heap.size we W5→(fun wx:World=>wx.cell? ⟨W5.heap.size,0,none⟩=some (.string ⟨(signO o).toArray⟩)∧wx.cell? ⟨W5.heap.size,1,none⟩=some (.int .i64 (precO o:Nat))∧Below w1.heap.size w1 wx∧w1.heap.size≤W5.heap.size∧W5.heap.size<wx.heap.size) (W5.alloc (.cells #[.string ⟨(signO o).toArray⟩,.int .i64 (precO o:Nat),.int .i64 s5,.int .i64 p5,.func g5 #[] c5] 124))):=Lib.hid (fun W5 s5 p5 g5 c5 hb=>⟨bx_new W5 #[.string ⟨(signO o).toArray⟩,.int .i64 (precO o:Nat),.int .i64 s5,.int .i64 p5,.func g5 #[] c5] 124 0 _ rfl,bx_new W5 #[.string ⟨(signO o).toArray⟩,.int .i64 (precO o:Nat),.int .i64 s5,.int .i64 p5,.func g5 #[] c5] 124 1 _ rfl,(hbe.trans (hb.mono hbe.size)).alloc (Nat.le_trans hbe.size hb.size) _,Nat.le_trans hbe.size hb.size,by simp⟩)
  have H25B:Hid (∀ (W5:World) (s5 p5:Int) (g5:Fn) (c5:Array Value),Below (we.alloc (.cells #[.string ⟨#[]⟩,.int .i64 0,.int .i64 0,.int .i64 0,.nilFunc] 124)).heap.size (we.alloc (.cells #[.string ⟨#[]⟩,.int .i64 0,.int .i64 0,.int .i64 0,.nilFunc] 124)) W5→W5.cell? ⟨we.heap.size,0,none⟩=some (.string ⟨#[]⟩)→W5.cell? ⟨we.heap.size,1,none⟩=some (.int .i64 0)→(fun wx:World=>wx.cell? ⟨we.heap.size,0,none⟩=some (.string ⟨(signO o).toArray⟩)∧wx.cell? ⟨we.heap.size,1,none⟩=some (.int .i64 (precO o:Nat))∧Below w1.heap.size w1 wx∧w1.heap.size≤we.heap.size∧we.heap.size<wx.heap.size) (((((W5.setCell ⟨we.heap.size,0,none⟩ (.string ⟨(signO o).toArray⟩)).setCell ⟨we.heap.size,1,none⟩ (.int .i64 (precO o:Nat))).setCell ⟨we.heap.size,2,none⟩ (.int .i64 s5)).setCell ⟨we.heap.size,3,none⟩ (.int .i64 p5)).setCell ⟨we.heap.size,4,none⟩ (.func g5 #[] c5))):=Lib.hid (fun W5 s5 p5 g5 c5 hb h0 h1=>⟨(set5_01 h0 h1 _ _ _ _ _).1,(set5_01 h0 h1 _ _ _ _ _).2,set5_below ((hbe.alloc hbe.size _).trans (hb.mono (Nat.le_of_lt (Nat.lt_of_le_of_lt hbe.size hlz)))) hbe.size _ _ _ _ _,hbe.size,by rw [set5_size]; exact Nat.lt_of_lt_of_le hlz hb.size⟩)
  refine wpAnyH_take (i:=1) (v:=?_) rfl (by kernel_rfl) (by kernel_rfl) (by kernel_rfl) (fun _ _ _ h=>h) (Or.inl ⟨by kernel_rfl,?_⟩) (by assumption) ?_
  rotate_left
  ·intro w hSw; (try dsimp only at hSw); go_simp; with_reducible rfl
  try simp only [List.getElem_toArray,List.getElem_cons_succ,List.getElem_cons_zero,Act.put,List.setIfInBounds_toArray,List.set_cons_zero,List.set_cons_succ]
  refine wpAnyH_take (i:=2) (v:=?_) rfl (by kernel_rfl) (by kernel_rfl) (by kernel_rfl) (fun _ _ _ h=>h) (Or.inl ⟨by kernel_rfl,?_⟩) (by assumption) ?_
  rotate_left
  ·intro w hSw; (try dsimp only at hSw); go_simp; with_reducible rfl
  try simp only [List.getElem_toArray,List.getElem_cons_succ,List.getElem_cons_zero,Act.put,List.setIfInBounds_toArray,List.set_cons_zero,List.set_cons_succ]
  refine wpAnyH_ready (rs:=[0,4]) (by kernel_rfl) (by simp) ?_
  refine (AllReadyH.cons rfl (fun K hK=>?_) (AllReadyH.cons rfl (fun K hK=>?_) AllReadyH.nil))
  ·go_simp
   first
   | (refine (ops_pv we w.heap.size o hbin y1 hzd).mono ?_; rintro e W5 ⟨M5,s5,p5,g5,c5,rfl,q1,q2,hb5a,l1,l2,q1a,q2a⟩)
   | (refine (ops_pv _ w.heap.size o hbin y1b hzb).mono ?_; rintro e W5 ⟨M5,s5,p5,g5,c5,rfl,r1,r2,hb5b,l1,l2,r1a,r2a⟩; have z0:=(hb5b.cell (p:=⟨we.heap.size,0,none⟩) hlz).trans HZ.out.1; have g0:=(hb5b.frozen (p:=⟨we.heap.size,0,none⟩) hlz).trans HF.out.1; have z1:=(hb5b.cell (p:=⟨we.heap.size,1,none⟩) hlz).trans HZ.out.2.1; have g1:=(hb5b.frozen (p:=⟨we.heap.size,1,none⟩) hlz).trans HF.out.2.1; have z2:=(hb5b.cell (p:=⟨we.heap.size,2,none⟩) hlz).trans HZ.out.2.2.1; have g2:=(hb5b.frozen (p:=⟨we.heap.size,2,none⟩) hlz).trans HF.out.2.2.1; have z3:=(hb5b.cell (p:=⟨we.heap.size,3,none⟩) hlz).trans HZ.out.2.2.2.1; have g3:=(hb5b.frozen (p:=⟨we.heap.size,3,none⟩) hlz).trans HF.out.2.2.2.1; have z4:=(hb5b.cell (p:=⟨we.heap.size,4,none⟩) hlz).trans HZ.out.2.2.2.2; have g4:=(hb5b.frozen (p:=⟨we.heap.size,4,none⟩) hlz).trans HF.out.2.2.2.2)
   try dsimp only
   refine hK.out _ _ ?_ (fun hHeld=>?_)
   ·first | exact ⟨q1,q2⟩ | exact ⟨r1,r2⟩
   clear hK K
   try simp only [List.getElem_toArray,List.getElem_cons_succ,List.getElem_cons_zero,Act.put,List.setIfInBounds_toArray,List.set_cons_zero,List.set_cons_succ]
   refine wpAnyH_ready (rs:=[3,4]) (by kernel_rfl) (by simp) ?_
   refine (AllReadyH.cons rfl (fun K hK=>?_) (AllReadyH.cons rfl (fun K hK=>?_) AllReadyH.nil))
   ·go_simp
    refine hK.out _ _ ?_ (fun hHeld=>?_)
    ·exact hHeld
    clear hK K
    try simp only [List.getElem_toArray,List.getElem_cons_succ,List.getElem_cons_zero,Act.put,List.setIfInBounds_toArray,List.set_cons_zero,List.set_cons_succ]
    refine wpAnyH_ready (rs:=[4]) (by kernel_rfl) (by simp) ?_
    refine AllReadyH.cons rfl (fun K hK=>?_) AllReadyH.nil
    go_simp
    refine hK.out _ _ ?_ (fun hHeld=>?_)
    ·first | exact ⟨q1a _,q2a _⟩ | exact ⟨y1a _,hza _⟩
    clear hK K
    try simp only [List.getElem_toArray,List.getElem_cons_succ,List.getElem_cons_zero,Act.put,List.setIfInBounds_toArray,List.set_cons_zero,List.set_cons_succ]
    refine wpAnyH_ready (rs:=[5]) (by kernel_rfl) (by simp) ?_
    refine AllReadyH.cons rfl (fun K hK=>?_) AllReadyH.nil
    go_simp
    refine hK.out _ _ ?_ (fun hHeld=>?_)
    ·first | exact ⟨q1a _,q2a _⟩ | exact ⟨(set5_far _ hne5 _ _ _ _ _ _).trans r1,Nat.lt_of_lt_of_eq r2 (set5_size _ _ _ _ _ _ _).symm⟩
    clear hK K
    try simp only [List.getElem_toArray,List.getElem_cons_succ,List.getElem_cons_zero,Act.put,List.setIfInBounds_toArray,List.set_cons_zero,List.set_cons_succ]
    refine wpAnyH_done (by kernel_rfl) ?_ _
    try dsimp only [Exit.then]
    go_wp2_with fail
    go_meet
    case rel=>first | exact ⟨_,rfl,H25A.out W5 _ _ _ _ hb5a⟩ | exact ⟨_,rfl,H25B.out W5 _ _ _ _ hb5b z0 z1⟩
   ·go_simp
    refine hK.out _ _ ?_ (fun hHeld=>?_)
    ·first | exact ⟨q1a _,q2a _⟩ | exact ⟨y1a _,hza _⟩
    clear hK K
    try simp only [List.getElem_toArray,List.getElem_cons_succ,List.getElem_cons_zero,Act.put,List.setIfInBounds_toArray,List.set_cons_zero,List.set_cons_succ]
    refine wpAnyH_ready (rs:=[3]) (by kernel_rfl) (by simp) ?_
    refine AllReadyH.cons rfl (fun K hK=>?_) AllReadyH.nil
    go_simp
    refine hK.out _ _ ?_ (fun hHeld=>?_)
    ·exact hHeld
    clear hK K
    try simp only [List.getElem_toArray,List.getElem_cons_succ,List.getElem_cons_zero,Act.put,List.setIfInBounds_toArray,List.set_cons_zero,List.set_cons_succ]
    refine wpAnyH_ready (rs:=[5]) (by kernel_rfl) (by simp) ?_
    refine AllReadyH.cons rfl (fun K hK=>?_) AllReadyH.nil
    go_simp
    refine hK.out _ _ ?_ (fun hHeld=>?_)
    ·first | exact ⟨q1a _,q2a _⟩ | exact ⟨(set5_far _ hne5 _ _ _ _ _ _).trans r1,Nat.lt_of_lt_of_eq r2 (set5_size _ _ _ _ _ _ _).symm⟩
    clear hK K
    try simp only [List.getElem_toArray,List.getElem_cons_succ,List.getElem_cons_zero,Act.put,List.setIfInBounds_toArray,List.set_cons_zero,List.set_cons_succ]
    refine wpAnyH_done (by kernel_rfl) ?_ _
    try dsimp only [Exit.then]
    go_wp2_with fail
    go_meet
    case rel=>first | exact ⟨_,rfl,H25A.out W5 _ _ _ _ hb5a⟩ | exact ⟨_,rfl,H25B.out W5 _ _ _ _ hb5b z0 z1⟩
  ·go_simp
   refine hK.out _ _ ?_ (fun hHeld=>?_)
   ·first | exact ⟨q1a _,q2a _⟩ | exact ⟨y1a _,hza _⟩
   clear hK K
   try simp only [List.getElem_toArray,List.getElem_cons_succ,List.getElem_cons_zero,Act.put,List.setIfInBounds_toArray,List.set_cons_zero,List.set_cons_succ]
   refine wpAnyH_ready (rs:=[0]) (by kernel_rfl) (by simp) ?_
   refine AllReadyH.cons rfl (fun K hK=>?_) AllReadyH.nil
   go_simp
   first
   | (refine (ops_pv we w.heap.size o hbin y1 hzd).mono ?_; rintro e W5 ⟨M5,s5,p5,g5,c5,rfl,q1,q2,hb5a,l1,l2,q1a,q2a⟩)
   | (refine (ops_pv _ w.heap.size o hbin y1b hzb).mono ?_; rintro e W5 ⟨M5,s5,p5,g5,c5,rfl,r1,r2,hb5b,l1,l2,r1a,r2a⟩; have z0:=(hb5b.cell (p:=⟨we.heap.size,0,none⟩) hlz).trans HZ.out.1; have g0:=(hb5b.frozen (p:=⟨we.heap.size,0,none⟩) hlz).trans HF.out.1; have z1:=(hb5b.cell (p:=⟨we.heap.size,1,none⟩) hlz).trans HZ.out.2.1; have g1:=(hb5b.frozen (p:=⟨we.heap.size,1,none⟩) hlz).trans HF.out.2.1; have z2:=(hb5b.cell (p:=⟨we.heap.size,2,none⟩) hlz).trans HZ.out.2.2.1; have g2:=(hb5b.frozen (p:=⟨we.heap.size,2,none⟩) hlz).trans HF.out.2.2.1; have z3:=(hb5b.cell (p:=⟨we.heap.size,3,none⟩) hlz).trans HZ.out.2.2.2.1; have g3:=(hb5b.frozen (p:=⟨we.heap.size,3,none⟩) hlz).trans HF.out.2.2.2.1; have z4:=(hb5b.cell (p:=⟨we.heap.size,4,none⟩) hlz).trans HZ.out.2.2.2.2; have g4:=(hb5b.frozen (p:=⟨we.heap.size,4,none⟩) hlz).trans HF.out.2.2.2.2)
   try dsimp only
   refine hK.out _ _ ?_ (fun hHeld=>?_)
   ·first | exact ⟨q1,q2⟩ | exact ⟨r1,r2⟩
   clear hK K
   try simp only [List.getElem_toArray,List.getElem_cons_succ,List.getElem_cons_zero,Act.put,List.setIfInBounds_toArray,List.set_cons_zero,List.set_cons_succ]
   refine wpAnyH_ready (rs:=[3]) (by kernel_rfl) (by simp) ?_
   refine AllReadyH.cons rfl (fun K hK=>?_) AllReadyH.nil
   go_simp
   refine hK.out _ _ ?_ (fun hHeld=>?_)
   ·exact hHeld
   clear hK K
   try simp only [List.getElem_toArray,List.getElem_cons_succ,List.getElem_cons_zero,Act.put,List.setIfInBounds_toArray,List.set_cons_zero,List.set_cons_succ]
   refine wpAnyH_ready (rs:=[5]) (by kernel_rfl) (by simp) ?_
   refine AllReadyH.cons rfl (fun K hK=>?_) AllReadyH.nil
   go_simp
   refine hK.out _ _ ?_ (fun hHeld=>?_)
   ·first | exact ⟨q1a _,q2a _⟩ | exact ⟨(set5_far _ hne5 _ _ _ _ _ _).trans r1,Nat.lt_of_lt_of_eq r2 (set5_size _ _ _ _ _ _ _).symm⟩
   clear hK K
   try simp only [List.getElem_toArray,List.getElem_cons_succ,List.getElem_cons_zero,Act.put,List.setIfInBounds_toArray,List.set_cons_zero,List.set_cons_succ]
   refine wpAnyH_done (by kernel_rfl) ?_ _
   try dsimp only [Exit.then]
   go_wp2_with fail
   go_meet
   case rel=>first | exact ⟨_,rfl,H25A.out W5 _ _ _ _ hb5a⟩ | exact ⟨_,rfl,H25B.out W5 _ _ _ _ hb5b z0 z1⟩
 case rest=>
  obtain ⟨Y,rfl,y0,y1,hb2,hY1,hY2⟩:=hcut
  have hbx2:=HBX.out.below hb2 hzl
  obtain ⟨z0,z1,z2,z3,z4⟩:=bx5 hbx2
  have hbw2:=HB1.out.trans (hb2.mono HB1.out.size)
  have HB2:=Lib.hid (HBD.out.old hbw2)
  have HW2:Hid (Wrote B b w wc):=Lib.hid (Wrote.old hbw2 HBS.out hlt)
  have HAX:=Lib.hid (HBD.out.apart hbw2 (X:=w.heap.size) (Nat.le_refl _) (by omega))
  have HAY:=Lib.hid (HBD.out.apart hbw2 (X:=Y) (by have:=HB1.out.size; omega) hY2)
  have HLP:Hid (leftP o=if precO o=3 then 4 else precO o):=Lib.hid rfl
  have hc13:o=3∨o=4∨o=5∨o=6∨o=7∨o=8∨o=9∨o=10∨o=11∨o=12∨o=13∨o=14∨o=15:=by omega
  have hp5:precO o≤5:=by rcases hc13 with rfl | rfl | rfl | rfl | rfl | rfl | rfl | rfl | rfl | rfl | rfl | rfl | rfl <;> decide
  have HSG:Hid ((⟨(signO o).toArray⟩:ByteArray).data.toList=signO o):=Lib.hid rfl
  have HSZ:Hid ((signO o).length≤2):=Lib.hid (by rcases hc13 with rfl | rfl | rfl | rfl | rfl | rfl | rfl | rfl | rfl | rfl | rfl | rfl | rfl <;> decide)
  clear hc13
  generalize hlo2:leftP o=lp at HLP HLEN
  generalize hpo2:precO o=p at HLP HLEN hp5 y1
  have HLO:=Lib.hid hlo2
  have HPO:=Lib.hid hpo2
  clear hlo2 hpo2
  obtain ⟨z3a,z4a⟩:=HAC.out _ HW2.out.below
  obtain ⟨a0,a1',a2',a3,a4⟩:=z3a
  obtain ⟨f0,f1,f2,f3,f4⟩:=z4a
  have HLA:Hid (l.length+(parB lp (precE a1,wrE a1)).length≤140737488355328):=Lib.hid (by have:=HLEN.out; simp at this; omega)
  have HA1:=Lib.hid (HAR.out wc l lp HW2.out.below HB2.out HLA.out)
  by_cases hp3:p=3
  ·subst hp3
   obtain rfl:lp=4:=by rw [HLP.out,if_pos rfl]
   change Hid (Calls Tryz.prog 70 #[.pointer (some ⟨b,0,none⟩),.agg #[.int .i64 k1,.int .i64 o1,.string n1,.int .i64 v1,.slice A1 m1 c1],.int .i64 4] wc _) at HA1
   go_upto_region 7 with (go_at_call 70; refine HA1.out.mono ?_; rintro e3 W4 ⟨rfl,hbd4,hw4⟩)
   have hax4:=(hw4.apart _ HAX.out)
   have hay4:=(hw4.apart _ HAY.out)
   have y04:W4.cell? ⟨Y,0,none⟩=some (.string ⟨(signO o).toArray⟩):=(cell_block hay4.1).trans y0
   have y14:W4.cell? ⟨Y,1,none⟩=some (.int .i64 3):=(cell_block hay4.1).trans y1
   have z44:W4.cell? ⟨w.heap.size,4,none⟩=some (.slice (some ⟨b0,off,none⟩) 2 c):=(cell_block hax4.1).trans z4
   have HX4:=Lib.hid hax4.2
   have HY4:=Lib.hid hay4.2
   have HB4:=Lib.hid hbd4
   have HW4:Hid (Wrote B b w W4):=Lib.hid (HW2.out.trans hw4)
   clear hax4 hay4 hbd4 hw4 z0 z1 z2 z3 z4 y0 y1 a0 a1' a2' a3 a4 f0 f1 f2 f3 f4 hbx2 hb2 hbw2 d0 d1 d2 d3 d4
   obtain ⟨sg,hsg⟩:∃ sg:ByteArray,sg=⟨(signO o).toArray⟩:=⟨_,rfl⟩
   have HSD:Hid (sg.data.toList=signO o):=Lib.hid (by rw [hsg])
   rw [← hsg] at y04
   have hsz:sg.size≤2:=by
    have h1:sg.size=sg.data.toList.length:=by rw [Array.length_toList]; rfl
    rw [h1,HSD.out]; exact HSZ.out
   clear hsg
   have l1:¬ 9223372036854775807<1+sg.size:=by omega
   have l2:¬ 9223372036854775807<1+sg.size+1:=by omega
   have hap:(⟨#[32]⟩++sg ++ ⟨#[32]⟩:ByteArray).data.toList=32::(signO o++[32]):=by rw [← HSD.out]; simp
   have hss:(⟨#[32]⟩++sg ++ ⟨#[32]⟩:ByteArray).size=(signO o).length+2:=by
    have h1:(⟨#[32]⟩++sg ++ ⟨#[32]⟩:ByteArray).size=(⟨#[32]⟩++sg ++ ⟨#[32]⟩:ByteArray).data.toList.length:=by rw [Array.length_toList]; rfl
    rw [h1,hap]; simp
   have HST:=Lib.hid (wr_str HB4.out (Nat.le_trans HBS.out HW4.out.below.size) (⟨#[32]⟩++sg ++ ⟨#[32]⟩) (by rw [hss]; have:=HLEN.out; simp at this ⊢; omega) W4 (Below.refl _ _))
   rw [hap] at HST
   clear hap hss
   go_upto_region 8 with (go_at_call 18; refine HST.out.mono ?_; rintro e5 W5 ⟨rfl,hbd5,hw5⟩)
   have y15:W5.drew.cell? ⟨Y,1,none⟩=some (.int .i64 3):=(cell_block (hw5.apart _ HY4.out).1).trans y14
   have z45:W5.drew.cell? ⟨w.heap.size,4,none⟩=some (.slice (some ⟨b0,off,none⟩) 2 c):=(cell_block (hw5.apart _ HX4.out).1).trans z44
   have hw5d:Wrote B b w W5.drew:=(HW4.out.trans hw5).trans ⟨⟨rfl,rfl,rfl,Nat.le_refl _,fun _ _=>rfl⟩,fun X hX=>⟨rfl,hX⟩⟩
   have HW5:=Lib.hid hw5d
   have hf:=(HAC.out _ hw5d.below).2
   have HX5:=Lib.hid (hw5.apart _ HX4.out).2
   have HY5:=Lib.hid (hw5.apart _ HY4.out).2
   have HB5:Hid (Bld B b (l++parB 4 (precE a1,wrE a1)++32::(signO o++[32])) W5.drew):=Lib.hid hbd5
   have HA2:=Lib.hid (HAS.out W5.drew _ (3+1) hw5d.below HB5.out (by have:=HLEN.out; simp at this ⊢; omega))
   change Hid (Calls Tryz.prog 70 #[.pointer (some ⟨b,0,none⟩),.agg #[.int .i64 k2,.int .i64 o2,.string n2,.int .i64 v2,.slice A2 m2 c2],.int .i64 4] W5.drew _) at HA2
   have HFIN:Hid (∀ W,Bld B b (l++parB 4 (precE a1,wrE a1)++32::(signO o++[32])++parB (3+1) (precE a2,wrE a2)) W→Bld B b (l++(parB (leftP o) (precE a1,wrE a1)++32::(signO o++32::parB (precO o+1) (precE a2,wrE a2)))) W):=Lib.hid (fun W h=>by
    rw [HLO.out,HPO.out]
    have e:l++(parB 4 (precE a1,wrE a1)++32::(signO o++32::parB (3+1) (precE a2,wrE a2)))=l++parB 4 (precE a1,wrE a1)++32::(signO o++[32])++parB (3+1) (precE a2,wrE a2):=by simp
    rw [e]; exact h)
   clear hbd5 hw5 hw5d y14 z44 y04
   replace HX5:Hid (Apart b W5.drew w.heap.size):=HX5
   replace HY5:Hid (Apart b W5.drew Y):=HY5
   refine wp_region_held_drew (S:=fun w'=>w'.cell? ⟨w.heap.size,4,none⟩=some (.slice (some ⟨b0,off,none⟩) 2 c)∧w'.cell? ⟨Y,1,none⟩=some (.int .i64 3)∧w'.cell? ⟨b0,off+5,none⟩=some (.int .i64 k2)∧w'.cell? ⟨b0,off+5+1,none⟩=some (.int .i64 o2)∧w'.cell? ⟨b0,off+5+2,none⟩=some (.string n2)∧w'.cell? ⟨b0,off+5+3,none⟩=some (.int .i64 v2)∧w'.cell? ⟨b0,off+5+4,none⟩=some (.slice A2 m2 c2)) (by kernel_rfl) ⟨z45,y15,hf⟩ (fun hHeld=>?_)
   generalize W5.drew=we at y15 z45 hf HW5 HB5 HA2 HX5 HY5 hHeld ⊢
   refine wpAnyH_take (i:=0) (v:=?_) rfl (by kernel_rfl) (by kernel_rfl) (by kernel_rfl) (fun _ _ _ h=>h) (Or.inl ⟨by kernel_rfl,?_⟩) (by assumption) ?_
   rotate_left
   ·intro w hSw; (try dsimp only at hSw); go_simp; with_reducible rfl
   try simp only [List.getElem_toArray,List.getElem_cons_succ,List.getElem_cons_zero,Act.put,List.setIfInBounds_toArray,List.set_cons_zero,List.set_cons_succ]
   refine wpAnyH_take (i:=1) (v:=?_) rfl (by kernel_rfl) (by kernel_rfl) (by kernel_rfl) (fun _ _ _ h=>h) (Or.inl ⟨by kernel_rfl,?_⟩) (by assumption) ?_
   rotate_left
   ·intro w hSw; (try dsimp only at hSw); go_simp; with_reducible rfl
   try simp only [List.getElem_toArray,List.getElem_cons_succ,List.getElem_cons_zero,Act.put,List.setIfInBounds_toArray,List.set_cons_zero,List.set_cons_succ]
   refine wpAnyH_take (i:=2) (v:=?_) rfl (by kernel_rfl) (by kernel_rfl) (by kernel_rfl) (fun _ _ _ h=>h) (Or.inl ⟨by kernel_rfl,?_⟩) (by assumption) ?_
   rotate_left
   ·intro w hSw; (try dsimp only at hSw); go_simp; with_reducible rfl
   try simp only [List.getElem_toArray,List.getElem_cons_succ,List.getElem_cons_zero,Act.put,List.setIfInBounds_toArray,List.set_cons_zero,List.set_cons_succ]
   refine wpAnyH_take (i:=3) (v:=?_) rfl (by kernel_rfl) (by kernel_rfl) (by kernel_rfl) (fun _ _ _ h=>h) (Or.inl ⟨by kernel_rfl,?_⟩) (by assumption) ?_
   rotate_left
   ·intro w hSw; (try dsimp only at hSw); go_simp; with_reducible rfl
   try simp only [List.getElem_toArray,List.getElem_cons_succ,List.getElem_cons_zero,Act.put,List.setIfInBounds_toArray,List.set_cons_zero,List.set_cons_succ]
   refine wpAnyH_take (i:=4) (v:=?_) rfl (by kernel_rfl) (by kernel_rfl) (by kernel_rfl) (fun _ _ _ h=>h) (Or.inl ⟨by kernel_rfl,?_⟩) (by assumption) ?_
   rotate_left
   ·intro w hSw; (try dsimp only at hSw); go_simp; with_reducible rfl
   try simp only [List.getElem_toArray,List.getElem_cons_succ,List.getElem_cons_zero,Act.put,List.setIfInBounds_toArray,List.set_cons_zero,List.set_cons_succ]
   refine wpAnyH_take (i:=5) (v:=?_) rfl (by kernel_rfl) (by kernel_rfl) (by kernel_rfl) (fun _ _ _ h=>h) (Or.inl ⟨by kernel_rfl,?_⟩) (by assumption) ?_
   rotate_left
   ·intro w hSw; (try dsimp only at hSw); go_simp; with_reducible rfl
   try simp only [List.getElem_toArray,List.getElem_cons_succ,List.getElem_cons_zero,Act.put,List.setIfInBounds_toArray,List.set_cons_zero,List.set_cons_succ]
   refine wpAnyH_take (i:=6) (v:=?_) rfl (by kernel_rfl) (by kernel_rfl) (by kernel_rfl) (fun _ _ _ h=>h) (Or.inl ⟨by kernel_rfl,?_⟩) (by assumption) ?_
   rotate_left
   ·intro w hSw; (try dsimp only at hSw); go_simp; with_reducible rfl
   try simp only [List.getElem_toArray,List.getElem_cons_succ,List.getElem_cons_zero,Act.put,List.setIfInBounds_toArray,List.set_cons_zero,List.set_cons_succ]
   refine wpAnyH_take (i:=7) (v:=?_) rfl (by kernel_rfl) (by kernel_rfl) (by kernel_rfl) (fun _ _ _ h=>h) (Or.inl ⟨by kernel_rfl,?_⟩) (by assumption) ?_
   rotate_left
   ·intro w hSw; (try dsimp only at hSw); go_simp; with_reducible rfl
   try simp only [List.getElem_toArray,List.getElem_cons_succ,List.getElem_cons_zero,Act.put,List.setIfInBounds_toArray,List.set_cons_zero,List.set_cons_succ]
   refine wpAnyH_ready (rs:=[8]) (by kernel_rfl) (by simp) ?_
   refine AllReadyH.cons rfl (fun K hK=>?_) AllReadyH.nil
   go_simp
   refine HA2.out.mono ?_
   rintro e6 W6 ⟨rfl,hbd6,hw6⟩
   try dsimp only
   refine hK.out _ _ ?_ (fun hHeld=>?_)
   ·exact ⟨(cell_block (hw6.apart _ HX5.out).1).trans z45,(cell_block (hw6.apart _ HY5.out).1).trans y15,(HAC.out _ (HW5.out.trans hw6).below).2⟩
   clear hK K
   try simp only [List.getElem_toArray,List.getElem_cons_succ,List.getElem_cons_zero,Act.put,List.setIfInBounds_toArray,List.set_cons_zero,List.set_cons_succ]
   refine wpAnyH_done (by kernel_rfl) ?_ _
   try dsimp only [Exit.then]
   go_wp2_with fail
   first | go_end0 | (simp only [Exit.inBlock,Exit.then]; refine bodyPost_ret (results_none rfl _ _ _) rfl ?_)
   exact ⟨rfl,HFIN.out _ hbd6,HW5.out.trans hw6⟩
  ·obtain rfl:lp=p:=by rw [HLP.out,if_neg hp3]
   have k1a:((lp:Int) == 3)=false:=by simpa using (by omega:¬ (lp:Int)=3)
   have k1b:¬ (lp:Int)=3:=by omega
   have k1c:(lp == 3)=false:=by simpa using hp3
   have k1d:IntKind.i64.wrap ((lp:Int)+1)=(lp:Int)+1:=by rw [IntKind.wrap_i64]; omega
   change Hid (Calls Tryz.prog 70 #[.pointer (some ⟨b,0,none⟩),.agg #[.int .i64 k1,.int .i64 o1,.string n1,.int .i64 v1,.slice A1 m1 c1],.int .i64 (lp:Nat)] wc _) at HA1
   go_upto_region 7 with (go_at_call 70; refine HA1.out.mono ?_; rintro e3 W4 ⟨rfl,hbd4,hw4⟩)
   have hax4:=(hw4.apart _ HAX.out)
   have hay4:=(hw4.apart _ HAY.out)
   have y04:W4.cell? ⟨Y,0,none⟩=some (.string ⟨(signO o).toArray⟩):=(cell_block hay4.1).trans y0
   have y14:W4.cell? ⟨Y,1,none⟩=some (.int .i64 (lp:Nat)):=(cell_block hay4.1).trans y1
   have z44:W4.cell? ⟨w.heap.size,4,none⟩=some (.slice (some ⟨b0,off,none⟩) 2 c):=(cell_block hax4.1).trans z4
   have HX4:=Lib.hid hax4.2
   have HY4:=Lib.hid hay4.2
   have HB4:=Lib.hid hbd4
   have HW4:Hid (Wrote B b w W4):=Lib.hid (HW2.out.trans hw4)
   clear hax4 hay4 hbd4 hw4 z0 z1 z2 z3 z4 y0 y1 a0 a1' a2' a3 a4 f0 f1 f2 f3 f4 hbx2 hb2 hbw2 d0 d1 d2 d3 d4
   obtain ⟨sg,hsg⟩:∃ sg:ByteArray,sg=⟨(signO o).toArray⟩:=⟨_,rfl⟩
   have HSD:Hid (sg.data.toList=signO o):=Lib.hid (by rw [hsg])
   rw [← hsg] at y04
   have hsz:sg.size≤2:=by
    have h1:sg.size=sg.data.toList.length:=by rw [Array.length_toList]; rfl
    rw [h1,HSD.out]; exact HSZ.out
   clear hsg
   have l1:¬ 9223372036854775807<1+sg.size:=by omega
   have l2:¬ 9223372036854775807<1+sg.size+1:=by omega
   have hap:(⟨#[32]⟩++sg ++ ⟨#[32]⟩:ByteArray).data.toList=32::(signO o++[32]):=by rw [← HSD.out]; simp
   have hss:(⟨#[32]⟩++sg ++ ⟨#[32]⟩:ByteArray).size=(signO o).length+2:=by
    have h1:(⟨#[32]⟩++sg ++ ⟨#[32]⟩:ByteArray).size=(⟨#[32]⟩++sg ++ ⟨#[32]⟩:ByteArray).data.toList.length:=by rw [Array.length_toList]; rfl
    rw [h1,hap]; simp
   have HST:=Lib.hid (wr_str HB4.out (Nat.le_trans HBS.out HW4.out.below.size) (⟨#[32]⟩++sg ++ ⟨#[32]⟩) (by rw [hss]; have:=HLEN.out; simp at this ⊢; omega) W4 (Below.refl _ _))
   rw [hap] at HST
   clear hap hss
   go_upto_region 8 with (go_at_call 18; refine HST.out.mono ?_; rintro e5 W5 ⟨rfl,hbd5,hw5⟩)
   have y15:W5.drew.cell? ⟨Y,1,none⟩=some (.int .i64 (lp:Nat)):=(cell_block (hw5.apart _ HY4.out).1).trans y14
   have z45:W5.drew.cell? ⟨w.heap.size,4,none⟩=some (.slice (some ⟨b0,off,none⟩) 2 c):=(cell_block (hw5.apart _ HX4.out).1).trans z44
   have hw5d:Wrote B b w W5.drew:=(HW4.out.trans hw5).trans ⟨⟨rfl,rfl,rfl,Nat.le_refl _,fun _ _=>rfl⟩,fun X hX=>⟨rfl,hX⟩⟩
   have HW5:=Lib.hid hw5d
   have hf:=(HAC.out _ hw5d.below).2
   have HX5:=Lib.hid (hw5.apart _ HX4.out).2
   have HY5:=Lib.hid (hw5.apart _ HY4.out).2
   have HB5:Hid (Bld B b (l++parB lp (precE a1,wrE a1)++32::(signO o++[32])) W5.drew):=Lib.hid hbd5
   have ha2:=HAS.out W5.drew _ (lp+1) hw5d.below HB5.out (by have:=HLEN.out; simp at this ⊢; omega)
   rw [show ((lp+1:Nat):Int)=(lp:Int)+1 from by omega] at ha2
   have HA2:=Lib.hid ha2
   clear ha2
   have HFIN:Hid (∀ W,Bld B b (l++parB lp (precE a1,wrE a1)++32::(signO o++[32])++parB (lp+1) (precE a2,wrE a2)) W→Bld B b (l++(parB (leftP o) (precE a1,wrE a1)++32::(signO o++32::parB (precO o+1) (precE a2,wrE a2)))) W):=Lib.hid (fun W h=>by
    rw [HLO.out,HPO.out]
    have e:l++(parB lp (precE a1,wrE a1)++32::(signO o++32::parB (lp+1) (precE a2,wrE a2)))=l++parB lp (precE a1,wrE a1)++32::(signO o++[32])++parB (lp+1) (precE a2,wrE a2):=by simp
    rw [e]; exact h)
   clear hbd5 hw5 hw5d y14 z44 y04
   replace HX5:Hid (Apart b W5.drew w.heap.size):=HX5
   replace HY5:Hid (Apart b W5.drew Y):=HY5
   refine wp_region_held_drew (S:=fun w'=>w'.cell? ⟨w.heap.size,4,none⟩=some (.slice (some ⟨b0,off,none⟩) 2 c)∧w'.cell? ⟨Y,1,none⟩=some (.int .i64 (lp:Nat))∧w'.cell? ⟨b0,off+5,none⟩=some (.int .i64 k2)∧w'.cell? ⟨b0,off+5+1,none⟩=some (.int .i64 o2)∧w'.cell? ⟨b0,off+5+2,none⟩=some (.string n2)∧w'.cell? ⟨b0,off+5+3,none⟩=some (.int .i64 v2)∧w'.cell? ⟨b0,off+5+4,none⟩=some (.slice A2 m2 c2)) (by kernel_rfl) ⟨z45,y15,hf⟩ (fun hHeld=>?_)
   generalize W5.drew=we at y15 z45 hf HW5 HB5 HA2 HX5 HY5 hHeld ⊢
   refine wpAnyH_take (i:=0) (v:=?_) rfl (by kernel_rfl) (by kernel_rfl) (by kernel_rfl) (fun _ _ _ h=>h) (Or.inl ⟨by kernel_rfl,?_⟩) (by assumption) ?_
   rotate_left
   ·intro w hSw; (try dsimp only at hSw); go_simp; with_reducible rfl
   try simp only [List.getElem_toArray,List.getElem_cons_succ,List.getElem_cons_zero,Act.put,List.setIfInBounds_toArray,List.set_cons_zero,List.set_cons_succ]
   refine wpAnyH_take (i:=1) (v:=?_) rfl (by kernel_rfl) (by kernel_rfl) (by kernel_rfl) (fun _ _ _ h=>h) (Or.inl ⟨by kernel_rfl,?_⟩) (by assumption) ?_
   rotate_left
   ·intro w hSw; (try dsimp only at hSw); go_simp; with_reducible rfl
   try simp only [List.getElem_toArray,List.getElem_cons_succ,List.getElem_cons_zero,Act.put,List.setIfInBounds_toArray,List.set_cons_zero,List.set_cons_succ]
   refine wpAnyH_take (i:=2) (v:=?_) rfl (by kernel_rfl) (by kernel_rfl) (by kernel_rfl) (fun _ _ _ h=>h) (Or.inl ⟨by kernel_rfl,?_⟩) (by assumption) ?_
   rotate_left
   ·intro w hSw; (try dsimp only at hSw); go_simp; with_reducible rfl
   try simp only [List.getElem_toArray,List.getElem_cons_succ,List.getElem_cons_zero,Act.put,List.setIfInBounds_toArray,List.set_cons_zero,List.set_cons_succ]
   refine wpAnyH_take (i:=3) (v:=?_) rfl (by kernel_rfl) (by kernel_rfl) (by kernel_rfl) (fun _ _ _ h=>h) (Or.inl ⟨by kernel_rfl,?_⟩) (by assumption) ?_
   rotate_left
   ·intro w hSw; (try dsimp only at hSw); go_simp; with_reducible rfl
   try simp only [List.getElem_toArray,List.getElem_cons_succ,List.getElem_cons_zero,Act.put,List.setIfInBounds_toArray,List.set_cons_zero,List.set_cons_succ]
   refine wpAnyH_take (i:=4) (v:=?_) rfl (by kernel_rfl) (by kernel_rfl) (by kernel_rfl) (fun _ _ _ h=>h) (Or.inl ⟨by kernel_rfl,?_⟩) (by assumption) ?_
   rotate_left
   ·intro w hSw; (try dsimp only at hSw); go_simp; with_reducible rfl
   try simp only [List.getElem_toArray,List.getElem_cons_succ,List.getElem_cons_zero,Act.put,List.setIfInBounds_toArray,List.set_cons_zero,List.set_cons_succ]
   refine wpAnyH_take (i:=5) (v:=?_) rfl (by kernel_rfl) (by kernel_rfl) (by kernel_rfl) (fun _ _ _ h=>h) (Or.inl ⟨by kernel_rfl,?_⟩) (by assumption) ?_
   rotate_left
   ·intro w hSw; (try dsimp only at hSw); go_simp; with_reducible rfl
   try simp only [List.getElem_toArray,List.getElem_cons_succ,List.getElem_cons_zero,Act.put,List.setIfInBounds_toArray,List.set_cons_zero,List.set_cons_succ]
   refine wpAnyH_take (i:=6) (v:=?_) rfl (by kernel_rfl) (by kernel_rfl) (by kernel_rfl) (fun _ _ _ h=>h) (Or.inl ⟨by kernel_rfl,?_⟩) (by assumption) ?_
   rotate_left
   ·intro w hSw; (try dsimp only at hSw); go_simp; with_reducible rfl
   try simp only [List.getElem_toArray,List.getElem_cons_succ,List.getElem_cons_zero,Act.put,List.setIfInBounds_toArray,List.set_cons_zero,List.set_cons_succ]
   refine wpAnyH_take (i:=7) (v:=?_) rfl (by kernel_rfl) (by kernel_rfl) (by kernel_rfl) (fun _ _ _ h=>h) (Or.inl ⟨by kernel_rfl,?_⟩) (by assumption) ?_
   rotate_left
   ·intro w hSw; (try dsimp only at hSw); go_simp; with_reducible rfl
   try simp only [List.getElem_toArray,List.getElem_cons_succ,List.getElem_cons_zero,Act.put,List.setIfInBounds_toArray,List.set_cons_zero,List.set_cons_succ]
   refine wpAnyH_ready (rs:=[8]) (by kernel_rfl) (by simp) ?_
   refine AllReadyH.cons rfl (fun K hK=>?_) AllReadyH.nil
   go_simp
   refine HA2.out.mono ?_
   rintro e6 W6 ⟨rfl,hbd6,hw6⟩
   try dsimp only
   refine hK.out _ _ ?_ (fun hHeld=>?_)
   ·exact ⟨(cell_block (hw6.apart _ HX5.out).1).trans z45,(cell_block (hw6.apart _ HY5.out).1).trans y15,(HAC.out _ (HW5.out.trans hw6).below).2⟩
   clear hK K
   try simp only [List.getElem_toArray,List.getElem_cons_succ,List.getElem_cons_zero,Act.put,List.setIfInBounds_toArray,List.set_cons_zero,List.set_cons_succ]
   refine wpAnyH_done (by kernel_rfl) ?_ _
   try dsimp only [Exit.then]
   go_wp2_with fail
   first | go_end0 | (simp only [Exit.inBlock,Exit.then]; refine bodyPost_ret (results_none rfl _ _ _) rfl ?_)
   exact ⟨rfl,HFIN.out _ hbd6,HW5.out.trans hw6⟩
end Go.Proofs.YtmbffkemfepekaaGreatDoor
