/- (*policy.reader).expr, walked. Conditions: the tokens lie below the reader's block, the last one is of kind 0. -/
import Derived.Test.YtmbffkemfepekaaGreatDoorPtRd4
namespace Go.Proofs.YtmbffkemfepekaaGreatDoor
open Go.RowKit
/-- What the reader's expr gives. -/
def PexR (P:Nat) (A:Option Addr) (c:Nat) (ts:List Tk) (r:Ex × PSt) (w:World):Ending→World→Prop:=fun e W=>Turn P (P+1) w W∧W.heap[P]? = some (pdB A ts.length c r.2.k r.2.err) ∧
 ∃ vs,e=.returned (.agg vs.toArray)∧LiesE (mask (fun X=>decide (X<w.heap.size)) W) W.heap.size vs r.1
theorem tkCs_drop (ts:List Tk) (k:Nat):tkCs (ts.drop k)=(tkCs ts).drop (k * 4):=by
 induction ts generalizing k with
 | nil=>simp [tkCs]
 | cons t ts ih=>
  cases k with
  | zero=>simp
  | succ k=>
   rw [List.drop_succ_cons,ih]
   unfold tkCs
   rw [List.flatMap_cons,show (k+1) * 4=4+k * 4 from by omega]
   rw [← List.drop_drop]
   rfl
/-- The end of the reader's expr: the result's box is written to. -/
theorem pexpr_end {P c k f:Nat} {A:Option Addr} {ts:List Tk} {w w1 W:World} {x:Ex} {v0 v1 v2 v3 v4:Value} (hb:W.heap[P]? = some (pdB A ts.length c k f)) (ht:Turn P (P+1) w W) (hP:P<w.heap.size) (hL:LiesE (mask (fun X=>decide (X<w1.heap.size)) W) W.heap.size [v0,v1,v2,v3,v4] x) (hz:w.heap.size<w1.heap.size) :
  Turn P (P+1) w (((((W.setCell ⟨w.heap.size,0,none⟩ v0).setCell ⟨w.heap.size,1,none⟩ v1).setCell ⟨w.heap.size,2,none⟩ v2).setCell ⟨w.heap.size,3,none⟩ v3).setCell ⟨w.heap.size,4,none⟩ v4) ∧
  (((((W.setCell ⟨w.heap.size,0,none⟩ v0).setCell ⟨w.heap.size,1,none⟩ v1).setCell ⟨w.heap.size,2,none⟩ v2).setCell ⟨w.heap.size,3,none⟩ v3).setCell ⟨w.heap.size,4,none⟩ v4).heap[P]? = some (pdB A ts.length c k f) ∧
  ∃ vs,Ending.returned (.agg #[v0,v1,v2,v3,v4])=.returned (.agg vs.toArray)∧LiesE (mask (fun X=>decide (X<w.heap.size)) (((((W.setCell ⟨w.heap.size,0,none⟩ v0).setCell ⟨w.heap.size,1,none⟩ v1).setCell ⟨w.heap.size,2,none⟩ v2).setCell ⟨w.heap.size,3,none⟩ v3).setCell ⟨w.heap.size,4,none⟩ v4)) (((((W.setCell ⟨w.heap.size,0,none⟩ v0).setCell ⟨w.heap.size,1,none⟩ v1).setCell ⟨w.heap.size,2,none⟩ v2).setCell ⟨w.heap.size,3,none⟩ v3).setCell ⟨w.heap.size,4,none⟩ v4).heap.size vs x:=by
 refine ⟨((((ht.far (a:=⟨w.heap.size,0,none⟩) (Nat.le_refl _) _).far (a:=⟨w.heap.size,1,none⟩) (Nat.le_refl _) _).far (a:=⟨w.heap.size,2,none⟩) (Nat.le_refl _) _).far (a:=⟨w.heap.size,3,none⟩) (Nat.le_refl _) _).far (a:=⟨w.heap.size,4,none⟩) (Nat.le_refl _) _,(heap_set5 (by omega) _ _ _ _ _).trans hb,[v0,v1,v2,v3,v4],rfl,?_⟩
 rw [set5_size]
 exact hL.turn (fun X _ h=>by have:=of_decide_eq_false h; exact decide_eq_false (by omega)) (Nat.le_refl _) (fun X _ hX=>heap_set5 (by have:=of_decide_eq_false hX; omega) _ _ _ _ _)
set_option maxRecDepth 100000 in
set_option maxHeartbeats 12800000 in
theorem pexpr_any {B P c:Nat} {A:Option Addr} {ts:List Tk} {s:PSt} {w:World} (h:Prd B P A c ts s w):Calls Tryz.prog 23 #[.pointer (some ⟨P,0,none⟩)] w (PexR P A c ts (exprP ts s) w):=by
 have hPw:=h.ltw
 obtain ⟨k,f⟩:=s
 have hX:Hid (exprP ts ⟨k,f⟩=if f≠0 then (ex0,⟨k,f⟩) else ((exprR (ts.drop k)).1,movP ts k (exprR (ts.drop k)))):=Lib.hid rfl
 generalize exprP ts ⟨k,f⟩=r at hX ⊢
 unfold PexR
 have hE:=blk_new w (.cells zEx 38)
 have hb1:=below_alloc w (.cells zEx 38)
 have hz1:w.heap.size<(w.alloc (.cells zEx 38)).heap.size:=by simp
 unfold zEx at hE hb1 hz1
 have h1:=h.next hb1
 have ht1:=Turn.of_below (lo:=P) (hi:=P+1) hb1
 by_cases hf:f=0
 rotate_left
 ·obtain rfl:r=(ex0,⟨k,f⟩):=by rw [hX.out,if_pos hf]
  have n0:((f:Nat):Int)≠0:=by omega
  have n1:(((f:Nat):Int) != 0)=true:=by simpa using hf
  have n2:(f != 0)=true:=by simpa using hf
  clear hX h
  go_enter Tryz.func23,Tryz.ntmps23
  go_upto_region 1 with fail
  generalize w.alloc _=w1 at hE hb1 hz1 h1 ht1 ⊢
  obtain ⟨c0,c1,c2,c3,c4⟩:=h1.cells
  obtain ⟨⟨y0,y1,y2,y3,y4⟩,y5⟩:=blk5 hE
  go_wp2_with fail
  try simp only [Exit.inBlock,Exit.then]
  refine bodyPost_ret (results_cell1 rfl rfl (load5 (blk_set5 hE _ _ _ _ _))) rfl ?_
  refine ⟨?_,(heap_set5 (by omega) _ _ _ _ _).trans h1.blk,_,rfl,lies_zero _ _⟩
  exact ((((ht1.far (a:=⟨w.heap.size,0,none⟩) (Nat.le_refl _) _).far (a:=⟨w.heap.size,1,none⟩) (Nat.le_refl _) _).far (a:=⟨w.heap.size,2,none⟩) (Nat.le_refl _) _).far (a:=⟨w.heap.size,3,none⟩) (Nat.le_refl _) _).far (a:=⟨w.heap.size,4,none⟩) (Nat.le_refl _) _
 ·subst hf
  replace hX:Hid (r=((exprR (ts.drop k)).1,movP ts k (exprR (ts.drop k)))):=Lib.hid (by rw [hX.out]; rfl)
  have hlt:=h.lt
  dsimp only at hlt
  have hcap:=h.cap
  have h4k:=h.tks.len
  have HEX:=Lib.hid (fun (W:World) (hh:Prd B P A c ts ⟨k,0⟩ W)=>by
   have hr:=Rd.drop hh.tok (k:=k) (cap:=c) (Nat.le_of_lt hlt) hcap
   rw [← tkCs_drop,← List.length_drop] at hr
   have hlo:=hh.lo
   have hPw:=hh.ltw
   exact expr_any (c:=c - k) W hr (by omega) hh.env (by rw [List.length_drop]; omega) (fun t ht=>hh.tks.ok t (List.mem_of_mem_drop ht)))
  rw [List.length_drop] at HEX
  unfold ExprR at HEX
  rw [List.length_drop] at HEX
  generalize exprR (ts.drop k)=xr at HEX hX
  obtain ⟨x,n,e⟩:=xr
  dsimp only at HEX hX
  have g3:(k:Int)<(ts.length:Int):=by omega
  have g4:(0:Int)≤(k:Int):=by omega
  have g5:(k:Int)≤(ts.length:Int):=by omega
  have g6:(ts.length:Int)≤(c:Int):=by omega
  have g7:(k:Int)≤(c:Int):=by omega
  have HH:=Lib.hid h1
  clear h
  go_enter Tryz.func23,Tryz.ntmps23
  go_upto_region 1 with fail
  generalize w.alloc _=w1 at hE hb1 hz1 h1 ht1 HH ⊢
  obtain ⟨c0,c1,c2,c3,c4⟩:=h1.cells
  dsimp only at c1 c2
  have hPw1:=h1.ltw
  have HEX2:=Lib.hid (fun (W:World) (hb:Below w1.heap.size w1 W)=>HEX.out W (HH.out.next hb))
  have hEz:=hz1
  clear HEX
  go_upto_region 3 with fail
  go_cut [3,4,5] (fun r3 r4 r5 wx=>∃ T:Nat,r3=.pointer (some ⟨T,0,none⟩)∧r4=.int .i64 (n:Nat)∧r5=.int .i64 (e:Nat)∧∃ (A1:Option Addr) (c1':Nat),wx.heap[T]? = some (.cells #[.int .i64 x.kind,.int .i64 x.op,.string x.name,.int .i64 x.val,.slice A1 x.args.length c1'] 38 (0,0)) ∧
   LiesE (mask (fun X=>decide (X<w1.heap.size)) wx) wx.heap.size [.int .i64 x.kind,.int .i64 x.op,.string x.name,.int .i64 x.val,.slice A1 x.args.length c1'] x∧Below w1.heap.size w1 wx∧w1.heap.size≤T∧T<wx.heap.size∧n≤ts.length - k)
  case first=>
   have hPwz:P<w1.heap.size:=hPw1
   clear hX hE ht1 hb1 hz1 hEz
   refine wp_region_held_drew (S:=fun w'=>w'.cell? ⟨P,0,none⟩=some (.slice A ts.length c)∧w'.cell? ⟨P,1,none⟩=some (.int .i64 (k:Nat))) (by kernel_rfl) ⟨c0,c1⟩ (fun hHeld=>?_)
   have hb0:Below w1.heap.size w1 w1.drew:=below_drews _ _ 1
   generalize w1.drew=we at hb0 hHeld ⊢
   refine wpAnyH_take (i:=0) (v:=?_) rfl (by kernel_rfl) (by kernel_rfl) (by kernel_rfl) (fun _ _ _ h=>h) (Or.inl ⟨by kernel_rfl,?_⟩) (by assumption) ?_
   rotate_left
   ·intro w hSw; (try dsimp only at hSw); go_simp; with_reducible rfl
   try simp only [List.getElem_toArray,List.getElem_cons_zero,Act.put,List.setIfInBounds_toArray,List.set_cons_zero,List.set_cons_succ]
   refine wpAnyH_take (i:=1) (v:=?_) rfl (by kernel_rfl) (by kernel_rfl) (by kernel_rfl) (fun _ _ _ h=>h) (Or.inl ⟨by kernel_rfl,?_⟩) (by assumption) ?_
   rotate_left
   ·intro w hSw; (try dsimp only at hSw); go_simp; with_reducible rfl
   try simp only [List.getElem_toArray,List.getElem_cons_succ,List.getElem_cons_zero,Act.put,List.setIfInBounds_toArray,List.set_cons_zero,List.set_cons_succ]
   refine wpAnyH_take (i:=2) (v:=?_) rfl (by kernel_rfl) (by kernel_rfl) (by kernel_rfl) (fun _ _ _ h=>h) (Or.inl ⟨by kernel_rfl,?_⟩) (by assumption) ?_
   rotate_left
   ·intro w hSw; (try dsimp only at hSw); go_simp; with_reducible rfl
   try simp only [List.getElem_toArray,List.getElem_cons_succ,List.getElem_cons_zero,Act.put,List.setIfInBounds_toArray,List.set_cons_zero,List.set_cons_succ]
   refine wpAnyH_take (i:=3) (v:=?_) rfl (by kernel_rfl) (by kernel_rfl) (by kernel_rfl) (fun _ _ _ h=>h) (Or.inl ⟨by kernel_rfl,?_⟩) (by assumption) ?_
   rotate_left
   ·intro w hSw; (try dsimp only at hSw); go_simp; with_reducible rfl
   try simp only [List.getElem_toArray,List.getElem_cons_succ,List.getElem_cons_zero,Act.put,List.setIfInBounds_toArray,List.set_cons_zero,List.set_cons_succ]
   refine wpAnyH_take (i:=4) (v:=?_) rfl (by kernel_rfl) (by kernel_rfl) (by kernel_rfl) (fun _ _ _ h=>h) (Or.inl ⟨by kernel_rfl,?_⟩) (by assumption) ?_
   rotate_left
   ·intro w hSw; (try dsimp only at hSw); go_simp; with_reducible rfl
   try simp only [List.getElem_toArray,List.getElem_cons_succ,List.getElem_cons_zero,Act.put,List.setIfInBounds_toArray,List.set_cons_zero,List.set_cons_succ]
   refine wpAnyH_take (i:=5) (v:=?_) rfl (by kernel_rfl) (by kernel_rfl) (by kernel_rfl) (fun _ _ _ h=>h) (Or.inl ⟨by kernel_rfl,?_⟩) (by assumption) ?_
   rotate_left
   ·intro w hSw; (try dsimp only at hSw); go_simp; with_reducible rfl
   try simp only [List.getElem_toArray,List.getElem_cons_succ,List.getElem_cons_zero,Act.put,List.setIfInBounds_toArray,List.set_cons_zero,List.set_cons_succ]
   refine wpAnyH_take (i:=6) (v:=?_) rfl (by kernel_rfl) (by kernel_rfl) (by kernel_rfl) (fun _ _ _ h=>h) (Or.inl ⟨by kernel_rfl,?_⟩) (by assumption) ?_
   rotate_left
   ·intro w hSw; (try dsimp only at hSw); go_simp; with_reducible rfl
   try simp only [List.getElem_toArray,List.getElem_cons_succ,List.getElem_cons_zero,Act.put,List.setIfInBounds_toArray,List.set_cons_zero,List.set_cons_succ]
   refine wpAnyH_take (i:=7) (v:=?_) rfl (by kernel_rfl) (by kernel_rfl) (by kernel_rfl) (fun _ _ _ h=>h) (Or.inl ⟨by kernel_rfl,?_⟩) (by assumption) ?_
   rotate_left
   ·intro w hSw; (try dsimp only at hSw); go_simp; with_reducible rfl
   try simp only [List.getElem_toArray,List.getElem_cons_succ,List.getElem_cons_zero,Act.put,List.setIfInBounds_toArray,List.set_cons_zero,List.set_cons_succ]
   refine wpAnyH_take (i:=8) (v:=?_) rfl (by kernel_rfl) (by kernel_rfl) (by kernel_rfl) (fun _ _ _ h=>h) (Or.inl ⟨by kernel_rfl,?_⟩) (by assumption) ?_
   rotate_left
   ·intro w hSw; (try dsimp only at hSw); go_simp; with_reducible rfl
   try simp only [List.getElem_toArray,List.getElem_cons_succ,List.getElem_cons_zero,Act.put,List.setIfInBounds_toArray,List.set_cons_zero,List.set_cons_succ]
   refine wpAnyH_ready (rs:=[9,14]) (by kernel_rfl) (by simp) ?_
   refine (AllReadyH.cons rfl (fun K hK=>?_) (AllReadyH.cons rfl (fun K hK=>?_) AllReadyH.nil))
   ·go_simp
    refine (HEX2.out _ hb0).mono ?_
    rintro e3 W3 ⟨hb3,vs,rfl,hL3,hn3⟩
    obtain ⟨A1,c1',row,rfl,-,-⟩:=hL3.form
    unfold exC
    try dsimp only
    refine hK.out _ _ ?_ (fun hHeld=>?_)
    ·exact ⟨(hb3.cell (p:=⟨P,0,none⟩) (Nat.lt_of_lt_of_le hPw1 hb0.size)).trans hHeld.1,(hb3.cell (p:=⟨P,1,none⟩) (Nat.lt_of_lt_of_le hPw1 hb0.size)).trans hHeld.2⟩
    clear hK K
    try simp only [List.getElem_toArray,List.getElem_cons_succ,List.getElem_cons_zero,Act.put,List.setIfInBounds_toArray,List.set_cons_zero,List.set_cons_succ]
    refine wpAnyH_take (i:=10) (v:=?_) rfl (by kernel_rfl) (by kernel_rfl) (by kernel_rfl) (fun _ _ _ h=>h) (Or.inl ⟨by kernel_rfl,?_⟩) (by assumption) ?_
    rotate_left
    ·intro w hSw; (try dsimp only at hSw); go_simp; with_reducible rfl
    try simp only [List.getElem_toArray,List.getElem_cons_succ,List.getElem_cons_zero,Act.put,List.setIfInBounds_toArray,List.set_cons_zero,List.set_cons_succ]
    refine wpAnyH_take (i:=11) (v:=?_) rfl (by kernel_rfl) (by kernel_rfl) (by kernel_rfl) (fun _ _ _ h=>h) (Or.inl ⟨by kernel_rfl,?_⟩) (by assumption) ?_
    rotate_left
    ·intro w hSw; (try dsimp only at hSw); go_simp; with_reducible rfl
    try simp only [List.getElem_toArray,List.getElem_cons_succ,List.getElem_cons_zero,Act.put,List.setIfInBounds_toArray,List.set_cons_zero,List.set_cons_succ]
    refine wpAnyH_take (i:=12) (v:=?_) rfl (by kernel_rfl) (by kernel_rfl) (by kernel_rfl) (fun _ _ _ h=>h) (Or.inl ⟨by kernel_rfl,?_⟩) (by assumption) ?_
    rotate_left
    ·intro w hSw; (try dsimp only at hSw); go_simp; with_reducible rfl
    try simp only [List.getElem_toArray,List.getElem_cons_succ,List.getElem_cons_zero,Act.put,List.setIfInBounds_toArray,List.set_cons_zero,List.set_cons_succ]
    refine wpAnyH_take (i:=13) (v:=?_) rfl (by kernel_rfl) (by kernel_rfl) (by kernel_rfl) (fun _ _ _ h=>h) (Or.inl ⟨by kernel_rfl,?_⟩) (by assumption) ?_
    rotate_left
    ·intro w hSw; (try dsimp only at hSw); go_simp; with_reducible rfl
    try simp only [List.getElem_toArray,List.getElem_cons_succ,List.getElem_cons_zero,Act.put,List.setIfInBounds_toArray,List.set_cons_zero,List.set_cons_succ]
    have hb13:=hb0.trans (hb3.mono hb0.size)
    have hz3:=hb3.size
    have hz0:=hb0.size
    have hPW3:P<W3.heap.size:=by omega
    refine wpAnyH_ready (rs:=[14]) (by kernel_rfl) (by simp) ?_
    refine AllReadyH.cons rfl (fun K hK=>?_) AllReadyH.nil
    go_simp
    refine hK.out _ _ ?_ (fun hHeld=>?_)
    ·exact ⟨(World.cell?_alloc_lt _ _ ⟨P,0,none⟩ hPW3).trans hHeld.1,(World.cell?_alloc_lt _ _ ⟨P,1,none⟩ hPW3).trans hHeld.2⟩
    clear hK K
    try simp only [List.getElem_toArray,List.getElem_cons_succ,List.getElem_cons_zero,Act.put,List.setIfInBounds_toArray,List.set_cons_zero,List.set_cons_succ]
    have hba:=below_alloc W3 (.cells #[.int .i64 0,.int .i64 0,.string ⟨#[]⟩,.int .i64 0,.slice none 0 0] 38)
    have hT4:=blk_new W3 (.cells #[.int .i64 0,.int .i64 0,.string ⟨#[]⟩,.int .i64 0,.slice none 0 0] 38)
    have hb4:=hb13.trans (hba.mono hb13.size)
    have hzT:W3.heap.size<(W3.alloc (.cells #[.int .i64 0,.int .i64 0,.string ⟨#[]⟩,.int .i64 0,.slice none 0 0] 38)).heap.size:=by simp
    have hL4:=hL3.turn (W:=W3.alloc (.cells #[.int .i64 0,.int .i64 0,.string ⟨#[]⟩,.int .i64 0,.slice none 0 0] 38)) (q:=fun X=>decide (X<w1.heap.size) || X == W3.heap.size) (fun X hX h=>by rw [Bool.or_eq_false_iff]; exact ⟨decide_eq_false (by have:=of_decide_eq_false h; omega),by simpa using (by omega:X≠W3.heap.size)⟩) hba.size (fun X hX _=>hba.block X hX)
    have hwT:w1.heap.size≤W3.heap.size:=by omega
    clear hba hb13 hb3 hL3
    generalize W3.alloc _=W4 at hT4 hb4 hzT hL4 hHeld ⊢
    generalize W3.heap.size=T at hT4 hzT hL4 hwT ⊢
    obtain ⟨⟨y0,y1,y2,y3,y4⟩,y5⟩:=blk5 hT4
    have hP4:=hHeld
    clear hHeld
    refine wpAnyH_ready (rs:=[15]) (by kernel_rfl) (by simp) ?_
    refine AllReadyH.cons rfl (fun K hK=>?_) AllReadyH.nil
    go_simp
    refine hK.out _ _ ?_ (fun hHeld=>?_)
    ·exact ⟨(set5_far _ (by omega) _ _ _ _ _ _).trans hP4.1,(set5_far _ (by omega) _ _ _ _ _ _).trans hP4.2⟩
    clear hK K
    try simp only [List.getElem_toArray,List.getElem_cons_succ,List.getElem_cons_zero,Act.put,List.setIfInBounds_toArray,List.set_cons_zero,List.set_cons_succ]
    refine wpAnyH_take (i:=16) (v:=?_) rfl (by kernel_rfl) (by kernel_rfl) (by kernel_rfl) (fun _ _ _ h=>h) (Or.inl ⟨by kernel_rfl,?_⟩) (by assumption) ?_
    rotate_left
    ·intro w hSw; (try dsimp only at hSw); go_simp; with_reducible rfl
    try simp only [List.getElem_toArray,List.getElem_cons_succ,List.getElem_cons_zero,Act.put,List.setIfInBounds_toArray,List.set_cons_zero,List.set_cons_succ]
    refine wpAnyH_take (i:=17) (v:=?_) rfl (by kernel_rfl) (by kernel_rfl) (by kernel_rfl) (fun _ _ _ h=>h) (Or.inl ⟨by kernel_rfl,?_⟩) (by assumption) ?_
    rotate_left
    ·intro w hSw; (try dsimp only at hSw); go_simp; with_reducible rfl
    try simp only [List.getElem_toArray,List.getElem_cons_succ,List.getElem_cons_zero,Act.put,List.setIfInBounds_toArray,List.set_cons_zero,List.set_cons_succ]
    refine wpAnyH_done (by kernel_rfl) ?_ _
    try dsimp only [Exit.then]
    clear hHeld
    go_wp2_with fail
    go_meet
    case rel=>
     refine ⟨T,rfl,rfl,rfl,A1,c1',?_,?_,set5_below hb4 hwT _ _ _ _ _,hwT,by rw [set5_size]; exact hzT,hn3⟩
     ·exact blk_set5 hT4 _ _ _ _ _
     ·rw [set5_size]
      exact hL4.turn (fun X _ h=>by rw [Bool.or_eq_false_iff] at h; exact h.1) (Nat.le_refl _) (fun X _ hX=>heap_set5 (by rw [Bool.or_eq_false_iff] at hX; simpa using hX.2) _ _ _ _ _)
   ·go_simp
    have hz0:=hb0.size
    have hPWe:P<we.heap.size:=by omega
    refine hK.out _ _ ?_ (fun hHeld=>?_)
    ·exact ⟨(World.cell?_alloc_lt _ _ ⟨P,0,none⟩ hPWe).trans hHeld.1,(World.cell?_alloc_lt _ _ ⟨P,1,none⟩ hPWe).trans hHeld.2⟩
    clear hK K
    try simp only [List.getElem_toArray,List.getElem_cons_succ,List.getElem_cons_zero,Act.put,List.setIfInBounds_toArray,List.set_cons_zero,List.set_cons_succ]
    have hba:=below_alloc we (.cells #[.int .i64 0,.int .i64 0,.string ⟨#[]⟩,.int .i64 0,.slice none 0 0] 38)
    have hTv:=blk_new we (.cells #[.int .i64 0,.int .i64 0,.string ⟨#[]⟩,.int .i64 0,.slice none 0 0] 38)
    have hbv:=hb0.trans (hba.mono hb0.size)
    have hzv:we.heap.size<(we.alloc (.cells #[.int .i64 0,.int .i64 0,.string ⟨#[]⟩,.int .i64 0,.slice none 0 0] 38)).heap.size:=by simp
    clear hba
    generalize we.alloc _=Wv at hTv hbv hzv hHeld ⊢
    generalize we.heap.size=T at hTv hzv hz0 hPWe ⊢
    refine wpAnyH_ready (rs:=[9]) (by kernel_rfl) (by simp) ?_
    refine AllReadyH.cons rfl (fun K hK=>?_) AllReadyH.nil
    go_simp
    refine (HEX2.out _ hbv).mono ?_
    rintro e3 W4 ⟨hb3,vs,rfl,hL3,hn3⟩
    obtain ⟨A1,c1',row,rfl,-,-⟩:=hL3.form
    unfold exC
    try dsimp only
    refine hK.out _ _ ?_ (fun hHeld=>?_)
    ·exact ⟨(hb3.cell (p:=⟨P,0,none⟩) (by show P<Wv.heap.size; omega)).trans hHeld.1,(hb3.cell (p:=⟨P,1,none⟩) (by show P<Wv.heap.size; omega)).trans hHeld.2⟩
    clear hK K
    try simp only [List.getElem_toArray,List.getElem_cons_succ,List.getElem_cons_zero,Act.put,List.setIfInBounds_toArray,List.set_cons_zero,List.set_cons_succ]
    refine wpAnyH_take (i:=10) (v:=?_) rfl (by kernel_rfl) (by kernel_rfl) (by kernel_rfl) (fun _ _ _ h=>h) (Or.inl ⟨by kernel_rfl,?_⟩) (by assumption) ?_
    rotate_left
    ·intro w hSw; (try dsimp only at hSw); go_simp; with_reducible rfl
    try simp only [List.getElem_toArray,List.getElem_cons_succ,List.getElem_cons_zero,Act.put,List.setIfInBounds_toArray,List.set_cons_zero,List.set_cons_succ]
    refine wpAnyH_take (i:=11) (v:=?_) rfl (by kernel_rfl) (by kernel_rfl) (by kernel_rfl) (fun _ _ _ h=>h) (Or.inl ⟨by kernel_rfl,?_⟩) (by assumption) ?_
    rotate_left
    ·intro w hSw; (try dsimp only at hSw); go_simp; with_reducible rfl
    try simp only [List.getElem_toArray,List.getElem_cons_succ,List.getElem_cons_zero,Act.put,List.setIfInBounds_toArray,List.set_cons_zero,List.set_cons_succ]
    refine wpAnyH_take (i:=12) (v:=?_) rfl (by kernel_rfl) (by kernel_rfl) (by kernel_rfl) (fun _ _ _ h=>h) (Or.inl ⟨by kernel_rfl,?_⟩) (by assumption) ?_
    rotate_left
    ·intro w hSw; (try dsimp only at hSw); go_simp; with_reducible rfl
    try simp only [List.getElem_toArray,List.getElem_cons_succ,List.getElem_cons_zero,Act.put,List.setIfInBounds_toArray,List.set_cons_zero,List.set_cons_succ]
    refine wpAnyH_take (i:=13) (v:=?_) rfl (by kernel_rfl) (by kernel_rfl) (by kernel_rfl) (fun _ _ _ h=>h) (Or.inl ⟨by kernel_rfl,?_⟩) (by assumption) ?_
    rotate_left
    ·intro w hSw; (try dsimp only at hSw); go_simp; with_reducible rfl
    try simp only [List.getElem_toArray,List.getElem_cons_succ,List.getElem_cons_zero,Act.put,List.setIfInBounds_toArray,List.set_cons_zero,List.set_cons_succ]
    have hb4:=hbv.trans (hb3.mono hbv.size)
    have hT4:=(hb3.block T hzv).trans hTv
    have hzT:T<W4.heap.size:=Nat.lt_of_lt_of_le hzv hb3.size
    have hwT:w1.heap.size≤T:=hz0
    have hL4:=hL3.turn (W:=W4) (q:=fun X=>decide (X<w1.heap.size) || X == T) (fun X hX h=>by have:=of_decide_eq_false h; rw [Bool.or_eq_false_iff]; exact ⟨decide_eq_false (by omega),by simpa using (by omega:X≠T)⟩) (Nat.le_refl _) (fun X hX _=>rfl)
    clear hb3 hL3
    obtain ⟨⟨y0,y1,y2,y3,y4⟩,y5⟩:=blk5 hT4
    have hP4:=hHeld
    clear hHeld
    refine wpAnyH_ready (rs:=[15]) (by kernel_rfl) (by simp) ?_
    refine AllReadyH.cons rfl (fun K hK=>?_) AllReadyH.nil
    go_simp
    refine hK.out _ _ ?_ (fun hHeld=>?_)
    ·exact ⟨(set5_far _ (by omega) _ _ _ _ _ _).trans hP4.1,(set5_far _ (by omega) _ _ _ _ _ _).trans hP4.2⟩
    clear hK K
    try simp only [List.getElem_toArray,List.getElem_cons_succ,List.getElem_cons_zero,Act.put,List.setIfInBounds_toArray,List.set_cons_zero,List.set_cons_succ]
    refine wpAnyH_take (i:=16) (v:=?_) rfl (by kernel_rfl) (by kernel_rfl) (by kernel_rfl) (fun _ _ _ h=>h) (Or.inl ⟨by kernel_rfl,?_⟩) (by assumption) ?_
    rotate_left
    ·intro w hSw; (try dsimp only at hSw); go_simp; with_reducible rfl
    try simp only [List.getElem_toArray,List.getElem_cons_succ,List.getElem_cons_zero,Act.put,List.setIfInBounds_toArray,List.set_cons_zero,List.set_cons_succ]
    refine wpAnyH_take (i:=17) (v:=?_) rfl (by kernel_rfl) (by kernel_rfl) (by kernel_rfl) (fun _ _ _ h=>h) (Or.inl ⟨by kernel_rfl,?_⟩) (by assumption) ?_
    rotate_left
    ·intro w hSw; (try dsimp only at hSw); go_simp; with_reducible rfl
    try simp only [List.getElem_toArray,List.getElem_cons_succ,List.getElem_cons_zero,Act.put,List.setIfInBounds_toArray,List.set_cons_zero,List.set_cons_succ]
    refine wpAnyH_done (by kernel_rfl) ?_ _
    try dsimp only [Exit.then]
    clear hHeld
    go_wp2_with fail
    go_meet
    case rel=>
     refine ⟨T,rfl,rfl,rfl,A1,c1',?_,?_,set5_below hb4 hwT _ _ _ _ _,hwT,by rw [set5_size]; exact hzT,hn3⟩
     ·exact blk_set5 hT4 _ _ _ _ _
     ·rw [set5_size]
      exact hL4.turn (fun X _ h=>by rw [Bool.or_eq_false_iff] at h; exact h.1) (Nat.le_refl _) (fun X _ hX=>heap_set5 (by rw [Bool.or_eq_false_iff] at hX; simpa using hX.2) _ _ _ _ _)
  case rest=>
   obtain ⟨T,rfl,rfl,rfl,A1,c1',hT,hL2,hb2,hwT,hTz,hn2⟩:=hcut
   have h2:=HH.out.next hb2
   have ht2:=ht1.trans (Turn.of_below (lo:=P) (hi:=P+1) hb2)
   have hE2:=(hb2.block w.heap.size hz1).trans hE
   obtain ⟨c0,c1,c2,c3,c4⟩:=h2.cells
   dsimp only at c1 c2
   have hPE:P<w.heap.size:=hPw
   have hzc:w1.heap.size≤wc.heap.size:=hb2.size
   clear HH HEX2 hE hb1 hb2 h1 ht1
   go_upto_region 5 with fail
   have h3b:(wc.setCell ⟨P,2,none⟩ (.int .i64 (e:Nat))).heap[P]? = some (pdB A ts.length c k e):=by
    have:=h2.blk
    simp [World.setCell,Array.getElem?_modify,this,pdB]
   have h3:=h2.turn (s':=⟨k,e⟩) ((Turn.refl P (P+1) wc).setCell (a:=⟨P,2,none⟩) ⟨Nat.le_refl _,Nat.lt_succ_self _⟩ (.int .i64 (e:Nat))) h3b hlt
   have ht3:=ht2.setCell (a:=⟨P,2,none⟩) ⟨Nat.le_refl _,Nat.lt_succ_self _⟩ (.int .i64 (e:Nat))
   have hE3:=(Below.heap_setCell wc ⟨P,2,none⟩ (.int .i64 (e:Nat)) w.heap.size (by show w.heap.size≠P; omega)).trans hE2
   have hT3:=(Below.heap_setCell wc ⟨P,2,none⟩ (.int .i64 (e:Nat)) T (by show T≠P; omega)).trans hT
   have hL3:=hL2.turn (W:=wc.setCell ⟨P,2,none⟩ (.int .i64 (e:Nat))) (q:=fun X=>decide (X<w1.heap.size)) (fun X _ h=>h) (Nat.le_refl _) (fun X _ hX=>Below.heap_setCell wc ⟨P,2,none⟩ _ X (by have:=of_decide_eq_false hX; show X≠P; omega))
   have hz3:(wc.setCell ⟨P,2,none⟩ (.int .i64 (e:Nat))).heap.size=wc.heap.size:=by simp
   rw [← hz3] at hL3 hTz
   clear h2 ht2 hE2 hT hL2 h3b c0 c1 c2 c3 c4 hz3 hzc
   generalize wc.setCell _ _=w3 at h3 ht3 hE3 hT3 hL3 hTz ⊢
   have HMV:Hid (r=(x,⟨if e=0∨e=3 then min (k+n) (ts.length - 1) else k,e⟩)):=Lib.hid hX.out
   clear hX
   by_cases he:e=0∨e=3
   rotate_left
   ·obtain rfl:r=(x,⟨k,e⟩):=by rw [HMV.out,if_neg he]
    have n0:((e:Int) == 0)=false:=by simpa using (by omega:¬ (e:Int)=0)
    have n3:((e:Int) == 3)=false:=by simpa using (by omega:¬ (e:Int)=3)
    have m0:(e == 0)=false:=by simpa using (by omega:¬ e=0)
    have m3:(e == 3)=false:=by simpa using (by omega:¬ e=3)
    clear HMV he
    obtain ⟨⟨t0,t1,t2,t3,t4⟩,-⟩:=blk5 hT3
    obtain ⟨⟨y0,y1,y2,y3,y4⟩,y5⟩:=blk5 hE3
    go_wp2_with fail
    try simp only [Exit.inBlock,Exit.then]
    refine bodyPost_ret (results_cell1 rfl rfl (load5 (blk_set5 hE3 _ _ _ _ _))) rfl ?_
    exact pexpr_end h3.blk ht3 hPE hL3 hz1
   ·obtain rfl:r=(x,⟨min (k+n) (ts.length - 1),e⟩):=by rw [HMV.out,if_pos he]
    have hpos:=h3.tks.pos
    obtain ⟨c0,c1,c2,c3,c4⟩:=h3.cells
    dsimp only at c1 c2
    have hw1:IntKind.i64.wrap ((k:Int)+(n:Int))=(k:Int)+(n:Int):=by rw [IntKind.wrap_i64]; omega
    have hw2:IntKind.i64.wrap ((ts.length:Int) - 1)=(ts.length:Int) - 1:=by rw [IntKind.wrap_i64]; omega
    clear HMV
    rcases he with rfl | rfl
    ·
     go_upto_region 6 with fail
     go_region
     have hmn:min ((k:Int)+(n:Int)) ((ts.length:Int) - 1)=((min (k+n) (ts.length - 1):Nat):Int):=by omega
     rw [hmn]
     obtain ⟨m,hm⟩:∃ m,m=min (k+n) (ts.length - 1):=⟨_,rfl⟩
     rw [← hm]
     have HM:=Lib.hid hm
     clear hm
     have h4b:(w3.setCell ⟨P,1,none⟩ (.int .i64 (m:Nat))).drew.heap[P]? = some (pdB A ts.length c m 0):=by
      have:=h3.blk
      show (w3.setCell ⟨P,1,none⟩ (.int .i64 (m:Nat))).heap[P]? = _
      simp [World.setCell,Array.getElem?_modify,this,pdB]
     have ht4:Turn P (P+1) w (w3.setCell ⟨P,1,none⟩ (.int .i64 (m:Nat))).drew:=(ht3.setCell (a:=⟨P,1,none⟩) ⟨Nat.le_refl _,Nat.lt_succ_self _⟩ (.int .i64 (m:Nat))).drewN 1
     have hE4:(w3.setCell ⟨P,1,none⟩ (.int .i64 (m:Nat))).drew.heap[w.heap.size]? = _:=(Below.heap_setCell w3 ⟨P,1,none⟩ (.int .i64 (m:Nat)) w.heap.size (by show w.heap.size≠P; omega)).trans hE3
     have hT4:(w3.setCell ⟨P,1,none⟩ (.int .i64 (m:Nat))).drew.heap[T]? = _:=(Below.heap_setCell w3 ⟨P,1,none⟩ (.int .i64 (m:Nat)) T (by show T≠P; omega)).trans hT3
     have hz4:w3.heap.size≤(w3.setCell ⟨P,1,none⟩ (.int .i64 (m:Nat))).drew.heap.size:=by
      show w3.heap.size≤(w3.setCell ⟨P,1,none⟩ (.int .i64 (m:Nat))).heap.size
      simp
     have hL4:=hL3.turn (W:=(w3.setCell ⟨P,1,none⟩ (.int .i64 (m:Nat))).drew) (q:=fun X=>decide (X<w1.heap.size)) (fun X _ h=>h) hz4 (fun X _ hX=>Below.heap_setCell w3 ⟨P,1,none⟩ _ X (by have:=of_decide_eq_false hX; show X≠P; omega))
     clear h3 ht3 hE3 hT3 hL3 hTz c0 c1 c2 c3 c4 hz4 hmn
     generalize (w3.setCell _ _).drew=w4 at h4b ht4 hE4 hT4 hL4 ⊢
     obtain ⟨⟨t0,t1,t2,t3,t4⟩,-⟩:=blk5 hT4
     obtain ⟨⟨y0,y1,y2,y3,y4⟩,y5⟩:=blk5 hE4
     go_wp2_with fail
     try simp only [Exit.inBlock,Exit.then]
     refine bodyPost_ret (results_cell1 rfl rfl (load5 (blk_set5 hE4 _ _ _ _ _))) rfl ?_
     rw [HM.out] at h4b
     exact pexpr_end h4b ht4 hPE hL4 hz1
    ·
     go_upto_region 6 with fail
     go_region
     have hmn:min ((k:Int)+(n:Int)) ((ts.length:Int) - 1)=((min (k+n) (ts.length - 1):Nat):Int):=by omega
     rw [hmn]
     obtain ⟨m,hm⟩:∃ m,m=min (k+n) (ts.length - 1):=⟨_,rfl⟩
     rw [← hm]
     have HM:=Lib.hid hm
     clear hm
     have h4b:(w3.setCell ⟨P,1,none⟩ (.int .i64 (m:Nat))).drew.heap[P]? = some (pdB A ts.length c m 3):=by
      have:=h3.blk
      show (w3.setCell ⟨P,1,none⟩ (.int .i64 (m:Nat))).heap[P]? = _
      simp [World.setCell,Array.getElem?_modify,this,pdB]
     have ht4:Turn P (P+1) w (w3.setCell ⟨P,1,none⟩ (.int .i64 (m:Nat))).drew:=(ht3.setCell (a:=⟨P,1,none⟩) ⟨Nat.le_refl _,Nat.lt_succ_self _⟩ (.int .i64 (m:Nat))).drewN 1
     have hE4:(w3.setCell ⟨P,1,none⟩ (.int .i64 (m:Nat))).drew.heap[w.heap.size]? = _:=(Below.heap_setCell w3 ⟨P,1,none⟩ (.int .i64 (m:Nat)) w.heap.size (by show w.heap.size≠P; omega)).trans hE3
     have hT4:(w3.setCell ⟨P,1,none⟩ (.int .i64 (m:Nat))).drew.heap[T]? = _:=(Below.heap_setCell w3 ⟨P,1,none⟩ (.int .i64 (m:Nat)) T (by show T≠P; omega)).trans hT3
     have hz4:w3.heap.size≤(w3.setCell ⟨P,1,none⟩ (.int .i64 (m:Nat))).drew.heap.size:=by
      show w3.heap.size≤(w3.setCell ⟨P,1,none⟩ (.int .i64 (m:Nat))).heap.size
      simp
     have hL4:=hL3.turn (W:=(w3.setCell ⟨P,1,none⟩ (.int .i64 (m:Nat))).drew) (q:=fun X=>decide (X<w1.heap.size)) (fun X _ h=>h) hz4 (fun X _ hX=>Below.heap_setCell w3 ⟨P,1,none⟩ _ X (by have:=of_decide_eq_false hX; show X≠P; omega))
     clear h3 ht3 hE3 hT3 hL3 hTz c0 c1 c2 c3 c4 hz4 hmn
     generalize (w3.setCell _ _).drew=w4 at h4b ht4 hE4 hT4 hL4 ⊢
     obtain ⟨⟨t0,t1,t2,t3,t4⟩,-⟩:=blk5 hT4
     obtain ⟨⟨y0,y1,y2,y3,y4⟩,y5⟩:=blk5 hE4
     go_wp2_with fail
     try simp only [Exit.inBlock,Exit.then]
     refine bodyPost_ret (results_cell1 rfl rfl (load5 (blk_set5 hE4 _ _ _ _ _))) rfl ?_
     rw [HM.out] at h4b
     exact pexpr_end h4b ht4 hPE hL4 hz1
end Go.Proofs.YtmbffkemfepekaaGreatDoor
