/- The reference parser: expression walked, given what it calls; both together. Conditions: the tokens lie in memory. -/
import Derived.Test.YtmbffkemfepekaaGreatDoorPtTk
import Derived.Deep.LoopGhost
import Derived.Deep.CutBlock
import Derived.Test.YtmbffkemfepekaaGreatDoorPtRf1
import Derived.Test.YtmbffkemfepekaaGreatDoorPtPrM
import Derived.Test.YtmbffkemfepekaaGreatDoorPtRd4
namespace Go.Proofs.YtmbffkemfepekaaGreatDoor
open Go.RowKit
theorem bor_n {n X F:Nat} (h:(decide (X<n) || X == F)=false):n≤X∧X≠F:=by
 rw [Bool.or_eq_false_iff] at h
 have h1:=of_decide_eq_false h.1
 exact ⟨by omega,by simpa using h.2⟩
theorem bor_m {n X F:Nat} (h:n≤X) (h2:X≠F):(decide (X<n) || X == F)=false:=by
 rw [decide_eq_false (by omega)]
 simpa using h2
theorem ops_i64 (l:List UInt8):I64 (opS l).1:=by
 have key:∀ (c:Prop) [Decidable c] (x y:Int × Nat),I64 x.1→I64 y.1→I64 (if c then x else y).1:=by
  intro c _ x y h1 h2
  split <;> assumption
 unfold opS
 repeat (refine key _ _ _ ⟨by decide,by decide⟩ ?_)
 exact ⟨by decide,by decide⟩
theorem opT_i64 (t:Tk):I64 (opT t).1:=by
 unfold opT
 split
 ·exact ops_i64 _
 ·exact ⟨by decide,by decide⟩
theorem opT_lt {ts:List Tk} {i:Nat} (h:(opT (nxT ts i)).2≠0):i<ts.length:=by
 refine nx_lt fun e=>h ?_
 unfold opT
 rw [if_neg (by omega)]
theorem pP_lnx (ts:List Tk) (g p:Nat) (e:Ex) (i:Nat) (hp:1≤p):pP ts (g+1) (.loop p e) i=if (opT (nxT ts i)).2=p then ((pP ts g (.bin (p+1)) (i+1)).bind fun e2 i2=>(if p=3 then .ok (exBin (opT (nxT ts i)).1 e e2) i2 else pP ts g (.loop p (exBin (opT (nxT ts i)).1 e e2)) i2)) else .ok e i:=by
 rw [pP_l]
 cases h:ts[i]? with
 | none=>
  rw [nxT_none h]
  rw [if_neg (by show ¬ (0:Nat)=p; omega)]
 | some t=>
  rw [nxT_some h]
  simp only
  unfold opK opT
  by_cases h3:t.kind=3
  ·rw [if_pos h3,h3]
   by_cases hq:(opS t.text.data.toList).2=p
   ·rw [if_pos hq,if_pos (by rw [hq]; simp)]
   ·rw [if_neg hq,if_neg (by simpa using hq)]
  ·have e1:(t.kind == 3 && (opS t.text.data.toList).2 == p)=false:=by rw [show (t.kind == 3)=false by simpa using h3]; rfl
   rw [if_neg h3,e1,if_neg (by simp),if_neg (by show ¬ (0:Nat)=p; omega)]
/-- The end of a binary operator: a row of two for its arguments, and the variable's five cells. -/
theorem bin_fin {w W:World} {s5 F:Nat} {e e2:Ex} {A1 A2:Option Addr} {c1 c2:Nat} {o:Int} (hW:Below w.heap.size w W)
  (hL:LiesE (mask (fun X=>decide (X<w.heap.size+1) || X == F) W) s5 (exC e.kind e.op e.name e.val A1 e.args.length c1) e) (hL2:LiesE (mask (fun X=>decide (X<s5)) W) W.heap.size (exC e2.kind e2.op e2.name e2.val A2 e2.args.length c2) e2)
  (hwF:w.heap.size<F) (hFs:F<s5) (hsW:s5≤W.heap.size) (ho:I64 o) :
  Below w.heap.size w ((((((W.alloc (.cells #[.int .i64 e.kind,.int .i64 e.op,.string e.name,.int .i64 e.val,.slice A1 e.args.length c1,.int .i64 e2.kind,.int .i64 e2.op,.string e2.name,.int .i64 e2.val,.slice A2 e2.args.length c2] 38)).setCell ⟨F,0,none⟩ (.int .i64 4)).setCell ⟨F,1,none⟩ (.int .i64 o)).setCell ⟨F,2,none⟩ (.string ⟨#[]⟩)).setCell ⟨F,3,none⟩ (.int .i64 0)).setCell ⟨F,4,none⟩ (.slice (some ⟨W.heap.size,0,none⟩) 2 2))∧LiesE (mask (fun X=>decide (X<w.heap.size+1) || X == F) ((((((W.alloc (.cells #[.int .i64 e.kind,.int .i64 e.op,.string e.name,.int .i64 e.val,.slice A1 e.args.length c1,.int .i64 e2.kind,.int .i64 e2.op,.string e2.name,.int .i64 e2.val,.slice A2 e2.args.length c2] 38)).setCell ⟨F,0,none⟩ (.int .i64 4)).setCell ⟨F,1,none⟩ (.int .i64 o)).setCell ⟨F,2,none⟩ (.string ⟨#[]⟩)).setCell ⟨F,3,none⟩ (.int .i64 0)).setCell ⟨F,4,none⟩ (.slice (some ⟨W.heap.size,0,none⟩) 2 2))) ((((((W.alloc (.cells #[.int .i64 e.kind,.int .i64 e.op,.string e.name,.int .i64 e.val,.slice A1 e.args.length c1,.int .i64 e2.kind,.int .i64 e2.op,.string e2.name,.int .i64 e2.val,.slice A2 e2.args.length c2] 38)).setCell ⟨F,0,none⟩ (.int .i64 4)).setCell ⟨F,1,none⟩ (.int .i64 o)).setCell ⟨F,2,none⟩ (.string ⟨#[]⟩)).setCell ⟨F,3,none⟩ (.int .i64 0)).setCell ⟨F,4,none⟩ (.slice (some ⟨W.heap.size,0,none⟩) 2 2)).heap.size [.int .i64 4,.int .i64 o,.string ⟨#[]⟩,.int .i64 0,.slice (some ⟨W.heap.size,0,none⟩) 2 2] (exBin o e e2):=by
 have hba:=below_alloc W (.cells #[.int .i64 e.kind,.int .i64 e.op,.string e.name,.int .i64 e.val,.slice A1 e.args.length c1,.int .i64 e2.kind,.int .i64 e2.op,.string e2.name,.int .i64 e2.val,.slice A2 e2.args.length c2] 38)
 have hbx:=bx_new W #[.int .i64 e.kind,.int .i64 e.op,.string e.name,.int .i64 e.val,.slice A1 e.args.length c1,.int .i64 e2.kind,.int .i64 e2.op,.string e2.name,.int .i64 e2.val,.slice A2 e2.args.length c2] 38
 have hz:(W.alloc (.cells #[.int .i64 e.kind,.int .i64 e.op,.string e.name,.int .i64 e.val,.slice A1 e.args.length c1,.int .i64 e2.kind,.int .i64 e2.op,.string e2.name,.int .i64 e2.val,.slice A2 e2.args.length c2] 38)).heap.size=W.heap.size+1:=by simp
 have hLa:=hL.turn (W:=W.alloc (.cells #[.int .i64 e.kind,.int .i64 e.op,.string e.name,.int .i64 e.val,.slice A1 e.args.length c1,.int .i64 e2.kind,.int .i64 e2.op,.string e2.name,.int .i64 e2.val,.slice A2 e2.args.length c2] 38)) (q:=(fun X=>decide (X<w.heap.size+1) || X == F)) (fun X _ h=>h) hsW (fun X hX _=>hba.block X (by omega))
 have hLb:=hL2.turn (W:=W.alloc (.cells #[.int .i64 e.kind,.int .i64 e.op,.string e.name,.int .i64 e.val,.slice A1 e.args.length c1,.int .i64 e2.kind,.int .i64 e2.op,.string e2.name,.int .i64 e2.val,.slice A2 e2.args.length c2] 38)) (q:=(fun X=>decide (X<w.heap.size+1) || X == F)) (fun X hX h=>bor_m (by have:=of_decide_eq_false h; omega) (by have:=of_decide_eq_false h; omega)) (Nat.le_refl _) (fun X hX _=>hba.block X hX)
 have hW1:=hW.trans (hba.mono hW.size)
 generalize W.alloc _=V at hba hbx hz hLa hLb hW1 ⊢
 have hwW:=hW.size
 refine ⟨set5_below hW1 (by omega) _ _ _ _ _,?_⟩
 rw [set5_size]
 have keep:∀ (B':Nat) (vs:List Value) (x:Ex),B'≤V.heap.size→LiesE (mask (fun X=>decide (X<w.heap.size+1) || X == F) V) B' vs x→LiesE (mask (fun X=>decide (X<w.heap.size+1) || X == F) (((((V.setCell ⟨F,0,none⟩ (.int .i64 4)).setCell ⟨F,1,none⟩ (.int .i64 o)).setCell ⟨F,2,none⟩ (.string ⟨#[]⟩)).setCell ⟨F,3,none⟩ (.int .i64 0)).setCell ⟨F,4,none⟩ (.slice (some ⟨W.heap.size,0,none⟩) 2 2))) V.heap.size vs x:=fun B' vs x hB h=>h.turn (fun X _ h=>h) hB (fun X _ hX=>set5_oth (by have:=(bor_n hX).2; exact this) _ _ _ _ _)
 refine LiesE.mk 4 o ByteArray.empty 0 (some ⟨W.heap.size,0,none⟩) 2 [e,e2] (fun j=>if j=0 then exC e.kind e.op e.name e.val A1 e.args.length c1 else exC e2.kind e2.op e2.name e2.val A2 e2.args.length c2) ⟨by unfold I64; omega,ho,by unfold I64; omega,by decide,by simp,by simp⟩ (.inr ⟨W.heap.size,0,rfl,by omega,fun j hj q u hu=>?_⟩) (fun j hj=>?_)
 ·rw [mask_far (bor_m (by show w.heap.size+1≤W.heap.size; omega) (by show W.heap.size≠F; omega))]
  rw [set5_far _ (by omega)]
  rcases (by simp at hj; omega:j=0∨j=1) with rfl | rfl
  ·rw [if_pos rfl] at hu
   have hq:q<5:=by
    rcases Nat.lt_or_ge q 5 with h9 | h9
    ·exact h9
    ·rw [List.getElem?_eq_none (by unfold exC; simpa using h9)] at hu; cases hu
   have:=hbx q u (by
    rw [← hu]
    rcases (by omega:q=0∨q=1∨q=2∨q=3∨q=4) with rfl | rfl | rfl | rfl | rfl <;> rfl)
   simpa using this
  ·rw [if_neg (by decide)] at hu
   have hq:q<5:=by
    rcases Nat.lt_or_ge q 5 with h9 | h9
    ·exact h9
    ·rw [List.getElem?_eq_none (by unfold exC; simpa using h9)] at hu; cases hu
   have:=hbx (5+q) u (by
    rw [← hu]
    rcases (by omega:q=0∨q=1∨q=2∨q=3∨q=4) with rfl | rfl | rfl | rfl | rfl <;> rfl)
   simpa using this
 ·rcases (by simp at hj; omega:j=0∨j=1) with rfl | rfl
  ·exact keep _ _ _ (by omega) hLa
  ·exact keep _ _ _ hba.size hLb
/-- What expression holds in its loop: the result's box, and the expression's box F. -/
def ExI (A:Option Addr) (B:Nat) (ts:List Tk) (p F:Nat) (w:World) (RES:PR) (g i:Nat) (W:World):Prop:=
 ∃ (e:Ex) (A1:Option Addr) (c1:Nat),i≤ts.length∧TkW A B ts W∧Below w.heap.size w W∧W.heap[w.heap.size]? = some (.cells #[.int .i64 0,.int .i64 0,.string ⟨#[]⟩,.int .i64 0,.slice none 0 0] 38 (0,0))∧W.heap[F]? = some (.cells #[.int .i64 e.kind,.int .i64 e.op,.string e.name,.int .i64 e.val,.slice A1 e.args.length c1] 38 (0,0)) ∧
  LiesE (mask (fun X=>decide (X<w.heap.size+1) || X == F) W) W.heap.size (exC e.kind e.op e.name e.val A1 e.args.length c1) e∧RES=pP ts g (.loop p e) i
theorem copy_loop {w W:World} {F:Nat} {vs:List Value} {x:Ex} (hL:LiesE (mask (fun X=>decide (X<w.heap.size+1) || X == F) W) W.heap.size vs x) (v0 v1 v2 v3 v4:Value) :
  LiesE (mask (fun X=>decide (X<w.heap.size)) (((((W.setCell ⟨w.heap.size,0,none⟩ v0).setCell ⟨w.heap.size,1,none⟩ v1).setCell ⟨w.heap.size,2,none⟩ v2).setCell ⟨w.heap.size,3,none⟩ v3).setCell ⟨w.heap.size,4,none⟩ v4)) (((((W.setCell ⟨w.heap.size,0,none⟩ v0).setCell ⟨w.heap.size,1,none⟩ v1).setCell ⟨w.heap.size,2,none⟩ v2).setCell ⟨w.heap.size,3,none⟩ v3).setCell ⟨w.heap.size,4,none⟩ v4).heap.size vs x:=by
 rw [set5_size]
 exact hL.turn (fun X _ h=>by have:=(bor_n h).1; exact decide_eq_false (by omega)) (Nat.le_refl _) (fun X _ hX=>set5_oth (by have:=(bor_n hX).1; omega) _ _ _ _ _)
set_option maxRecDepth 100000 in
set_option maxHeartbeats 12800000 in
theorem ex_of {A:Option Addr} {c B:Nat} {ts:List Tk} {f:Nat} (hok:TkLim ts) (HO:RopC A c B ts f) (HX:RexC A c B ts f):RexC A c B ts (f+1):=by
 intro k p w hK0 hkl hp1 hp6 hne
 rw [pP_b] at hne ⊢
 have hk0:(0:Int)≤(k:Int):=by omega
 have hlen:=Lib.hid hok.len
 have hE:(w.alloc (.cells #[.int .i64 0,.int .i64 0,.string ⟨#[]⟩,.int .i64 0,.slice none 0 0] 38)).heap[w.heap.size]? = some (.cells #[.int .i64 0,.int .i64 0,.string ⟨#[]⟩,.int .i64 0,.slice none 0 0] 38 (0,0)):=heap_alloc_new w _
 have hB:=below_alloc w (.cells #[.int .i64 0,.int .i64 0,.string ⟨#[]⟩,.int .i64 0,.slice none 0 0] 38)
 have hK:=hK0.next hB
 have hsz:(w.alloc (.cells #[.int .i64 0,.int .i64 0,.string ⟨#[]⟩,.int .i64 0,.slice none 0 0] 38)).heap.size=w.heap.size+1:=by simp
 have HBL:=Lib.hid hK0.lo
 clear hK0
 by_cases hp5:5<p
 ·obtain rfl:p=6:=by omega
  rw [if_pos hp5] at hne ⊢
  have hI:=fun (W:World) (h:TkW A B ts W)=>HO k W h hkl hne
  generalize pP ts f .opd k=P at hne hI ⊢
  have HI:=Lib.hid hI
  unfold OpR at HI
  clear HO HX hI hp5 hp1 hp6
  cases P with
  | out=>exact absurd rfl hne
  | bad i=>
   have HP2:Hid (∀ W,TkW A B ts W→Calls Tryz.prog 160 #[.slice A ts.length c,.int .i64 (k:Nat)] W (fun e W'=>Below W.heap.size W W'∧e=.returned (.tuple #[.agg #[.int .i64 0,.int .i64 0,.string ⟨#[]⟩,.int .i64 0,.slice none 0 0],.int .i64 (i:Nat),.bool false]))):=Lib.hid HI.out
   clear HI hne
   go_enter Tryz.func137,Tryz.ntmps137
   go_upto_region 1 with fail
   generalize w.alloc _=w1 at hE hB hK hsz ⊢
   obtain ⟨⟨z0,z1,z2,z3,z4⟩,z5⟩:=row5 hE
   have z50:=z5 0
   have z51:=z5 1
   have z52:=z5 2
   have z53:=z5 3
   have z54:=z5 4
   go_wp2_with (go_at_call 160; refine (HP2.out _ hK).mono ?_; rintro e W5 ⟨hb5,rfl⟩; have hE5:=heap_next hE hb5; have hq5:=row5 hE5; have z60:=hq5.1.1; have z61:=hq5.1.2.1; have z62:=hq5.1.2.2.1; have z63:=hq5.1.2.2.2.1; have z64:=hq5.1.2.2.2.2; have y0:=hq5.2 0; have y1:=hq5.2 1; have y2:=hq5.2 2; have y3:=hq5.2 3; have y4:=hq5.2 4)
   refine bodyPost_ret (v:=.tuple #[.agg #[.int .i64 0,.int .i64 0,.string ⟨#[]⟩,.int .i64 0,.slice none 0 0],.int .i64 (i:Nat),.bool false]) (results_c2t rfl rfl (ld5 (set5_blk hE5 _ _ _ _ _)) rfl rfl) rfl ?_
   unfold OpR
   exact ⟨set5_below (hB.trans (hb5.mono hB.size)) (Nat.le_refl _) _ _ _ _ _,rfl⟩
  | ok x i=>
   have HP2:Hid (∀ W,TkW A B ts W→Calls Tryz.prog 160 #[.slice A ts.length c,.int .i64 (k:Nat)] W (fun e W'=>Below W.heap.size W W'∧∃ vs,e=.returned (.tuple #[.agg vs.toArray,.int .i64 (i:Nat),.bool true])∧LiesE (mask (fun X=>decide (X<W.heap.size)) W') W'.heap.size vs x)):=Lib.hid HI.out
   clear HI hne
   go_enter Tryz.func137,Tryz.ntmps137
   go_upto_region 1 with fail
   generalize w.alloc _=w1 at hE hB hK hsz ⊢
   obtain ⟨⟨z0,z1,z2,z3,z4⟩,z5⟩:=row5 hE
   have z50:=z5 0
   have z51:=z5 1
   have z52:=z5 2
   have z53:=z5 3
   have z54:=z5 4
   go_wp2_with (go_at_call 160; refine (HP2.out _ hK).mono ?_; rintro e W5 ⟨hb5,vs,rfl,hL5⟩; obtain ⟨A1,c1,row,rfl,-,-⟩:=hL5.form; unfold exC at *; have hE5:=heap_next hE hb5; have hq5:=row5 hE5; have z60:=hq5.1.1; have z61:=hq5.1.2.1; have z62:=hq5.1.2.2.1; have z63:=hq5.1.2.2.2.1; have z64:=hq5.1.2.2.2.2; have y0:=hq5.2 0; have y1:=hq5.2 1; have y2:=hq5.2 2; have y3:=hq5.2 3; have y4:=hq5.2 4)
   have hB5:=hB.trans (hb5.mono hB.size)
   have u2:=copy_fin hL5 hB5.size (by omega) (.int .i64 x.kind) (.int .i64 x.op) (.string x.name) (.int .i64 x.val) (.slice A1 x.args.length c1)
   refine bodyPost_ret (v:=.tuple #[.agg #[.int .i64 x.kind,.int .i64 x.op,.string x.name,.int .i64 x.val,.slice A1 x.args.length c1],.int .i64 (i:Nat),.bool true]) (results_c2t rfl rfl (ld5 (set5_blk hE5 _ _ _ _ _)) rfl rfl) rfl ?_
   unfold OpR
   exact ⟨set5_below hB5 (Nat.le_refl _) _ _ _ _ _,_,rfl,u2⟩
 ·rw [if_neg hp5] at hne ⊢
  have g1:((p:Int) == 6)=false:=by simpa using (by omega:¬ (p:Int)=6)
  have g2:(p == 6)=false:=by simpa using (by omega:¬ p=6)
  have g3:¬ (p:Int)=6:=by omega
  obtain ⟨p1,hp1e⟩:∃ p1,p1=p+1:=⟨_,rfl⟩
  have hwp1:IntKind.i64.wrap ((p:Int)+1)=(p1:Int):=by rw [IntKind.wrap_i64]; omega
  have hXX:∀ (j:Nat) (W:World) (g:Nat),g≤f→TkW A B ts W→j≤ts.length→pP ts g (.bin p1) j≠.out→Calls Tryz.prog 137 #[.slice A ts.length c,.int .i64 (j:Nat),.int .i64 (p1:Nat)] W (OpR (pP ts g (.bin p1) j) W):=fun j W g hg h hj hn=>by
   have e:=pP_le ts hg hn
   have:=HX j p1 W h hj (by omega) (by omega) (by rw [e]; exact hn)
   rw [e] at this
   exact this
  have HXX:=Lib.hid hXX
  have HLN:Hid (∀ (g:Nat) (e:Ex) (i:Nat),pP ts (g+1) (.loop p e) i=if (opT (nxT ts i)).2=p then ((pP ts g (.bin p1) (i+1)).bind fun e2 i2=>(if p=3 then .ok (exBin (opT (nxT ts i)).1 e e2) i2 else pP ts g (.loop p (exBin (opT (nxT ts i)).1 e e2)) i2)) else .ok e i):=Lib.hid (fun g e i=>by rw [hp1e]; exact pP_lnx ts g p e i hp1)
  have HST:Hid (∀ (x:Ex) (j i g:Nat),j≤ts.length→pP ts g (.bin p1) j=.ok x i→i≤ts.length):=Lib.hid (fun x j i g hj h=>(pP_step ts g (.bin p1) j x i h hj).2.1)
  have HNX:=Lib.hid (fun (W:World) (h:TkW A B ts W) (i:Nat)=>rnext_any A c B ts i W h.tok h.lo)
  have HPP:=Lib.hid hp1
  rw [← hp1e] at hne ⊢
  have hI:=fun (W:World) (h:TkW A B ts W) hn=>HXX.out k W f (Nat.le_refl _) h hkl hn
  have HS0:=Lib.hid (fun (x:Ex) (i:Nat)=>HST.out x k i f hkl)
  generalize pP ts f (.bin p1) k=P at hne hI HS0 ⊢
  have HI:=Lib.hid hI
  unfold OpR at HI
  clear HO HX hI hXX hp5 hp1 hp6 hp1e
  cases P with
  | out=>exact absurd rfl hne
  | bad i=>
   show Calls _ _ _ w (OpR (.bad i) w)
   have HP2:Hid (∀ W,TkW A B ts W→Calls Tryz.prog 137 #[.slice A ts.length c,.int .i64 (k:Nat),.int .i64 (p1:Nat)] W (fun e W'=>Below W.heap.size W W'∧e=.returned (.tuple #[.agg #[.int .i64 0,.int .i64 0,.string ⟨#[]⟩,.int .i64 0,.slice none 0 0],.int .i64 (i:Nat),.bool false]))):=Lib.hid (fun W h=>HI.out W h (fun e=>by cases e))
   clear HI hne HXX HLN HST HNX HS0
   go_enter Tryz.func137,Tryz.ntmps137
   go_upto_region 1 with fail
   generalize w.alloc _=w1 at hE hB hK hsz ⊢
   go_wp2_with fail
   refine (HP2.out _ hK).mono ?_
   rintro e W5 ⟨hb5,rfl⟩
   replace hb5:=hb5.trans (below_alloc2 hb5.size (.cells #[.int .i64 0,.int .i64 0,.string ⟨#[]⟩,.int .i64 0,.slice none 0 0] 38))
   go_upto_region 5 with fail
   generalize W5.alloc _=W6 at hb5 ⊢
   replace hB:=hB.trans (hb5.mono hB.size)
   replace hE:=heap_next hE hb5
   obtain ⟨⟨z0,z1,z2,z3,z4⟩,z5⟩:=row5 hE
   have z50:=z5 0
   have z51:=z5 1
   have z52:=z5 2
   have z53:=z5 3
   have z54:=z5 4
   go_wp2_with fail
   refine bodyPost_ret (v:=.tuple #[.agg #[.int .i64 0,.int .i64 0,.string ⟨#[]⟩,.int .i64 0,.slice none 0 0],.int .i64 (i:Nat),.bool false]) (results_c2t rfl rfl (ld5 (set5_blk hE _ _ _ _ _)) rfl rfl) rfl ?_
   unfold OpR
   exact ⟨set5_below hB (Nat.le_refl _) _ _ _ _ _,rfl⟩
  | ok a i=>
   change pP ts f (.loop p a) i≠.out at hne
   show Calls _ _ _ w (OpR (pP ts f (.loop p a) i) w)
   have hil:=HS0.out a i rfl
   obtain ⟨RES,HRES⟩:∃ RES,Hid (RES=pP ts f (.loop p a) i):=⟨_,Lib.hid rfl⟩
   rw [← HRES.out] at hne ⊢
   have HNE:=Lib.hid hne
   have HP2:Hid (∀ W,TkW A B ts W→Calls Tryz.prog 137 #[.slice A ts.length c,.int .i64 (k:Nat),.int .i64 (p1:Nat)] W (fun e W'=>Below W.heap.size W W'∧∃ vs,e=.returned (.tuple #[.agg vs.toArray,.int .i64 (i:Nat),.bool true])∧LiesE (mask (fun X=>decide (X<W.heap.size)) W') W'.heap.size vs a)):=Lib.hid (fun W h=>HI.out W h (fun e=>by cases e))
   clear HI hne HS0
   go_enter Tryz.func137,Tryz.ntmps137
   go_upto_region 1 with fail
   generalize w.alloc _=w1 at hE hB hK hsz ⊢
   go_wp2_with fail
   refine (HP2.out _ hK).mono ?_
   rintro e W5 ⟨hb5,vs,rfl,hL5⟩
   obtain ⟨A1,c1,row,rfl,-,-⟩:=hL5.form
   have hb6:=hb5.trans (below_alloc2 hb5.size (.cells #[.int .i64 a.kind,.int .i64 a.op,.string a.name,.int .i64 a.val,.slice A1 a.args.length c1] 38))
   have hG:(W5.alloc (.cells #[.int .i64 a.kind,.int .i64 a.op,.string a.name,.int .i64 a.val,.slice A1 a.args.length c1] 38)).heap[W5.heap.size]? = some (.cells #[.int .i64 a.kind,.int .i64 a.op,.string a.name,.int .i64 a.val,.slice A1 a.args.length c1] 38 (0,0)):=heap_alloc_new W5 _
   have hba:=below_alloc W5 (.cells #[.int .i64 a.kind,.int .i64 a.op,.string a.name,.int .i64 a.val,.slice A1 a.args.length c1] 38)
   have hwF:w.heap.size<W5.heap.size:=by have:=hb5.size; omega
   have hL6:=hL5.turn (W:=W5.alloc (.cells #[.int .i64 a.kind,.int .i64 a.op,.string a.name,.int .i64 a.val,.slice A1 a.args.length c1] 38)) (q:=fun X=>decide (X<w.heap.size+1) || X == W5.heap.size) (fun X hX h=>bor_m (by have:=of_decide_eq_false h; omega) (by omega)) hba.size (fun X hX _=>hba.block X hX)
   unfold exC at *
   go_upto_block 0 with fail
   generalize W5.alloc _=W6 at hb6 hG hL6 hba ⊢
   generalize W5.heap.size=F at hG hL6 hwF ⊢
   have hBI:ExI A B ts p F w RES f i W6:=⟨a,A1,c1,hil,hK.next hb6,hB.trans (hb6.mono hB.size),heap_next hE hb6,hG,hL6,HRES.out⟩
   clear hb5 hb6 hG hL5 hL6 hba hK hB hE HRES HP2 hil hsz
   go_wp2_with fail
   go_loopg [10] f (fun g iv wr=>g≤f∧∃ i:Nat,iv=.int .i64 (i:Nat)∧ExI A B ts p F w RES g i wr)
   case atStart=>exact ⟨Nat.le_refl _,i,rfl,hBI⟩
   case round=>
    clear hBI
    obtain ⟨hgf,i,rfl,e,A1,c1,hil,hK,hB,hE,hF,hL,hRES⟩:=hrel
    obtain ⟨g,rfl⟩:∃ g,gk=g+1:=by
     cases gk with
     | zero=>simp only [pP] at hRES; exact absurd hRES HNE.out
     | succ g=>exact ⟨g,rfl⟩
    rw [HLN.out] at hRES
    have hi0:(0:Int)≤(i:Int):=by omega
    have HOP:=Lib.hid (fun W=>ropr_any (nxT ts i) W)
    have HN1:=Lib.hid (fun (W:World) (h:TkW A B ts W)=>HNX.out W h i)
    have HLT:Hid ((opT (nxT ts i)).2≠0→i<ts.length):=Lib.hid opT_lt
    have HOI:=Lib.hid (opT_i64 (nxT ts i))
    unfold Ret at HOP HN1
    generalize opT (nxT ts i)=os at hRES HOP HLT HOI
    obtain ⟨o,q⟩:=os
    dsimp only at hRES HOP HLT HOI
    generalize nxT ts i=t at HOP HN1
    obtain ⟨kd2,tx2,vl2,ps2⟩:=t
    unfold tkV at HOP HN1
    simp only at HOP HN1
    have HRS:=Lib.hid hRES
    clear hRES
    go_wp2_with fail
    refine (HN1.out _ hK).mono ?_
    rintro e9 W5 ⟨rfl,hb5⟩
    go_wp2_with fail
    refine (HOP.out _).mono ?_
    rintro e9 W6 ⟨rfl,hb6⟩
    replace hb5:=hb5.trans (hb6.mono hb5.size)
    clear hb6
    replace hB:=hB.trans (hb5.mono hB.size)
    replace hE:=heap_next hE hb5
    replace hF:=heap_next hF hb5
    replace hK:=hK.next hb5
    replace hL:=hL.turn (W:=W6) (q:=(fun X=>decide (X<w.heap.size+1) || X == F)) (fun X _ h=>h) hb5.size (fun X hX _=>hb5.block X hX)
    clear hb5 HN1 HOP
    by_cases hqp:q=p
    rotate_left
    ·have e1:((q:Int) != (p:Int))=true:=by simpa using (by omega:¬ (q:Int)=(p:Int))
     have e2:(q != p)=true:=by simpa using hqp
     have e3:((q:Int) == (p:Int))=false:=by simpa using (by omega:¬ (q:Int)=(p:Int))
     have HV:Hid (RES=.ok e i):=Lib.hid (by rw [HRS.out,if_neg hqp])
     clear HRS hqp
     obtain ⟨⟨y0,y1,y2,y3,y4⟩,-⟩:=row5 hF
     obtain ⟨⟨z0,z1,z2,z3,z4⟩,z5⟩:=row5 hE
     have z50:=z5 0
     have z51:=z5 1
     have z52:=z5 2
     have z53:=z5 3
     have z54:=z5 4
     have u2:=copy_loop hL (.int .i64 e.kind) (.int .i64 e.op) (.string e.name) (.int .i64 e.val) (.slice A1 e.args.length c1)
     go_wp2_with fail
     refine bodyPost_ret (v:=.tuple #[.agg #[.int .i64 e.kind,.int .i64 e.op,.string e.name,.int .i64 e.val,.slice A1 e.args.length c1],.int .i64 (i:Nat),.bool true]) (results_c2t rfl rfl (ld5 (set5_blk hE _ _ _ _ _)) rfl rfl) rfl ?_
     unfold OpR
     rw [HV.out]
     exact ⟨set5_below hB (Nat.le_refl _) _ _ _ _ _,_,rfl,u2⟩
    ·subst hqp
     have e1:((q:Int) != (q:Int))=false:=by simp
     have HV:Hid (RES=((pP ts g (.bin p1) (i+1)).bind fun e2 i2=>(if q=3 then .ok (exBin o e e2) i2 else pP ts g (.loop q (exBin o e e2)) i2))):=Lib.hid (by rw [HRS.out,if_pos rfl])
     have hlt:=HLT.out (by have:=HPP.out; omega)
     obtain ⟨i1,hi1⟩:∃ i1,i1=i+1:=⟨_,rfl⟩
     have hwi1:IntKind.i64.wrap ((i:Int)+1)=(i1:Int):=by rw [IntKind.wrap_i64]; have:=hlen.out; omega
     rw [← hi1] at HV
     have hi1l:i1≤ts.length:=by omega
     have hI2:=fun (W:World) (h:TkW A B ts W) hn=>HXX.out i1 W g (by omega) h hi1l hn
     have HS1:=Lib.hid (fun (x:Ex) (i:Nat)=>HST.out x i1 i g hi1l)
     have hn2:pP ts g (.bin p1) i1≠.out:=fun e9=>HNE.out (by rw [HV.out,e9]; rfl)
     generalize pP ts g (.bin p1) i1=P at hI2 HS1 HV hn2
     have HI2:=Lib.hid hI2
     unfold OpR at HI2
     clear HRS hI2 hlt hi1 hi1l
     cases P with
     | out=>exact absurd rfl hn2
     | bad j=>
      have HP3:Hid (∀ W,TkW A B ts W→Calls Tryz.prog 137 #[.slice A ts.length c,.int .i64 (i1:Nat),.int .i64 (p1:Nat)] W (fun e W'=>Below W.heap.size W W'∧e=.returned (.tuple #[.agg #[.int .i64 0,.int .i64 0,.string ⟨#[]⟩,.int .i64 0,.slice none 0 0],.int .i64 (j:Nat),.bool false]))):=Lib.hid (fun W h=>HI2.out W h (fun e=>by cases e))
      have HV2:Hid (RES=.bad j):=Lib.hid HV.out
      clear HI2 HS1 HV hn2
      go_wp2_with fail
      refine (HP3.out _ hK).mono ?_
      rintro e9 W7 ⟨hb7,rfl⟩
      replace hb7:=hb7.trans (below_alloc2 hb7.size (.cells #[.int .i64 0,.int .i64 0,.string ⟨#[]⟩,.int .i64 0,.slice none 0 0] 38))
      go_upto_region 11 with fail
      generalize W7.alloc _=W8 at hb7 ⊢
      replace hB:=hB.trans (hb7.mono hB.size)
      replace hE:=heap_next hE hb7
      obtain ⟨⟨z0,z1,z2,z3,z4⟩,z5⟩:=row5 hE
      have z50:=z5 0
      have z51:=z5 1
      have z52:=z5 2
      have z53:=z5 3
      have z54:=z5 4
      go_wp2_with fail
      refine bodyPost_ret (v:=.tuple #[.agg #[.int .i64 0,.int .i64 0,.string ⟨#[]⟩,.int .i64 0,.slice none 0 0],.int .i64 (j:Nat),.bool false]) (results_c2t rfl rfl (ld5 (set5_blk hE _ _ _ _ _)) rfl rfl) rfl ?_
      unfold OpR
      rw [HV2.out]
      exact ⟨set5_below hB (Nat.le_refl _) _ _ _ _ _,rfl⟩
     | ok e2 j=>
      have hjl:=HS1.out e2 j rfl
      have HP3:Hid (∀ W,TkW A B ts W→Calls Tryz.prog 137 #[.slice A ts.length c,.int .i64 (i1:Nat),.int .i64 (p1:Nat)] W (fun e W'=>Below W.heap.size W W'∧∃ vs,e=.returned (.tuple #[.agg vs.toArray,.int .i64 (j:Nat),.bool true])∧LiesE (mask (fun X=>decide (X<W.heap.size)) W') W'.heap.size vs e2)):=Lib.hid (fun W h=>HI2.out W h (fun e=>by cases e))
      have HV2:Hid (RES=if q=3 then PR.ok (exBin o e e2) j else pP ts g (.loop q (exBin o e e2)) j):=Lib.hid HV.out
      clear HI2 HS1 HV hn2
      go_wp2_with fail
      refine (HP3.out _ hK).mono ?_
      rintro e9 W7 ⟨hb7,vs,rfl,hL7⟩
      obtain ⟨A2,c2,row,rfl,-,-⟩:=hL7.form
      have hFs:=heap_lt hF
      have hb8:=hb7.trans (below_alloc2 hb7.size (.cells #[.int .i64 e2.kind,.int .i64 e2.op,.string e2.name,.int .i64 e2.val,.slice A2 e2.args.length c2] 38))
      have hH:(W7.alloc (.cells #[.int .i64 e2.kind,.int .i64 e2.op,.string e2.name,.int .i64 e2.val,.slice A2 e2.args.length c2] 38)).heap[W7.heap.size]? = some (.cells #[.int .i64 e2.kind,.int .i64 e2.op,.string e2.name,.int .i64 e2.val,.slice A2 e2.args.length c2] 38 (0,0)):=heap_alloc_new W7 _
      have hba:=below_alloc W7 (.cells #[.int .i64 e2.kind,.int .i64 e2.op,.string e2.name,.int .i64 e2.val,.slice A2 e2.args.length c2] 38)
      have hL8:=hL7.turn (W:=W7.alloc (.cells #[.int .i64 e2.kind,.int .i64 e2.op,.string e2.name,.int .i64 e2.val,.slice A2 e2.args.length c2] 38)) (q:=fun X=>decide (X<W6.heap.size)) (fun X _ h=>h) hba.size (fun X hX _=>hba.block X hX)
      have hL9:=hL.turn (W:=W7.alloc (.cells #[.int .i64 e2.kind,.int .i64 e2.op,.string e2.name,.int .i64 e2.val,.slice A2 e2.args.length c2] 38)) (q:=(fun X=>decide (X<w.heap.size+1) || X == F)) (B':=W6.heap.size) (fun X _ h=>h) (Nat.le_refl _) (fun X hX _=>hb8.block X hX)
      have hs8:W6.heap.size≤(W7.alloc (.cells #[.int .i64 e2.kind,.int .i64 e2.op,.string e2.name,.int .i64 e2.val,.slice A2 e2.args.length c2] 38)).heap.size:=hb8.size
      unfold exC at *
      go_upto_region 12 with fail
      generalize W7.alloc _=W8 at hb8 hH hL8 hL9 hs8 hba ⊢
      generalize W7.heap.size=H at hH ⊢
      clear hb7 hL7 hba hL
      replace hB:=hB.trans (hb8.mono hB.size)
      replace hE:=heap_next hE hb8
      replace hF:=heap_next hF hb8
      replace hK:=hK.next hb8
      clear hb8
      obtain ⟨v1,v2⟩:=bin_fin (o:=o) hB hL9 hL8 hwF hFs hs8 HOI.out
      have hb10:=below_alloc W8 (.cells #[.int .i64 e.kind,.int .i64 e.op,.string e.name,.int .i64 e.val,.slice A1 e.args.length c1,.int .i64 e2.kind,.int .i64 e2.op,.string e2.name,.int .i64 e2.val,.slice A2 e2.args.length c2] 38)
      have hE10:=heap_next hE hb10
      have hF10:=heap_next hF hb10
      have hK10:=hK.next hb10
      obtain ⟨⟨y0,y1,y2,y3,y4⟩,-⟩:=row5 hF
      obtain ⟨⟨x0,x1,x2,x3,x4⟩,-⟩:=row5 hH
      obtain ⟨⟨r0,r1,r2,r3,r4⟩,r5⟩:=row5 hF10
      have r50:=r5 0
      have r51:=r5 1
      have r52:=r5 2
      have r53:=r5 3
      have r54:=r5 4
      go_upto_region 13 with fail
      have hE11:=(set5_oth (W:=W8.alloc (.cells #[.int .i64 e.kind,.int .i64 e.op,.string e.name,.int .i64 e.val,.slice A1 e.args.length c1,.int .i64 e2.kind,.int .i64 e2.op,.string e2.name,.int .i64 e2.val,.slice A2 e2.args.length c2] 38)) (E:=F) (k:=w.heap.size) (by omega) (.int .i64 4) (.int .i64 o) (.string ⟨#[]⟩) (.int .i64 0) (.slice (some ⟨W8.heap.size,0,none⟩) 2 2)).trans hE10
      have hF11:=set5_blk hF10 (.int .i64 4) (.int .i64 o) (.string ⟨#[]⟩) (.int .i64 0) (.slice (some ⟨W8.heap.size,0,none⟩) 2 2)
      have hK11:TkW A B ts ((((((W8.alloc (.cells #[.int .i64 e.kind,.int .i64 e.op,.string e.name,.int .i64 e.val,.slice A1 e.args.length c1,.int .i64 e2.kind,.int .i64 e2.op,.string e2.name,.int .i64 e2.val,.slice A2 e2.args.length c2] 38)).setCell ⟨F,0,none⟩ (.int .i64 4)).setCell ⟨F,1,none⟩ (.int .i64 o)).setCell ⟨F,2,none⟩ (.string ⟨#[]⟩)).setCell ⟨F,3,none⟩ (.int .i64 0)).setCell ⟨F,4,none⟩ (.slice (some ⟨W8.heap.size,0,none⟩) 2 2)):=⟨(((((hK10.tok.setCell (p:=⟨F,0,none⟩) (by show B≤F; have:=HBL.out; omega) _).setCell (p:=⟨F,1,none⟩) (by show B≤F; have:=HBL.out; omega) _).setCell (p:=⟨F,2,none⟩) (by show B≤F; have:=HBL.out; omega) _).setCell (p:=⟨F,3,none⟩) (by show B≤F; have:=HBL.out; omega) _).setCell (p:=⟨F,4,none⟩) (by show B≤F; have:=HBL.out; omega) _),by rw [set5_size]; exact hK10.lo⟩
      clear r0 r1 r2 r3 r4 r5 r50 r51 r52 r53 r54 x0 x1 x2 x3 x4 y0 y1 y2 y3 y4 hE10 hF10 hK10 hb10 hL8 hL9 hH hE hF hK
      generalize W8.heap.size=g8 at v1 v2 hE11 hF11 hK11 ⊢
      generalize World.setCell _ _ _=W9 at v1 v2 hE11 hF11 hK11 ⊢
      by_cases hq3:q=3
      ·have e3:((q:Int) == 3)=true:=by simpa using (by omega:(q:Int)=3)
       have HV3:Hid (RES=.ok (exBin o e e2) j):=Lib.hid (by rw [HV2.out,if_pos hq3])
       have hq3i:(q:Int)=3:=by omega
       clear HV2 hq3
       obtain ⟨⟨y0,y1,y2,y3,y4⟩,-⟩:=row5 hF11
       have hE:=hE11
       have u2:=copy_loop v2 (.int .i64 4) (.int .i64 o) (.string ⟨#[]⟩) (.int .i64 0) (.slice (some ⟨g8,0,none⟩) 2 2)
       obtain ⟨⟨z0,z1,z2,z3,z4⟩,z5⟩:=row5 hE
       have z50:=z5 0
       have z51:=z5 1
       have z52:=z5 2
       have z53:=z5 3
       have z54:=z5 4
       go_wp2_with fail
       refine bodyPost_ret (v:=.tuple #[.agg #[.int .i64 4,.int .i64 o,.string ⟨#[]⟩,.int .i64 0,.slice (some ⟨g8,0,none⟩) 2 2],.int .i64 (j:Nat),.bool true]) (results_c2t rfl rfl (ld5 (set5_blk hE _ _ _ _ _)) rfl rfl) rfl ?_
       unfold OpR
       rw [HV3.out]
       exact ⟨set5_below v1 (Nat.le_refl _) _ _ _ _ _,_,rfl,u2⟩
      ·have e3:((q:Int) == 3)=false:=by simpa using (by omega:¬ (q:Int)=3)
       have HV3:Hid (RES=pP ts g (.loop q (exBin o e e2)) j):=Lib.hid (by rw [HV2.out,if_neg hq3])
       have hq3i:¬ (q:Int)=3:=by omega
       clear HV2 hq3
       have HBI:Hid (ExI A B ts q F w RES g j W9):=Lib.hid ⟨exBin o e e2,some ⟨g8,0,none⟩,2,hjl,hK11,v1,hE11,hF11,v2,HV3.out⟩
       clear v1 v2 hE11 hF11 hK11
       go_wp2_with fail
       go_roundg g
       case measure=>omega
       case rel=>exact ⟨by omega,j,rfl,HBI.out⟩
/-- Both, by their steps. -/
theorem rex_all {A:Option Addr} {c B:Nat} {ts:List Tk} (hok:TkLim ts):∀ f,RopC A c B ts f∧RexC A c B ts f
 | 0=>⟨fun k w _ _ hne=>absurd (by simp only [pP]) hne,fun k p w _ _ _ _ hne=>absurd (by simp only [pP]) hne⟩
 | f+1=>⟨opd_of hok (rex_all hok f).1 (rex_all hok f).2,ex_of hok (rex_all hok f).1 (rex_all hok f).2⟩
end Go.Proofs.YtmbffkemfepekaaGreatDoor

namespace Go.Proofs.YtmbffkemfepekaaGreatDoor
open Go.RowKit
/-- What Expr gives. -/
def RxR (r:Ex × Nat × Nat) (w:World):Ending→World→Prop:=fun e W=>Below w.heap.size w W∧∃ (A:Option Addr) (c:Nat),e=.returned (.tuple #[.agg (exC r.1.kind r.1.op r.1.name r.1.val A r.1.args.length c).toArray,.int .i64 (r.2.1:Nat),.int .i64 (r.2.2:Nat)])∧LiesE (mask (fun X=>decide (X<w.heap.size)) W) W.heap.size (exC r.1.kind r.1.op r.1.name r.1.val A r.1.args.length c) r.1
theorem TksOk.lim {ts:List Tk} (h:TksOk ts):TkLim ts:=⟨by have:=h.len; omega,fun t ht=>by have:=(h.ok t ht).2; omega⟩
set_option maxRecDepth 100000 in
set_option maxHeartbeats 12800000 in
theorem rexpr88_any {A:Option Addr} {c B:Nat} {ts:List Tk} (hok:TkLim ts) (hlen:ts.length≤4001) (w:World) (hK:TkW A B ts w):Calls Tryz.prog 88 #[.slice A ts.length c] w (RxR (exprR ts) w):=by
 have hne:=readP_ne ts
 have HX:=Lib.hid (fun (W:World) (h:TkW A B ts W)=>(rex_all (c:=c) hok (8 * ts.length+8)).2 0 1 W h (Nat.zero_le _) (by omega) (by omega) hne)
 have HR:Hid (exprR ts=match readP ts with | .ok e n=>if chkE e=0 then (e,n,0) else (ex0,0,chkE e) | .bad n=>(ex0,n,3) | .out=>(ex0,0,3)):=Lib.hid rfl
 change Hid (∀ W,TkW A B ts W→Calls _ _ _ W (OpR (readP ts) W)) at HX
 generalize exprR ts=R at HR ⊢
 generalize readP ts=pr at HX HR hne
 have e1:decide ((ts.length:Int) > 4001)=false:=decide_eq_false (by omega)
 have e2:decide (4001<(ts.length:Int))=false:=decide_eq_false (by omega)
 have e3:decide (4001<ts.length)=false:=decide_eq_false (by omega)
 have hE:(w.alloc (.cells #[.int .i64 0,.int .i64 0,.string ⟨#[]⟩,.int .i64 0,.slice none 0 0] 38)).heap[w.heap.size]? = some (.cells #[.int .i64 0,.int .i64 0,.string ⟨#[]⟩,.int .i64 0,.slice none 0 0] 38 (0,0)):=heap_alloc_new w _
 have hB:=below_alloc w (.cells #[.int .i64 0,.int .i64 0,.string ⟨#[]⟩,.int .i64 0,.slice none 0 0] 38)
 replace hK:=hK.next hB
 unfold OpR at HX
 cases pr with
 | out=>exact absurd rfl hne
 | bad i=>
  have HV:Hid (R=(ex0,i,3)):=Lib.hid HR.out
  replace HX:Hid (∀ W,TkW A B ts W→Calls Tryz.prog 137 #[.slice A ts.length c,.int .i64 0,.int .i64 1] W (fun e W'=>Below W.heap.size W W'∧e=.returned (.tuple #[.agg #[.int .i64 0,.int .i64 0,.string ⟨#[]⟩,.int .i64 0,.slice none 0 0],.int .i64 (i:Nat),.bool false]))):=Lib.hid HX.out
  clear hne HR
  go_enter Tryz.func88,Tryz.ntmps88
  go_upto_region 1 with fail
  generalize w.alloc _=w1 at hE hB hK ⊢
  go_wp2_with fail
  refine (HX.out _ hK).mono ?_
  rintro e W5 ⟨hb5,rfl⟩
  replace hb5:=hb5.trans (below_alloc2 hb5.size (.cells #[.int .i64 0,.int .i64 0,.string ⟨#[]⟩,.int .i64 0,.slice none 0 0] 38))
  go_upto_region 4 with fail
  generalize W5.alloc _=W6 at hb5 ⊢
  replace hB:=hB.trans (hb5.mono hB.size)
  replace hE:=heap_next hE hb5
  clear hb5 hK
  obtain ⟨⟨z0,z1,z2,z3,z4⟩,z5⟩:=row5 hE
  have z50:=z5 0
  have z51:=z5 1
  have z52:=z5 2
  have z53:=z5 3
  have z54:=z5 4
  go_wp2_with fail
  refine bodyPost_ret (v:=.tuple #[.agg #[.int .i64 0,.int .i64 0,.string ⟨#[]⟩,.int .i64 0,.slice none 0 0],.int .i64 (i:Nat),.int .i64 (3:Nat)]) (results_c2t rfl rfl (ld5 (set5_blk hE _ _ _ _ _)) rfl rfl) rfl ?_
  rw [HV.out]
  exact ⟨set5_below hB (Nat.le_refl _) _ _ _ _ _,none,0,rfl,leaf_lies _ _ 0 0 0 _ ⟨by unfold I64; omega,by unfold I64; omega,by unfold I64; omega,by show ByteArray.empty.size≤9223372036854775807; decide⟩⟩
 | ok x i=>
  replace HX:Hid (∀ W,TkW A B ts W→Calls Tryz.prog 137 #[.slice A ts.length c,.int .i64 0,.int .i64 1] W (fun e W'=>Below W.heap.size W W'∧∃ vs,e=.returned (.tuple #[.agg vs.toArray,.int .i64 (i:Nat),.bool true])∧LiesE (mask (fun X=>decide (X<W.heap.size)) W') W'.heap.size vs x)):=Lib.hid HX.out
  have HR2:Hid (R=if chkE x=0 then (x,i,0) else (ex0,0,chkE x)):=Lib.hid HR.out
  clear hne HR
  go_enter Tryz.func88,Tryz.ntmps88
  go_upto_region 1 with fail
  generalize w.alloc _=w1 at hE hB hK ⊢
  go_wp2_with fail
  refine (HX.out _ hK).mono ?_
  rintro e W5 ⟨hb5,vs,rfl,hL5⟩
  obtain ⟨A1,c1,row,rfl,-,-⟩:=hL5.form
  have hEs:=heap_lt hE
  have hb6:=hb5.trans (below_alloc2 hb5.size (.cells #[.int .i64 x.kind,.int .i64 x.op,.string x.name,.int .i64 x.val,.slice A1 x.args.length c1] 38))
  have hG:(W5.alloc (.cells #[.int .i64 x.kind,.int .i64 x.op,.string x.name,.int .i64 x.val,.slice A1 x.args.length c1] 38)).heap[W5.heap.size]? = some (.cells #[.int .i64 x.kind,.int .i64 x.op,.string x.name,.int .i64 x.val,.slice A1 x.args.length c1] 38 (0,0)):=heap_alloc_new W5 _
  have hba:=below_alloc W5 (.cells #[.int .i64 x.kind,.int .i64 x.op,.string x.name,.int .i64 x.val,.slice A1 x.args.length c1] 38)
  have hL6:=hL5.turn (W:=W5.alloc (.cells #[.int .i64 x.kind,.int .i64 x.op,.string x.name,.int .i64 x.val,.slice A1 x.args.length c1] 38)) (q:=fun X=>decide (X<w1.heap.size)) (fun X _ h=>h) hba.size (fun X hX _=>hba.block X hX)
  have hs6:w1.heap.size≤(W5.alloc (.cells #[.int .i64 x.kind,.int .i64 x.op,.string x.name,.int .i64 x.val,.slice A1 x.args.length c1] 38)).heap.size:=hb6.size
  have HC:=Lib.hid (rcheckE_any x (W5.alloc (.cells #[.int .i64 x.kind,.int .i64 x.op,.string x.name,.int .i64 x.val,.slice A1 x.args.length c1] 38)).heap.size _ (W5.alloc (.cells #[.int .i64 x.kind,.int .i64 x.op,.string x.name,.int .i64 x.val,.slice A1 x.args.length c1] 38)) hL6.unmask (Nat.le_refl _))
  unfold exC at *
  unfold Ret at HC
  go_upto_region 4 with fail
  generalize W5.alloc _=W6 at hb6 hG hL6 hs6 hba HC ⊢
  generalize W5.heap.size=G at hG ⊢
  clear hb5 hL5 hba
  replace hB:=hB.trans (hb6.mono hB.size)
  replace hE:=heap_next hE hb6
  clear hb6 hK
  generalize chkE x=ce at HC HR2
  obtain ⟨⟨g0,g1,g2,g3,g4⟩,-⟩:=row5 hG
  go_wp2_with fail
  refine HC.out.mono ?_
  rintro e W7 ⟨rfl,hb7⟩
  replace hB:=hB.trans (hb7.mono hB.size)
  replace hE:=heap_next hE hb7
  replace hG:=heap_next hG hb7
  have hL7:=hL6.turn (W:=W7) (q:=fun X=>decide (X<w1.heap.size)) (fun X _ h=>h) hb7.size (fun X hX _=>hb7.block X hX)
  clear hb7 hL6 hs6 HC g0 g1 g2 g3 g4
  by_cases hce:ce=0
  ·have HV:Hid (R=(x,i,0)):=Lib.hid (by rw [HR2.out,if_pos hce])
   subst hce
   obtain ⟨⟨g0,g1,g2,g3,g4⟩,-⟩:=row5 hG
   have u2:=copy_fin hL7 hB.size hEs (.int .i64 x.kind) (.int .i64 x.op) (.string x.name) (.int .i64 x.val) (.slice A1 x.args.length c1)
   obtain ⟨⟨z0,z1,z2,z3,z4⟩,z5⟩:=row5 hE
   have z50:=z5 0
   have z51:=z5 1
   have z52:=z5 2
   have z53:=z5 3
   have z54:=z5 4
   clear HR2
   go_wp2_with fail
   refine bodyPost_ret (v:=.tuple #[.agg #[.int .i64 x.kind,.int .i64 x.op,.string x.name,.int .i64 x.val,.slice A1 x.args.length c1],.int .i64 (i:Nat),.int .i64 0]) (results_c2t rfl rfl (ld5 (set5_blk hE _ _ _ _ _)) rfl rfl) rfl ?_
   rw [HV.out]
   exact ⟨set5_below hB (Nat.le_refl _) _ _ _ _ _,_,_,rfl,u2⟩
  ·have HV:Hid (R=(ex0,0,ce)):=Lib.hid (by rw [HR2.out,if_neg hce])
   have n0:((ce:Nat):Int)≠0:=by omega
   have n1:(((ce:Nat):Int) != 0)=true:=by simpa using hce
   have n2:(ce != 0)=true:=by simpa using hce
   clear HR2 hce
   obtain ⟨⟨z0,z1,z2,z3,z4⟩,z5⟩:=row5 hE
   have z50:=z5 0
   have z51:=z5 1
   have z52:=z5 2
   have z53:=z5 3
   have z54:=z5 4
   go_wp2_with fail
   refine bodyPost_ret (v:=.tuple #[.agg #[.int .i64 0,.int .i64 0,.string ⟨#[]⟩,.int .i64 0,.slice none 0 0],.int .i64 0,.int .i64 (ce:Nat)]) (results_c2t rfl rfl (ld5 (set5_blk hE _ _ _ _ _)) rfl rfl) rfl ?_
   rw [HV.out]
   exact ⟨set5_below hB (Nat.le_refl _) _ _ _ _ _,none,0,rfl,leaf_lies _ _ 0 0 0 _ ⟨by unfold I64; omega,by unfold I64; omega,by unfold I64; omega,by show ByteArray.empty.size≤9223372036854775807; decide⟩⟩
end Go.Proofs.YtmbffkemfepekaaGreatDoor
