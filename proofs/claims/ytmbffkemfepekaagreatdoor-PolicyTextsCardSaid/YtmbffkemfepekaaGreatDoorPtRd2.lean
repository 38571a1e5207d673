/- (*reader).binary, walked, given what it calls. Conditions: the reader's block lies above the tokens. -/
import Derived.Test.YtmbffkemfepekaaGreatDoorPtRd1
import Derived.Deep.LoopGhost
import Derived.Lib.QuietBelow
namespace Go.Proofs.YtmbffkemfepekaaGreatDoor
open Go.RowKit Go.Sort
/-- What binary holds in its loop: the result's box E, the expression's box F. -/
def BinI (B R:Nat) (A:Option Addr) (c:Nat) (ts:List Tk) (p E F:Nat) (w:World) (RES:PR) (g:Nat) (W:World):Prop:=
 ∃ (e:Ex) (A1:Option Addr) (c1 i:Nat),Rdr B R A c ts i W∧Turn R (R+1) w W∧W.heap[E]? = some (.cells #[.int .i64 0,.int .i64 0,.string ⟨#[]⟩,.int .i64 0,.slice none 0 0] 38 (0,0)) ∧
  W.heap[F]? = some (.cells #[.int .i64 e.kind,.int .i64 e.op,.string e.name,.int .i64 e.val,.slice A1 e.args.length c1] 38 (0,0)) ∧
  LiesE (mask (fun X=>decide (X≤w.heap.size) || X == F) W) W.heap.size (exC e.kind e.op e.name e.val A1 e.args.length c1) e∧RES=pP ts g (.loop p e) i
theorem bor_no {w X F:Nat} (h:(decide (X≤w) || X == F)=false):w<X∧X≠F:=by
 rw [Bool.or_eq_false_iff] at h
 have h1:=of_decide_eq_false h.1
 exact ⟨by omega,by simpa using h.2⟩
theorem bor_mk {w X F:Nat} (h:w<X) (h2:X≠F):(decide (X≤w) || X == F)=false:=by
 rw [decide_eq_false (by omega)]
 simpa using h2
theorem opS_small (l:List UInt8):I64 (opS l).1:=by
 have key:∀ (c:Prop) [Decidable c] (x y:Int × Nat),I64 x.1→I64 y.1→I64 (if c then x else y).1:=by
  intro c _ x y h1 h2
  split <;> assumption
 unfold opS
 repeat (refine key _ _ _ ⟨by decide,by decide⟩ ?_)
 exact ⟨by decide,by decide⟩
/-- The end of a binary operator: a row of two for its arguments, and the variable's five cells. -/
theorem bin_end {B R c i:Nat} {A:Option Addr} {ts:List Tk} {w ws W:World} {e e2:Ex} {A1 A2:Option Addr} {c1 c2 F:Nat} {o:Int} {Z:Obj} (h:Rdr B R A c ts i W) (ht:Turn R (R+1) w W) (hE:W.heap[w.heap.size]? = some Z)
  (hF:W.heap[F]? = some (.cells #[.int .i64 e.kind,.int .i64 e.op,.string e.name,.int .i64 e.val,.slice A1 e.args.length c1] 38 (0,0)))
  (hL:LiesE (mask (fun X=>decide (X≤w.heap.size) || X == F) W) ws.heap.size (exC e.kind e.op e.name e.val A1 e.args.length c1) e) (hL2:LiesE (mask (fun X=>decide (X<ws.heap.size)) W) W.heap.size (exC e2.kind e2.op e2.name e2.val A2 e2.args.length c2) e2)
  (hR:R<w.heap.size) (hEF:w.heap.size<F) (hFs:F<ws.heap.size) (hsW:ws.heap.size≤W.heap.size) (ho:I64 o) :
  Rdr B R A c ts i ((((((W.alloc (.cells #[.int .i64 e.kind,.int .i64 e.op,.string e.name,.int .i64 e.val,.slice A1 e.args.length c1,.int .i64 e2.kind,.int .i64 e2.op,.string e2.name,.int .i64 e2.val,.slice A2 e2.args.length c2] 38)).setCell ⟨F,0,none⟩ (.int .i64 4)).setCell ⟨F,1,none⟩ (.int .i64 o)).setCell ⟨F,2,none⟩ (.string ⟨#[]⟩)).setCell ⟨F,3,none⟩ (.int .i64 0)).setCell ⟨F,4,none⟩ (.slice (some ⟨W.heap.size,0,none⟩) 2 2))∧Turn R (R+1) w ((((((W.alloc (.cells #[.int .i64 e.kind,.int .i64 e.op,.string e.name,.int .i64 e.val,.slice A1 e.args.length c1,.int .i64 e2.kind,.int .i64 e2.op,.string e2.name,.int .i64 e2.val,.slice A2 e2.args.length c2] 38)).setCell ⟨F,0,none⟩ (.int .i64 4)).setCell ⟨F,1,none⟩ (.int .i64 o)).setCell ⟨F,2,none⟩ (.string ⟨#[]⟩)).setCell ⟨F,3,none⟩ (.int .i64 0)).setCell ⟨F,4,none⟩ (.slice (some ⟨W.heap.size,0,none⟩) 2 2))∧((((((W.alloc (.cells #[.int .i64 e.kind,.int .i64 e.op,.string e.name,.int .i64 e.val,.slice A1 e.args.length c1,.int .i64 e2.kind,.int .i64 e2.op,.string e2.name,.int .i64 e2.val,.slice A2 e2.args.length c2] 38)).setCell ⟨F,0,none⟩ (.int .i64 4)).setCell ⟨F,1,none⟩ (.int .i64 o)).setCell ⟨F,2,none⟩ (.string ⟨#[]⟩)).setCell ⟨F,3,none⟩ (.int .i64 0)).setCell ⟨F,4,none⟩ (.slice (some ⟨W.heap.size,0,none⟩) 2 2)).heap[w.heap.size]? = some Z ∧
  ((((((W.alloc (.cells #[.int .i64 e.kind,.int .i64 e.op,.string e.name,.int .i64 e.val,.slice A1 e.args.length c1,.int .i64 e2.kind,.int .i64 e2.op,.string e2.name,.int .i64 e2.val,.slice A2 e2.args.length c2] 38)).setCell ⟨F,0,none⟩ (.int .i64 4)).setCell ⟨F,1,none⟩ (.int .i64 o)).setCell ⟨F,2,none⟩ (.string ⟨#[]⟩)).setCell ⟨F,3,none⟩ (.int .i64 0)).setCell ⟨F,4,none⟩ (.slice (some ⟨W.heap.size,0,none⟩) 2 2)).heap[F]? = some (.cells #[.int .i64 4,.int .i64 o,.string ⟨#[]⟩,.int .i64 0,.slice (some ⟨W.heap.size,0,none⟩) 2 2] 38 (0,0)) ∧
  LiesE (mask (fun X=>decide (X≤w.heap.size) || X == F) ((((((W.alloc (.cells #[.int .i64 e.kind,.int .i64 e.op,.string e.name,.int .i64 e.val,.slice A1 e.args.length c1,.int .i64 e2.kind,.int .i64 e2.op,.string e2.name,.int .i64 e2.val,.slice A2 e2.args.length c2] 38)).setCell ⟨F,0,none⟩ (.int .i64 4)).setCell ⟨F,1,none⟩ (.int .i64 o)).setCell ⟨F,2,none⟩ (.string ⟨#[]⟩)).setCell ⟨F,3,none⟩ (.int .i64 0)).setCell ⟨F,4,none⟩ (.slice (some ⟨W.heap.size,0,none⟩) 2 2))) ((((((W.alloc (.cells #[.int .i64 e.kind,.int .i64 e.op,.string e.name,.int .i64 e.val,.slice A1 e.args.length c1,.int .i64 e2.kind,.int .i64 e2.op,.string e2.name,.int .i64 e2.val,.slice A2 e2.args.length c2] 38)).setCell ⟨F,0,none⟩ (.int .i64 4)).setCell ⟨F,1,none⟩ (.int .i64 o)).setCell ⟨F,2,none⟩ (.string ⟨#[]⟩)).setCell ⟨F,3,none⟩ (.int .i64 0)).setCell ⟨F,4,none⟩ (.slice (some ⟨W.heap.size,0,none⟩) 2 2)).heap.size (exC 4 o ByteArray.empty 0 (some ⟨W.heap.size,0,none⟩) 2 2) (exBin o e e2):=by
 have hba:=below_alloc W (.cells #[.int .i64 e.kind,.int .i64 e.op,.string e.name,.int .i64 e.val,.slice A1 e.args.length c1,.int .i64 e2.kind,.int .i64 e2.op,.string e2.name,.int .i64 e2.val,.slice A2 e2.args.length c2] 38)
 have hbx:=bx_new W #[.int .i64 e.kind,.int .i64 e.op,.string e.name,.int .i64 e.val,.slice A1 e.args.length c1,.int .i64 e2.kind,.int .i64 e2.op,.string e2.name,.int .i64 e2.val,.slice A2 e2.args.length c2] 38
 have hz:(W.alloc (.cells #[.int .i64 e.kind,.int .i64 e.op,.string e.name,.int .i64 e.val,.slice A1 e.args.length c1,.int .i64 e2.kind,.int .i64 e2.op,.string e2.name,.int .i64 e2.val,.slice A2 e2.args.length c2] 38)).heap.size=W.heap.size+1:=by simp
 have h1:=h.next hba
 have ht1:=ht.trans (Turn.of_below (lo:=R) (hi:=R+1) hba)
 have hE1:=(hba.block _ (Array.getElem?_eq_some_iff.1 hE).1).trans hE
 have hF1:=(hba.block _ (Array.getElem?_eq_some_iff.1 hF).1).trans hF
 have hLa:=hL.turn (W:=W.alloc (.cells #[.int .i64 e.kind,.int .i64 e.op,.string e.name,.int .i64 e.val,.slice A1 e.args.length c1,.int .i64 e2.kind,.int .i64 e2.op,.string e2.name,.int .i64 e2.val,.slice A2 e2.args.length c2] 38)) (q:=fun X=>decide (X≤w.heap.size) || X == F) (fun X _ h=>h) hsW (fun X hX _=>hba.block X (by omega))
 have hLb:=hL2.turn (W:=W.alloc (.cells #[.int .i64 e.kind,.int .i64 e.op,.string e.name,.int .i64 e.val,.slice A1 e.args.length c1,.int .i64 e2.kind,.int .i64 e2.op,.string e2.name,.int .i64 e2.val,.slice A2 e2.args.length c2] 38)) (q:=fun X=>decide (X≤w.heap.size) || X == F) (fun X hX h=>bor_mk (by have:=of_decide_eq_false h; omega) (by have:=of_decide_eq_false h; omega)) (Nat.le_refl _) (fun X hX _=>hba.block X hX)
 generalize W.alloc _=V at hba hbx hz h1 ht1 hE1 hF1 hLa hLb ⊢
 obtain ⟨h2,ht2⟩:=rdr_set5 h1 ht1 (E:=F) (by omega) hR (.int .i64 4) (.int .i64 o) (.string ⟨#[]⟩) (.int .i64 0) (.slice (some ⟨W.heap.size,0,none⟩) 2 2)
 refine ⟨h2,ht2,(heap_set5 (by omega) _ _ _ _ _).trans hE1,blk_set5 hF1 _ _ _ _ _,?_⟩
 rw [set5_size]
 have keep:∀ (B':Nat) (vs:List Value) (x:Ex),B'≤V.heap.size→LiesE (mask (fun X=>decide (X≤w.heap.size) || X == F) V) B' vs x→LiesE (mask (fun X=>decide (X≤w.heap.size) || X == F) (((((V.setCell ⟨F,0,none⟩ (.int .i64 4)).setCell ⟨F,1,none⟩ (.int .i64 o)).setCell ⟨F,2,none⟩ (.string ⟨#[]⟩)).setCell ⟨F,3,none⟩ (.int .i64 0)).setCell ⟨F,4,none⟩ (.slice (some ⟨W.heap.size,0,none⟩) 2 2))) V.heap.size vs x:=fun B' vs x hB' hx=>hx.turn (fun X _ h=>h) hB' (fun X _ hX=>heap_set5 (bor_no hX).2 _ _ _ _ _)
 refine LiesE.mk 4 o ByteArray.empty 0 (some ⟨W.heap.size,0,none⟩) 2 [e,e2] (fun j=>if j=0 then exC e.kind e.op e.name e.val A1 e.args.length c1 else exC e2.kind e2.op e2.name e2.val A2 e2.args.length c2) ⟨by unfold I64; omega,ho,by unfold I64; omega,by decide,by simp,by simp⟩ (.inr ⟨W.heap.size,0,rfl,by omega,fun j hj q u hu=>?_⟩) (fun j hj=>?_)
 ·rw [mask_far (bor_mk (by show w.heap.size<W.heap.size; omega) (by show W.heap.size≠F; omega))]
  rw [set5_far _ (by omega)]
  rcases (by simp at hj; omega:j=0∨j=1) with rfl | rfl
  ·rw [if_pos rfl] at hu
   have hq:q<5:=by
    rcases Nat.lt_or_ge q 5 with h9 | h9
    ·exact h9
    ·rw [List.getElem?_eq_none (by unfold exC; simpa using h9)] at hu; cases hu
   have:=hbx q u (by
    rw [← hu]
    rcases (by omega:q=0∨q=1∨q=2∨q=3∨q=4) with rfl | rfl | rfl | rfl | rfl <;> rfl)
   simpa using this
  ·rw [if_neg (by decide)] at hu
   have hq:q<5:=by
    rcases Nat.lt_or_ge q 5 with h9 | h9
    ·exact h9
    ·rw [List.getElem?_eq_none (by unfold exC; simpa using h9)] at hu; cases hu
   have:=hbx (5+q) u (by
    rw [← hu]
    rcases (by omega:q=0∨q=1∨q=2∨q=3∨q=4) with rfl | rfl | rfl | rfl | rfl <;> rfl)
   simpa using this
 ·rcases (by simp at hj; omega:j=0∨j=1) with rfl | rfl
  ·exact keep _ _ _ (by omega) hLa
  ·exact keep _ _ _ hba.size hLb
set_option maxRecDepth 100000 in
set_option maxHeartbeats 12800000 in
theorem binary_of {A:Option Addr} {c:Nat} {ts:List Tk} {f:Nat} (HO:OpdC A c ts f) (HB:BinC A c ts f):BinC A c ts (f+1):=by
 intro B R k p w hp1 hp6 h hne
 rw [pP_b] at hne ⊢
 have hO:=one_new w #[.int .i64 0,.int .i64 0,.string ⟨#[]⟩,.int .i64 0,.slice none 0 0] 38
 have hz1:=hO.size
 have hRw:=h.lt
 have h1:=h.next hO.below
 have hE:(w.alloc (.cells #[.int .i64 0,.int .i64 0,.string ⟨#[]⟩,.int .i64 0,.slice none 0 0] 38)).heap[w.heap.size]? = some (.cells #[.int .i64 0,.int .i64 0,.string ⟨#[]⟩,.int .i64 0,.slice none 0 0] 38 (0,0)):=heap_alloc_new w _
 have ht1:=Turn.of_below (lo:=R) (hi:=R+1) hO.below
 have hz1b:(w.alloc (.cells #[.int .i64 0,.int .i64 0,.string ⟨#[]⟩,.int .i64 0,.slice none 0 0] 38)).heap.size=w.heap.size+1:=by simp
 clear hO
 by_cases hp5:5<p
 ·obtain rfl:p=6:=by omega
  rw [if_pos hp5] at hne ⊢
  have hI:=fun W (h:Rdr B R A c ts k W)=>HO B R k W h hne
  generalize pP ts f .opd k=pr at hne hI ⊢
  have HI:=Lib.hid hI
  unfold OpdR at HI
  clear HO HB hI
  go_enter Tryz.func136,Tryz.ntmps136
  go_upto_region 2 with fail
  generalize w.alloc _=w1 at h1 hE ht1 hz1 hz1b ⊢
  cases pr with
  | out=>exact absurd rfl hne
  | bad i=>
   go_wp2_with (go_at_call 158; refine (HI.out w1 h1).mono ?_; rintro e W6 ⟨ht6,rfl⟩)
   exact ⟨rfl,opd_bad (ht1.trans ht6)⟩
  | ok a i=>
   have HR1:=Lib.hid h1
   have HE1:=Lib.hid hE
   go_wp2_with (go_at_call 158; refine (HI.out w1 h1).mono ?_; rintro e W6 ⟨ht6,vs,rfl,hL6,hb6,hi6⟩; obtain ⟨A1,c1,row,rfl,-,-⟩:=hL6.form; have hE6:=(ht6.block w.heap.size (by omega) (.inr (by omega))).trans HE1.out; have hq6:=blk5 hE6; unfold exC)
   have h6:=HR1.out.turn ht6 hb6 hi6
   obtain ⟨h7,ht7⟩:=rdr_set5 h6 (ht1.trans ht6) (Nat.le_refl _) hRw (.int .i64 a.kind) (.int .i64 a.op) (.string a.name) (.int .i64 a.val) (.slice A1 a.args.length c1)
   have hL10:=hL6.turn (W:=(((((W6.setCell ⟨w.heap.size,0,none⟩ (.int .i64 a.kind)).setCell ⟨w.heap.size,1,none⟩ (.int .i64 a.op)).setCell ⟨w.heap.size,2,none⟩ (.string a.name)).setCell ⟨w.heap.size,3,none⟩ (.int .i64 a.val)).setCell ⟨w.heap.size,4,none⟩ (.slice A1 a.args.length c1))) (q:=fun X=>decide (X<w.heap.size)) (fun X _ h=>by have:=of_decide_eq_false h; exact decide_eq_false (by omega)) (Nat.le_refl _) (fun X _ hX=>heap_set5 (by have:=of_decide_eq_false hX; omega) _ _ _ _ _)
   rw [← set5_size W6 w.heap.size (.int .i64 a.kind) (.int .i64 a.op) (.string a.name) (.int .i64 a.val) (.slice A1 a.args.length c1)] at hL10
   try simp only [Exit.inBlock,Exit.then]
   refine bodyPost_ret (results_cell1 rfl rfl (load5 (blk_set5 hE6 _ _ _ _ _))) rfl ?_
   exact opd_ok h7 ht7 hL10
 ·rw [if_neg hp5] at hne ⊢
  have g1:decide ((p:Int) > 5)=false:=decide_eq_false (by omega)
  have g2:decide (5<(p:Int))=false:=decide_eq_false (by omega)
  have g3:decide (5<p)=false:=decide_eq_false hp5
  have hwr1:IntKind.i64.wrap ((p:Int)+1)=(p:Int)+1:=by rw [IntKind.wrap_i64]; omega
  have hHB:∀ (j:Nat) (W:World) (g:Nat),g≤f→Rdr B R A c ts j W→pP ts g (.bin (p+1)) j≠.out→Calls Tryz.prog 136 #[.pointer (some ⟨R,0,none⟩),.int .i64 ((p:Int)+1)] W (OpdR R A c ts (pP ts g (.bin (p+1)) j) W):=fun j W g hg hR hn=>by
   have e:=pP_le ts hg hn
   have:=HB B R j (p+1) W (by omega) (by omega) hR (by rw [e]; exact hn)
   rw [e] at this
   exact this
  have HBB:=Lib.hid hHB
  have hI:=fun W (h:Rdr B R A c ts k W) hn=>HBB.out k W f (Nat.le_refl _) h hn
  clear hHB HO HB
  generalize pP ts f (.bin (p+1)) k=p1 at hne hI ⊢
  have HI:=Lib.hid hI
  unfold OpdR at HI
  clear hI
  cases p1 with
  | out=>exact absurd rfl hne
  | bad i=>
   show Calls _ _ _ w (OpdR R A c ts (.bad i) w)
   clear HBB hne
   go_enter Tryz.func136,Tryz.ntmps136
   go_upto_region 3 with fail
   generalize w.alloc _=w1 at h1 hE ht1 hz1 hz1b ⊢
   go_wp2_with (go_at_call 136; refine (HI.out w1 h1 (fun h=>by cases h)).mono ?_; rintro e W6 ⟨ht6,rfl⟩)
   exact ⟨rfl,opd_bad (ht1.trans ht6)⟩
  | ok a i=>
   change pP ts f (.loop p a) i≠.out at hne
   show Calls _ _ _ w (OpdR R A c ts (pP ts f (.loop p a) i) w)
   obtain ⟨RES,HRES⟩:∃ RES,Hid (RES=pP ts f (.loop p a) i):=⟨_,Lib.hid rfl⟩
   rw [← HRES.out] at hne ⊢
   have HR1:=Lib.hid h1
   have HE1:=Lib.hid hE
   go_enter Tryz.func136,Tryz.ntmps136
   go_upto_region 3 with fail
   generalize w.alloc _=w1 at h1 hE ht1 hz1 hz1b HR1 HE1 ⊢
   go_wp2_with (go_at_call 136; refine (HI.out w1 h1 (fun h=>by cases h)).mono ?_; rintro e W6 ⟨ht6,vs,rfl,hL6,hb6,hi6⟩; obtain ⟨A1,c1,row,rfl,-,-⟩:=hL6.form; have hE6:=(ht6.block w.heap.size (by omega) (.inr (by omega))).trans HE1.out; unfold exC)
   have h6:=HR1.out.turn ht6 hb6 hi6
   have ht16:=ht1.trans ht6
   have hz6:=ht6.size
   have hba:=below_alloc W6 (.cells #[.int .i64 a.kind,.int .i64 a.op,.string a.name,.int .i64 a.val,.slice A1 a.args.length c1] 38)
   have hF:(W6.alloc (.cells #[.int .i64 a.kind,.int .i64 a.op,.string a.name,.int .i64 a.val,.slice A1 a.args.length c1] 38)).heap[W6.heap.size]? = some (.cells #[.int .i64 a.kind,.int .i64 a.op,.string a.name,.int .i64 a.val,.slice A1 a.args.length c1] 38 (0,0)):=heap_alloc_new W6 _
   have h7:=h6.next hba
   have ht7:=ht16.trans (Turn.of_below (lo:=R) (hi:=R+1) hba)
   have hE7:=(hba.block w.heap.size (by omega)).trans hE6
   have hL7:=hL6.turn (W:=W6.alloc (.cells #[.int .i64 a.kind,.int .i64 a.op,.string a.name,.int .i64 a.val,.slice A1 a.args.length c1] 38)) (q:=fun X=>decide (X≤w.heap.size) || X == W6.heap.size) (fun X hX h=>bor_mk (by have:=of_decide_eq_false h; omega) (by omega)) hba.size (fun X hX _=>hba.block X hX)
   have hRF:R<W6.heap.size:=by omega
   have hEF:w.heap.size<W6.heap.size:=by omega
   have hBI:BinI B R A c ts p w.heap.size W6.heap.size w RES f (W6.alloc (.cells #[.int .i64 a.kind,.int .i64 a.op,.string a.name,.int .i64 a.val,.slice A1 a.args.length c1] 38)):=⟨a,A1,c1,i,h7,ht7,hE7,hF,hL7,HRES.out⟩
   clear hba hF h7 ht7 hE7 hL7 h6 ht16 hE6 hL6 hb6 h1 hE HR1 HE1 HI HRES
   generalize W6.alloc _=W7 at hBI ⊢
   generalize W6.heap.size=F at hBI hRF hEF ⊢
   go_loopg [] f (fun g wr=>g≤f∧BinI B R A c ts p w.heap.size F w RES g wr)
   case atStart=>exact ⟨Nat.le_refl _,hBI⟩
   case round=>
    obtain ⟨hgf,e,A1,c1,i,h,ht,hE,hF,hL,hRES⟩:=hrel
    obtain ⟨g,rfl⟩:∃ g,gk=g+1:=by
     cases gk with
     | zero=>simp only [pP] at hRES; exact absurd hRES hne
     | succ g=>exact ⟨g,rfl⟩
    rw [pP_l] at hRES
    clear hBI hwr1 ht1 hz1 hz1b ht6 hi6 hz6 g1 g2 g3
    have hlen:=h.len
    have hile:=h.le
    obtain ⟨c0,c1',c2⟩:=h.cells
    go_upto_region 4 with fail
    cases hti:ts[i]? with
    | none=>
     rw [hti] at hRES
     obtain rfl:RES=.ok e i:=hRES
     have hge:ts.length≤i:=List.getElem?_eq_none_iff.1 hti
     have d1:decide ((i:Int)<(ts.length:Int))=false:=decide_eq_false (by omega)
     have d2:decide (i<ts.length)=false:=decide_eq_false (by omega)
     clear HBB hge hti hne
     go_quiet (fail)
     rename_i nq
     have hbq:=below_drews wr.heap.size wr nq
     replace h:=h.next hbq
     replace ht:=ht.trans (Turn.of_below (lo:=R) (hi:=R+1) hbq)
     replace hE:=(hbq.block w.heap.size (Array.getElem?_eq_some_iff.1 hE).1).trans hE
     replace hF:=(hbq.block F (Array.getElem?_eq_some_iff.1 hF).1).trans hF
     replace hL:=hL.turn (W:=wr.drewN nq) (q:=fun X=>decide (X≤w.heap.size) || X == F) (fun X _ h=>h) hbq.size (fun X hX _=>hbq.block X hX)
     clear c0 c1' c2 hbq
     generalize wr.drewN nq=wq at h ht hE hF hL ⊢
     -- the loop's end: the expression goes into the result
     obtain ⟨⟨y0,y1,y2,y3,y4⟩,-⟩:=blk5 hF
     obtain ⟨⟨z0,z1,z2,z3,z4⟩,z5⟩:=blk5 hE
     go_wp2_with fail
     obtain ⟨h7,ht7⟩:=rdr_set5 h ht (Nat.le_refl _) hRw (.int .i64 e.kind) (.int .i64 e.op) (.string e.name) (.int .i64 e.val) (.slice A1 e.args.length c1)
     have hL7:=hL.turn (W:=(((((wq.setCell ⟨w.heap.size,0,none⟩ (.int .i64 e.kind)).setCell ⟨w.heap.size,1,none⟩ (.int .i64 e.op)).setCell ⟨w.heap.size,2,none⟩ (.string e.name)).setCell ⟨w.heap.size,3,none⟩ (.int .i64 e.val)).setCell ⟨w.heap.size,4,none⟩ (.slice A1 e.args.length c1))) (q:=fun X=>decide (X<w.heap.size)) (fun X _ h=>by have:=(bor_no h).1; exact decide_eq_false (by omega)) (Nat.le_refl _) (fun X _ hX=>heap_set5 (by have:=(bor_no hX).1; omega) _ _ _ _ _)
     rw [← set5_size wq w.heap.size (.int .i64 e.kind) (.int .i64 e.op) (.string e.name) (.int .i64 e.val) (.slice A1 e.args.length c1)] at hL7
     try simp only [Exit.inBlock,Exit.then]
     refine bodyPost_ret (results_cell1 rfl rfl (load5 (blk_set5 hE _ _ _ _ _))) rfl ?_
     exact opd_ok h7 ht7 hL7
    | some t=>
     rw [hti] at hRES
     simp only at hRES
     have hlt:i<ts.length:=(List.getElem?_eq_some_iff.1 hti).1
     have HTK:=Lib.hid (h.ok t (List.mem_of_getElem? hti))
     obtain ⟨b,off,hA,hb,x0,x1,x2,x3⟩:=h.at_ hti
     subst hA
     have d1:decide ((i:Int)<(ts.length:Int))=true:=decide_eq_true (by omega)
     have d2:decide (i<ts.length)=true:=decide_eq_true hlt
     have d3:(i:Int)<(ts.length:Int):=by omega
     have d4:(0:Int)≤(i:Int):=by omega
     by_cases hk3:t.kind=3
     rotate_left
     ·have n3:(t.kind == 3)=false:=by simpa using hk3
      obtain rfl:RES=.ok e i:=by rw [hRES]; unfold opK; rw [n3]; rfl
      clear HBB hti hne hRES hk3
      go_quiet (fail)
      rename_i nq
      have hbq:=below_drews wr.heap.size wr nq
      replace h:=h.next hbq
      replace ht:=ht.trans (Turn.of_below (lo:=R) (hi:=R+1) hbq)
      replace hE:=(hbq.block w.heap.size (Array.getElem?_eq_some_iff.1 hE).1).trans hE
      replace hF:=(hbq.block F (Array.getElem?_eq_some_iff.1 hF).1).trans hF
      replace hL:=hL.turn (W:=wr.drewN nq) (q:=fun X=>decide (X≤w.heap.size) || X == F) (fun X _ h=>h) hbq.size (fun X hX _=>hbq.block X hX)
      clear c0 c1' c2 hbq
      generalize wr.drewN nq=wq at h ht hE hF hL ⊢
      -- the loop's end: the expression goes into the result
      obtain ⟨⟨y0,y1,y2,y3,y4⟩,-⟩:=blk5 hF
      obtain ⟨⟨z0,z1,z2,z3,z4⟩,z5⟩:=blk5 hE
      go_wp2_with fail
      obtain ⟨h7,ht7⟩:=rdr_set5 h ht (Nat.le_refl _) hRw (.int .i64 e.kind) (.int .i64 e.op) (.string e.name) (.int .i64 e.val) (.slice A1 e.args.length c1)
      have hL7:=hL.turn (W:=(((((wq.setCell ⟨w.heap.size,0,none⟩ (.int .i64 e.kind)).setCell ⟨w.heap.size,1,none⟩ (.int .i64 e.op)).setCell ⟨w.heap.size,2,none⟩ (.string e.name)).setCell ⟨w.heap.size,3,none⟩ (.int .i64 e.val)).setCell ⟨w.heap.size,4,none⟩ (.slice A1 e.args.length c1))) (q:=fun X=>decide (X<w.heap.size)) (fun X _ h=>by have:=(bor_no h).1; exact decide_eq_false (by omega)) (Nat.le_refl _) (fun X _ hX=>heap_set5 (by have:=(bor_no hX).1; omega) _ _ _ _ _)
      rw [← set5_size wq w.heap.size (.int .i64 e.kind) (.int .i64 e.op) (.string e.name) (.int .i64 e.val) (.slice A1 e.args.length c1)] at hL7
      try simp only [Exit.inBlock,Exit.then]
      refine bodyPost_ret (results_cell1 rfl rfl (load5 (blk_set5 hE _ _ _ _ _))) rfl ?_
      exact opd_ok h7 ht7 hL7
     ·have n3:(t.kind == 3)=true:=by simpa using hk3
      have hopk:opK t p=((opS t.text.data.toList).2 == p):=by unfold opK; rw [n3]; rfl
      rw [hopk] at hRES
      have HS:=Lib.hid (fun W=>sigs_any t.text W)
      unfold Ret at HS
      rw [hk3] at x0
      have hR5:=h.lt
      have hb5:b<wr.heap.size:=by have:=h.lo; omega
      have hos:=opS_small t.text.data.toList
      generalize opS t.text.data.toList=os at HS hRES hos
      obtain ⟨o,q⟩:=os
      dsimp only at HS hRES hos
      have HO15:Hid (I64 o):=Lib.hid hos
      clear hos
      obtain ⟨tx,htx⟩:∃ tx,t.text=tx:=⟨_,rfl⟩
      have hTX:=Lib.hid htx
      rw [htx] at HS x1
      clear HTK hk3 hopk n3 htx
      go_quiet (fail)
      rename_i nq
      have hbq:=below_drews wr.heap.size wr nq
      replace h:=h.next hbq
      replace ht:=ht.trans (Turn.of_below (lo:=R) (hi:=R+1) hbq)
      replace hE:=(hbq.block w.heap.size (Array.getElem?_eq_some_iff.1 hE).1).trans hE
      replace hF:=(hbq.block F (Array.getElem?_eq_some_iff.1 hF).1).trans hF
      replace hL:=hL.turn (W:=wr.drewN nq) (q:=fun X=>decide (X≤w.heap.size) || X == F) (fun X _ h=>h) hbq.size (fun X hX _=>hbq.block X hX)
      clear c0 c1' c2 hbq
      generalize wr.drewN nq=wq at h ht hE hF hL ⊢
      obtain ⟨b',off',hA,hb',y0,y1,y2,y3⟩:=h.at_ hti
      obtain ⟨rfl,rfl⟩:b=b'∧off=off':=by
       injection hA with hA
       injection hA with hA1 hA2
       exact ⟨hA1,hA2⟩
      rw [hTX.out] at y1
      clear hA y0 y2 y3 x0 x1 x2 x3
      obtain ⟨c0,c1',c2⟩:=h.cells
      have q0:=fun d os=>cell_regrown (w:=wq) c0 d os
      have q1:=fun d os=>cell_regrown (w:=wq) c1' d os
      have q2:=fun d os=>cell_regrown (w:=wq) y1 d os
      go_upto_region 5 with fail
      refine wp_region_quiet_below (by kernel_rfl) (by kernel_rfl) ?_
      repeat (go_big_quiet_step (first | exact Calls.regrown_of (HS.out _)))
      refine wpQuiet_nil ?_
      rintro _ ⟨pq,rfl⟩
      have hbq:=below_regrown wq pq.d pq.os
      replace h:=h.next hbq
      replace ht:=ht.trans (Turn.of_below (lo:=R) (hi:=R+1) hbq)
      replace hE:=(hbq.block w.heap.size (Array.getElem?_eq_some_iff.1 hE).1).trans hE
      replace hF:=(hbq.block F (Array.getElem?_eq_some_iff.1 hF).1).trans hF
      replace hL:=hL.turn (W:=grow (redrawn wq pq.d) pq.os) (q:=fun X=>decide (X≤w.heap.size) || X == F) (fun X _ h=>h) hbq.size (fun X hX _=>hbq.block X hX)
      clear hbq
      generalize grow (redrawn wq pq.d) pq.os=wq at h ht hE hF hL ⊢
      clear q0 q1 q2 y1 c0 c1' c2
      by_cases hqp:q=p
      rotate_left
      ·have e1:(q == p)=false:=by simpa using hqp
       have e2:((q:Int) != (p:Int))=true:=by simpa using (by omega:¬ (q:Int)=(p:Int))
       have e3:(q != p)=true:=by simpa using hqp
       rw [e1] at hRES
       obtain rfl:RES=.ok e i:=hRES
       clear HBB hti hne HS hqp
       -- the loop's end: the expression goes into the result
       obtain ⟨⟨y0,y1,y2,y3,y4⟩,-⟩:=blk5 hF
       obtain ⟨⟨z0,z1,z2,z3,z4⟩,z5⟩:=blk5 hE
       go_wp2_with fail
       obtain ⟨h7,ht7⟩:=rdr_set5 h ht (Nat.le_refl _) hRw (.int .i64 e.kind) (.int .i64 e.op) (.string e.name) (.int .i64 e.val) (.slice A1 e.args.length c1)
       have hL7:=hL.turn (W:=(((((wq.setCell ⟨w.heap.size,0,none⟩ (.int .i64 e.kind)).setCell ⟨w.heap.size,1,none⟩ (.int .i64 e.op)).setCell ⟨w.heap.size,2,none⟩ (.string e.name)).setCell ⟨w.heap.size,3,none⟩ (.int .i64 e.val)).setCell ⟨w.heap.size,4,none⟩ (.slice A1 e.args.length c1))) (q:=fun X=>decide (X<w.heap.size)) (fun X _ h=>by have:=(bor_no h).1; exact decide_eq_false (by omega)) (Nat.le_refl _) (fun X _ hX=>heap_set5 (by have:=(bor_no hX).1; omega) _ _ _ _ _)
       rw [← set5_size wq w.heap.size (.int .i64 e.kind) (.int .i64 e.op) (.string e.name) (.int .i64 e.val) (.slice A1 e.args.length c1)] at hL7
       try simp only [Exit.inBlock,Exit.then]
       refine bodyPost_ret (results_cell1 rfl rfl (load5 (blk_set5 hE _ _ _ _ _))) rfl ?_
       exact opd_ok h7 ht7 hL7
      ·subst hqp
       have e1:(q == q)=true:=by simp
       rw [e1] at hRES
       simp only [if_true] at hRES
       have hwr1:IntKind.i64.wrap ((i:Int)+1)=(i:Int)+1:=by rw [IntKind.wrap_i64]; omega
       have hwr2:IntKind.i64.wrap ((q:Int)+1)=(q:Int)+1:=by rw [IntKind.wrap_i64]; omega
       obtain ⟨c0,c1',c2⟩:=h.cells
       go_upto_region 8 with fail
       obtain ⟨hs,hst⟩:=h.step hlt
       replace ht:=ht.trans hst
       replace hE:=(Below.heap_setCell wq ⟨R,1,none⟩ (.int .i64 ((i:Int)+1)) w.heap.size (by show w.heap.size≠R; omega)).trans hE
       replace hF:=(Below.heap_setCell wq ⟨R,1,none⟩ (.int .i64 ((i:Int)+1)) F (by show F≠R; omega)).trans hF
       replace hL:=hL.turn (W:=wq.setCell ⟨R,1,none⟩ (.int .i64 ((i:Int)+1))) (q:=fun X=>decide (X≤w.heap.size) || X == F) (fun X _ h=>h) (Nat.le_refl _) (fun X _ hX=>Below.heap_setCell wq ⟨R,1,none⟩ _ X (by have:=(bor_no hX).1; show X≠R; omega))
       have hzs:(wq.setCell ⟨R,1,none⟩ (.int .i64 ((i:Int)+1))).heap.size=wq.heap.size:=by simp
       rw [← hzs] at hL
       clear h hst c0 c1' c2 hzs
       generalize wq.setCell _ _=ws at hs ht hE hF hL ⊢
       have hn8:∀ r,pP ts g (.bin (q+1)) (i+1)=r→RES=r.bind (fun e2 i=>if q=3 then PR.ok (exBin o e e2) i else pP ts g (.loop q (exBin o e e2)) i):=fun r h=>by rw [← h]; exact hRES
       have hCI:=fun (W:World) (h:Rdr B R (some ⟨b,off,none⟩) c ts (i+1) W) hn=>HBB.out (i+1) W g (by omega) h hn
       generalize pP ts g (.bin (q+1)) (i+1)=r8 at hn8 hCI
       replace hn8:=hn8 r8 rfl
       have HCI:=Lib.hid hCI
       unfold OpdR at HCI
       have hsd:=hs.next (below_drews ws.heap.size ws 1)
       obtain ⟨⟨y0,y1,y2,y3,y4⟩,y5⟩:=blk5 hF
       have HF:=Lib.hid hF
       have HE:=Lib.hid hE
       have hEz:=(Array.getElem?_eq_some_iff.1 hE).1
       have hFz:=(Array.getElem?_eq_some_iff.1 hF).1
       clear hCI hRES HBB hti e1 HS
       cases r8 with
       | out=>exact absurd hn8 hne
       | bad j=>
        obtain rfl:RES=.bad j:=hn8
        clear hne
        refine wp_region_held_drew (S:=fun w'=>w'.cell? ⟨F,0,none⟩=some (.int .i64 e.kind)∧w'.cell? ⟨F,1,none⟩=some (.int .i64 e.op)∧w'.cell? ⟨F,2,none⟩=some (.string e.name)∧w'.cell? ⟨F,3,none⟩=some (.int .i64 e.val)∧w'.cell? ⟨F,4,none⟩=some (.slice A1 e.args.length c1)) (by kernel_rfl) ⟨y0,y1,y2,y3,y4⟩ (fun hHeld=>?_)
        refine wpAnyH_take (i:=0) (v:=?_) rfl (by kernel_rfl) (by kernel_rfl) (by kernel_rfl) (fun _ _ _ h=>h) (Or.inl ⟨by kernel_rfl,?_⟩) (by assumption) ?_
        rotate_left
        ·intro w hSw; (try dsimp only at hSw); go_simp; with_reducible rfl
        try simp only [List.getElem_toArray,List.getElem_cons_zero,Act.put,List.setIfInBounds_toArray,List.set_cons_zero,List.set_cons_succ]
        refine wpAnyH_take (i:=1) (v:=?_) rfl (by kernel_rfl) (by kernel_rfl) (by kernel_rfl) (fun _ _ _ h=>h) (Or.inl ⟨by kernel_rfl,?_⟩) (by assumption) ?_
        rotate_left
        ·intro w hSw; (try dsimp only at hSw); go_simp; with_reducible rfl
        try simp only [List.getElem_toArray,List.getElem_cons_succ,List.getElem_cons_zero,Act.put,List.setIfInBounds_toArray,List.set_cons_zero,List.set_cons_succ]
        refine wpAnyH_take (i:=2) (v:=?_) rfl (by kernel_rfl) (by kernel_rfl) (by kernel_rfl) (fun _ _ _ h=>h) (Or.inl ⟨by kernel_rfl,?_⟩) (by assumption) ?_
        rotate_left
        ·intro w hSw; (try dsimp only at hSw); go_simp; with_reducible rfl
        try simp only [List.getElem_toArray,List.getElem_cons_succ,List.getElem_cons_zero,Act.put,List.setIfInBounds_toArray,List.set_cons_zero,List.set_cons_succ]
        refine wpAnyH_take (i:=3) (v:=?_) rfl (by kernel_rfl) (by kernel_rfl) (by kernel_rfl) (fun _ _ _ h=>h) (Or.inl ⟨by kernel_rfl,?_⟩) (by assumption) ?_
        rotate_left
        ·intro w hSw; (try dsimp only at hSw); go_simp; with_reducible rfl
        try simp only [List.getElem_toArray,List.getElem_cons_succ,List.getElem_cons_zero,Act.put,List.setIfInBounds_toArray,List.set_cons_zero,List.set_cons_succ]
        refine wpAnyH_take (i:=4) (v:=?_) rfl (by kernel_rfl) (by kernel_rfl) (by kernel_rfl) (fun _ _ _ h=>h) (Or.inl ⟨by kernel_rfl,?_⟩) (by assumption) ?_
        rotate_left
        ·intro w hSw; (try dsimp only at hSw); go_simp; with_reducible rfl
        try simp only [List.getElem_toArray,List.getElem_cons_succ,List.getElem_cons_zero,Act.put,List.setIfInBounds_toArray,List.set_cons_zero,List.set_cons_succ]
        refine wpAnyH_ready (rs:=[5]) (by kernel_rfl) (by simp) ?_
        refine AllReadyH.cons rfl (fun K hK=>?_) AllReadyH.nil
        go_simp
        refine (HCI.out _ hsd (fun h=>by cases h)).mono ?_
        rintro e8 W8 ⟨ht8,rfl⟩
        exact ⟨rfl,opd_bad ((ht.trans (Turn.of_below (lo:=R) (hi:=R+1) (below_drews ws.heap.size ws 1))).trans ht8)⟩
       | ok e2 j=>
        replace hn8:RES=if q=3 then PR.ok (exBin o e e2) j else pP ts g (.loop q (exBin o e e2)) j:=hn8
        go_region_with (go_at_call 136; refine (HCI.out _ hsd (fun h=>by cases h)).mono ?_; rintro e8 W8 ⟨ht8,vs,rfl,hL8,hb8,hi8⟩; obtain ⟨A2,c2',row2,rfl,-,-⟩:=hL8.form; have hF8:=(ht8.block F hFz (.inr (by omega))).trans HF.out; have hq8:=blk5 hF8; have hq9:=blk5A hF8 #[]; unfold exC)
        all_goals (
         have ht8':=(ht.trans (Turn.of_below (lo:=R) (hi:=R+1) (below_drews ws.heap.size ws 1))).trans ht8
         have h8:=hsd.turn ht8 hb8 hi8
         have hE8:=(ht8.block w.heap.size hEz (.inr (by omega))).trans HE.out
         have hLe8:=hL.turn (W:=W8) (q:=fun X=>decide (X≤w.heap.size) || X == F) (fun X _ h=>h) (Nat.le_refl _) (fun X hX hm=>ht8.block X hX (.inr (by have:=(bor_no hm).1; omega)))
         obtain ⟨h9,ht9,hE9,hF9,hL9⟩:=bin_end (ws:=ws) (o:=o) h8 ht8' hE8 hF8 hLe8 hL8 hRw hEF hFz ht8.size HO15.out
         clear h8 ht8' hE8 hLe8 hL8 hF8 ht8 hb8 hi8 hs ht hE hF hL hsd HF HE hEz hFz HCI hq8 hq9 y0 y1 y2 y3 y4 y5
         generalize World.setCell _ _ _=W9 at h9 ht9 hE9 hF9 hL9 ⊢
         obtain ⟨A3,hA3⟩:∃ A3,A3=some (⟨W8.heap.size,0,none⟩:Addr):=⟨_,rfl⟩
         rw [← hA3] at hF9 hL9
         obtain ⟨e9,he9⟩:∃ e9,e9=exBin o e e2:=⟨_,rfl⟩
         have hF':W9.heap[F]? = some (.cells #[.int .i64 e9.kind,.int .i64 e9.op,.string e9.name,.int .i64 e9.val,.slice A3 e9.args.length 2] 38 (0,0)):=by rw [he9]; exact hF9
         have hL':LiesE (mask (fun X=>decide (X≤w.heap.size) || X == F) W9) W9.heap.size (exC e9.kind e9.op e9.name e9.val A3 e9.args.length 2) e9:=by rw [he9]; exact hL9
         rw [← he9] at hn8
         clear hF9 hL9 hA3 he9
         by_cases hq3:q=3
         ·subst hq3
          obtain rfl:RES=.ok e9 j:=by rw [hn8,if_pos rfl]
          have h:=h9
          have ht:=ht9
          have hE:=hE9
          have hF:=hF'
          have hL:=hL'
          clear h9 ht9 hE9 hF' hL' hn8 hne
          -- the loop's end: the expression goes into the result
          obtain ⟨⟨y0,y1,y2,y3,y4⟩,-⟩:=blk5 hF
          obtain ⟨⟨z0,z1,z2,z3,z4⟩,z5⟩:=blk5 hE
          go_wp2_with fail
          obtain ⟨h7,ht7⟩:=rdr_set5 h ht (Nat.le_refl _) hRw (.int .i64 e9.kind) (.int .i64 e9.op) (.string e9.name) (.int .i64 e9.val) (.slice A3 e9.args.length 2)
          have hL7:=hL.turn (W:=(((((W9.setCell ⟨w.heap.size,0,none⟩ (.int .i64 e9.kind)).setCell ⟨w.heap.size,1,none⟩ (.int .i64 e9.op)).setCell ⟨w.heap.size,2,none⟩ (.string e9.name)).setCell ⟨w.heap.size,3,none⟩ (.int .i64 e9.val)).setCell ⟨w.heap.size,4,none⟩ (.slice A3 e9.args.length 2))) (q:=fun X=>decide (X<w.heap.size)) (fun X _ h=>by have:=(bor_no h).1; exact decide_eq_false (by omega)) (Nat.le_refl _) (fun X _ hX=>heap_set5 (by have:=(bor_no hX).1; omega) _ _ _ _ _)
          rw [← set5_size W9 w.heap.size (.int .i64 e9.kind) (.int .i64 e9.op) (.string e9.name) (.int .i64 e9.val) (.slice A3 e9.args.length 2)] at hL7
          try simp only [Exit.inBlock,Exit.then]
          refine bodyPost_ret (results_cell1 rfl rfl (load5 (blk_set5 hE _ _ _ _ _))) rfl ?_
          exact opd_ok h7 ht7 hL7
         ·have e1:((q:Int) == 3)=false:=by simpa using (by omega:¬ (q:Int)=3)
          have e2:(q == 3)=false:=by simpa using hq3
          have HRR:Hid (RES=pP ts g (.loop q e9) j):=Lib.hid (by rw [hn8,if_neg hq3])
          clear hn8 hq3
          go_wp2_with fail
          go_roundg g
          case measure=>omega
          case rel=>exact ⟨by omega,e9,A3,2,j,h9,ht9,hE9,hF',hL',HRR.out⟩)
end Go.Proofs.YtmbffkemfepekaaGreatDoor
