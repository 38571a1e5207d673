/- policy.Parse, walked. Conditions: the library's tables and its box stand as laid. -/
import Derived.Test.YtmbffkemfepekaaGreatDoorPtPs0
namespace Go.Proofs.YtmbffkemfepekaaGreatDoor
open Go.RowKit Go.Sort
/-- What Parse gives. -/
def ParR (r:PolR) (w:World):Ending→World→Prop:=fun e W=>Below w.heap.size w W∧match r with
 | .ok rs=>∃ (A:Option Addr) (c:Nat),e=.returned (.tuple #[.agg #[.slice A rs.length c],.int .i64 0,.int .i64 0])∧LiesP W W.heap.size A c rs
 | .er a f=>e=.returned (.tuple #[.agg #[.slice none 0 0],.int .i64 (a:Nat),.int .i64 (f:Nat)])
theorem loadP {W:World} {E:Nat} {u:Value} {T:TypeId} {fz:Nat × Nat} (h:W.heap[E]? = some (.cells #[u] T fz)):(loadVar 24 ⟨E,0,none⟩).run Tryz.prog W=.ok (.agg #[u]) W:=
 run_loadVar_row W E T 24 _ fz _ h Tryz.underlying24 rfl (by kernel_rfl)
/-- What Parse holds: the reader P, the result's box, the policy's box X. -/
structure ParI (w:World) (B P X:Nat) (A:Option Addr) (c:Nat) (ts:List Tk) (base:Nat) (s:PSt) (acc:List Rl) (v:Value) (z:Nat→Bool) (rcs:List (List Value)) (W:World):Prop where
 prd:Prd B P A c ts s W
 res:W.heap[w.heap.size]? = some (.cells #[.slice none 0 0] 24 (0,0))
 pol:W.heap[X]? = some (.cells #[v] 24 (0,0))
 own:OwnZ z W base v acc rcs
 zb:∀ Y,z Y=true→base≤Y∧Y<W.heap.size
 below:Below w.heap.size w W
 size:base≤W.heap.size
/-- Nothing but what the reader and new blocks hold has turned. -/
theorem ParI.step {w:World} {B P X:Nat} {A:Option Addr} {c:Nat} {ts:List Tk} {base:Nat} {s s':PSt} {acc:List Rl} {v:Value} {z:Nat→Bool} {rcs:List (List Value)} {W W':World} (h:ParI w B P X A c ts base s acc v z rcs W) (hP:Prd B P A c ts s' W') (hwP:w.heap.size<P) (hPX:P<X) (hXb:X<base) (hs:W.heap.size≤W'.heap.size)
  (hb:Below w.heap.size W W') (hk:∀ Y,Y≠P→w.heap.size≤Y→Y<base→W'.heap[Y]? = W.heap[Y]?) (hk2:∀ Y,base≤Y→(∀ g,v.ownBlock=some g∨z Y=true→W'.heap[Y]? = W.heap[Y]?)):ParI w B P X A c ts base s' acc v z rcs W':=
 ⟨hP,(hk _ (by omega) (Nat.le_refl _) (by omega)).trans h.res,(hk X (by omega) (by omega) hXb).trans h.pol,
  h.own.keep (fun _ h=>h) h.own.own hs (fun Y hY=>hk2 Y (h.zb Y hY).1 0 (.inr hY)) (fun g hg=>hk2 g (h.own.row.lt g hg).1 g (.inl hg)),
  fun Y hY=>⟨(h.zb Y hY).1,Nat.lt_of_lt_of_le (h.zb Y hY).2 hs⟩,h.below.trans hb,Nat.le_trans h.size hs⟩
theorem ParI.next {w:World} {B P X:Nat} {A:Option Addr} {c:Nat} {ts:List Tk} {base:Nat} {s:PSt} {acc:List Rl} {v:Value} {z:Nat→Bool} {rcs:List (List Value)} {W W':World} (h:ParI w B P X A c ts base s acc v z rcs W) (hb:Below W.heap.size W W'):ParI w B P X A c ts base s acc v z rcs W':=by
 have hw:=h.below.size
 exact ⟨h.prd.next hb,(hb.block _ (Array.getElem?_eq_some_iff.1 h.res).1).trans h.res,(hb.block X (Array.getElem?_eq_some_iff.1 h.pol).1).trans h.pol,h.own.low h.zb hb.size (fun Y _ hY=>hb.block Y hY),fun Y hY=>⟨(h.zb Y hY).1,Nat.lt_of_lt_of_le (h.zb Y hY).2 hb.size⟩,h.below.trans (hb.mono hw),Nat.le_trans h.size hb.size⟩
theorem ParI.turn {w:World} {B P X:Nat} {A:Option Addr} {c:Nat} {ts:List Tk} {base:Nat} {s s':PSt} {acc:List Rl} {v:Value} {z:Nat→Bool} {rcs:List (List Value)} {W W':World} (h:ParI w B P X A c ts base s acc v z rcs W) (ht:Turn P (P+1) W W') (hk:W'.heap[P]? = some (pdB A ts.length c s'.k s'.err)) (hi:s'.k<ts.length) (hwP:w.heap.size<P) (hPX:P<X) (hXb:X<base):ParI w B P X A c ts base s' acc v z rcs W':=by
 have hw:=h.below.size
 have hX:=(Array.getElem?_eq_some_iff.1 h.pol).1
 refine ⟨h.prd.turn ht hk hi,(ht.block _ (by omega) (by omega)).trans h.res,(ht.block X hX (by omega)).trans h.pol,h.own.low h.zb ht.size (fun Y h1 hY=>ht.block Y hY (by omega)),fun Y hY=>⟨(h.zb Y hY).1,Nat.lt_of_lt_of_le (h.zb Y hY).2 ht.size⟩,h.below.trans ((ht.below (by omega)).mono (by omega)),Nat.le_trans h.size ht.size⟩
/-- Cells of another block are written to. -/
theorem ParI.cell {w:World} {B P X:Nat} {A:Option Addr} {c:Nat} {ts:List Tk} {base:Nat} {s:PSt} {acc:List Rl} {v:Value} {z:Nat→Bool} {rcs:List (List Value)} {W:World} (h:ParI w B P X A c ts base s acc v z rcs W) {K:Nat} (hK:base≤K) (hz:z K=false) (ho:v.ownBlock≠some K) (hwP:w.heap.size<P) (hPX:P<X) (hXb:X<base) (j:Nat) (u:Value):ParI w B P X A c ts base s acc v z rcs (W.setCell ⟨K,j,none⟩ u):=by
 have far:∀ Y,Y≠K→(W.setCell ⟨K,j,none⟩ u).heap[Y]? = W.heap[Y]?:=fun Y hY=>Below.heap_setCell W ⟨K,j,none⟩ u Y hY
 have hlo:=h.prd.lo
 refine ⟨h.prd.keep ((Below.refl _ _).setCell (p:=⟨K,j,none⟩) (by show B≤K; omega) _) (far P (by omega)),(far _ (by omega)).trans h.res,(far X (by omega)).trans h.pol,h.own.keep (fun _ h=>h) h.own.own (by simp) (fun Y hY=>far Y (fun e=>by rw [e,hz] at hY; cases hY)) (fun g hg=>far g (fun e=>ho (by rw [hg,e]))),fun Y hY=>⟨(h.zb Y hY).1,by simpa using (h.zb Y hY).2⟩,h.below.setCell (p:=⟨K,j,none⟩) (by show w.heap.size≤K; omega) _,by simpa using h.size⟩
theorem blk10 {W:World} {K:Nat} {u0 u1 u2 u3 u4 u5 u6 u7 u8 u9:Value} {T:TypeId} (h:W.heap[K]? = some (.cells #[u0,u1,u2,u3,u4,u5,u6,u7,u8,u9] T (0,0))) :
  (W.cell? ⟨K,0,none⟩=some u0∧W.cell? ⟨K,1,none⟩=some u1∧W.cell? ⟨K,2,none⟩=some u2∧W.cell? ⟨K,3,none⟩=some u3∧W.cell? ⟨K,4,none⟩=some u4∧W.cell? ⟨K,5,none⟩=some u5∧W.cell? ⟨K,6,none⟩=some u6∧W.cell? ⟨K,7,none⟩=some u7∧W.cell? ⟨K,8,none⟩=some u8∧W.cell? ⟨K,9,none⟩=some u9)∧∀ j:Nat,W.frozen? ⟨K,j,none⟩=false:=
 ⟨⟨cell_of_row W K 0 _ _ _ h,cell_of_row W K 1 _ _ _ h,cell_of_row W K 2 _ _ _ h,cell_of_row W K 3 _ _ _ h,cell_of_row W K 4 _ _ _ h,cell_of_row W K 5 _ _ _ h,cell_of_row W K 6 _ _ _ h,cell_of_row W K 7 _ _ _ h,cell_of_row W K 8 _ _ _ h,cell_of_row W K 9 _ _ _ h⟩,fun j=>by unfold World.frozen?; rw [h]; simp⟩
theorem blk10_lo {W:World} {K:Nat} {u0 u1 u2 u3 u4 u5 u6 u7 u8 u9:Value} {T:TypeId} {fz:Nat × Nat} (h:W.heap[K]? = some (.cells #[u0,u1,u2,u3,u4,u5,u6,u7,u8,u9] T fz)) (v0 v1 v2 v3 v4:Value) :
  (((((W.setCell ⟨K,0,none⟩ v0).setCell ⟨K,1,none⟩ v1).setCell ⟨K,2,none⟩ v2).setCell ⟨K,3,none⟩ v3).setCell ⟨K,4,none⟩ v4).heap[K]? = some (.cells #[v0,v1,v2,v3,v4,u5,u6,u7,u8,u9] T fz):=by
 simp [World.setCell,Array.getElem?_modify,h]
theorem blk10_hi {W:World} {K:Nat} {u0 u1 u2 u3 u4 u5 u6 u7 u8 u9:Value} {T:TypeId} {fz:Nat × Nat} (h:W.heap[K]? = some (.cells #[u0,u1,u2,u3,u4,u5,u6,u7,u8,u9] T fz)) (v0 v1 v2 v3 v4:Value) :
  (((((W.setCell ⟨K,5,none⟩ v0).setCell ⟨K,6,none⟩ v1).setCell ⟨K,7,none⟩ v2).setCell ⟨K,8,none⟩ v3).setCell ⟨K,9,none⟩ v4).heap[K]? = some (.cells #[u0,u1,u2,u3,u4,v0,v1,v2,v3,v4] T fz):=by
 simp [World.setCell,Array.getElem?_modify,h]
theorem heap_hi {W:World} {K k:Nat} (hne:k≠K) (v0 v1 v2 v3 v4:Value):(((((W.setCell ⟨K,5,none⟩ v0).setCell ⟨K,6,none⟩ v1).setCell ⟨K,7,none⟩ v2).setCell ⟨K,8,none⟩ v3).setCell ⟨K,9,none⟩ v4).heap[k]? = W.heap[k]?:=by
 rw [Below.heap_setCell _ _ _ _ hne,Below.heap_setCell _ _ _ _ hne,Below.heap_setCell _ _ _ _ hne,Below.heap_setCell _ _ _ _ hne,Below.heap_setCell _ _ _ _ hne]
/-- An expression that leans on the blocks from a to b alone. -/
def rgB (a b:Nat) (Y:Nat):Bool:=decide (Y<a) || decide (b≤Y)
theorem rg_no {a b Y:Nat} (h:rgB a b Y=false):a≤Y∧Y<b:=by
 unfold rgB at h
 rw [Bool.or_eq_false_iff] at h
 have:=of_decide_eq_false h.1
 have:=of_decide_eq_false h.2
 omega
theorem rg_mk {a b Y:Nat} (h:a≤Y) (h2:Y<b):rgB a b Y=false:=by
 unfold rgB
 rw [decide_eq_false (by omega),decide_eq_false (by omega)]
 rfl
theorem lies_rg {a:Nat} {W:World} {vs:List Value} {e:Ex} (h:LiesE (mask (fun X=>decide (X<a)) W) W.heap.size vs e):LiesE (mask (rgB a W.heap.size) W) W.heap.size vs e:=
 h.turn (fun X hX h=>rg_mk (by have:=of_decide_eq_false h; omega) hX) (Nat.le_refl _) (fun _ _ _=>rfl)
theorem rg_keep {a b:Nat} {W W':World} {vs:List Value} {e:Ex} (h:LiesE (mask (rgB a b) W) W.heap.size vs e) (hs:W.heap.size≤W'.heap.size) (hk:∀ X,a≤X→X<b→W'.heap[X]? = W.heap[X]?):LiesE (mask (rgB a b) W') W'.heap.size vs e:=
 h.turn (fun _ _ h=>h) hs (fun X _ h=>hk X (rg_no h).1 (rg_no h).2)
/-- The blocks of a rule's two expressions are added to z. -/
theorem par_grow {w:World} {B P X K a1 b1 a2 b2:Nat} {A:Option Addr} {c:Nat} {ts:List Tk} {s:PSt} {acc:List Rl} {v:Value} {z:Nat→Bool} {rcs:List (List Value)} {W:World} {e1 e2:Ex} {k o:Int} {n:ByteArray} {x:Int} {A1:Option Addr} {m1 c1:Nat} {k' o':Int} {n':ByteArray} {x':Int} {A2:Option Addr} {m2 c2:Nat} (h:ParI w B P X A c ts (X+1) s acc v z rcs W)
  (h1:LiesE (mask (rgB a1 b1) W) W.heap.size (exC k o n x A1 m1 c1) e1) (h2:LiesE (mask (rgB a2 b2) W) W.heap.size (exC k' o' n' x' A2 m2 c2) e2) (hob:∀ Y,v.ownBlock=some Y→Y<K) (ha1:K<a1) (ha2:K<a2) (hb1:b1≤W.heap.size) (hb2:b2≤W.heap.size) (hbK:X+1≤K) :
  ∃ z':Nat→Bool,(∀ Y,v.ownBlock=some Y→z' Y=false)∧ParI w B P X A c ts (X+1) s acc v z' rcs W∧RuleZ z' W (exC k o n x A1 m1 c1++exC k' o' n' x' A2 m2 c2) ⟨e1,e2⟩:=by
 have hn:∀ Y,v.ownBlock=some Y→(z Y || !(rgB a1 b1 Y) || !(rgB a2 b2 Y))=false:=fun Y hY=>by
  have hlt:=hob Y hY
  have r1:rgB a1 b1 Y=true:=by unfold rgB; rw [decide_eq_true (by omega:Y<a1)]; rfl
  have r2:rgB a2 b2 Y=true:=by unfold rgB; rw [decide_eq_true (by omega:Y<a2)]; rfl
  rw [h.own.own Y hY,r1,r2]; rfl
 refine ⟨fun Y=>z Y || !(rgB a1 b1 Y) || !(rgB a2 b2 Y),hn,⟨h.prd,h.res,h.pol,h.own.keep (fun Y hY=>by simp [hY]) hn (Nat.le_refl _) (fun _ _=>rfl) (fun _ _=>rfl),fun Y hY=>?_,h.below,h.size⟩,?_⟩
 ·simp only [Bool.or_eq_true,Bool.not_eq_true'] at hY
  rcases hY with (hY | hY) | hY
  ·exact h.zb Y hY
  ·have:=rg_no hY; omega
  ·have:=rg_no hY; omega
 ·refine ⟨k,o,n,x,A1,m1,c1,k',o',n',x',A2,m2,c2,rfl,h1.turn (fun Y _ hY=>?_) (Nat.le_refl _) (fun _ _ _=>rfl),h2.turn (fun Y _ hY=>?_) (Nat.le_refl _) (fun _ _ _=>rfl)⟩
  ·simp [hY]
  ·simp [hY]
/-- A rule has been put behind. -/
theorem par_app {w:World} {B P X:Nat} {A:Option Addr} {c:Nat} {ts:List Tk} {s:PSt} {acc:List Rl} {v v2:Value} {z:Nat→Bool} {rcs:List (List Value)} {W w3:World} {cs:List Value} {r:Rl} {ob:Obj} (h:ParI w B P X A c ts (X+1) s acc v z rcs W) (hr:RuleZ z W cs r) (hown:w3.ownsRow (X+1) 40 10 v2 (acc.length+1) (rcs.flatten++cs))
  (hg:(W.alloc ob).grownBy w3 v.ownBlock) (hob:v2.ownBlock=v.ownBlock∨v2.ownBlock=some (W.alloc ob).heap.size) (hwP:w.heap.size<P) (hPX:P<X):ParI w B P X A c ts (X+1) s (acc++[r]) v2 z (rcs++[cs]) (w3.setCell ⟨X,0,none⟩ v2):=by
 have hba:=below_alloc W ob
 have hsz:(W.alloc ob).heap.size=W.heap.size+1:=by simp
 have hlo:=h.prd.lo
 have hwW:=h.below.size
 have hbW:=h.size
 have hvlt:=fun g hg=>h.own.row.lt g hg
 have far:∀ Y,Y<W.heap.size→v.ownBlock≠some Y→w3.heap[Y]? = W.heap[Y]?:=fun Y hY hne=>(hg.block Y (by omega) (fun e=>hne e.symm)).trans (hba.block Y hY)
 have hs3:W.heap.size≤w3.heap.size:=Nat.le_trans (by omega) hg.size
 have nown:∀ Y,Y<X+1→v.ownBlock≠some Y:=fun Y hY e=>absurd (hvlt Y e).1 (by omega)
 have hb3:∀ q,q≤X+1→q≤W.heap.size→Below q W w3:=fun q hq hq2=>(hba.mono hq2).grown hg (by omega) (fun k e=>Nat.le_trans hq (hvlt k e).1)
 have ho3:=h.own.app hr h.zb hs3 hown (fun Y hY hne=>far Y hY hne) (hob.imp id fun e=>⟨_,e,by omega⟩)
 have far2:∀ Y,Y≠X→(w3.setCell ⟨X,0,none⟩ v2).heap[Y]? = w3.heap[Y]?:=fun Y hY=>Below.heap_setCell w3 ⟨X,0,none⟩ v2 Y hY
 refine ⟨h.prd.keep ((hb3 B (by omega) (by omega)).setCell (p:=⟨X,0,none⟩) (by show B≤X; omega) _) ((far2 P (by omega)).trans (far P (by omega) (nown P (by omega)))),((far2 _ (by omega)).trans (far _ (by omega) (nown _ (by omega)))).trans h.res,?_,?_,fun Y hY=>⟨(h.zb Y hY).1,by have:=(h.zb Y hY).2; simp; omega⟩,(h.below.trans (hb3 _ (by omega) (by omega))).setCell (p:=⟨X,0,none⟩) (by show w.heap.size≤X; omega) _,by simp; omega⟩
 ·exact blk1_set ((far X (by omega) (nown X (by omega))).trans h.pol) _
 ·refine ho3.keep (fun _ h=>h) ho3.own (by simp) (fun Y hY=>far2 Y (by have:=(h.zb Y hY).1; omega)) (fun g hg'=>far2 g (by have:=(ho3.row.lt g hg').1; omega))
set_option maxRecDepth 100000 in
set_option maxHeartbeats 12800000 in
theorem parse_any (s:ByteArray) (hs:s.size≤140737488355328) (w:World) (hen:Env w.heap.size w):Calls Tryz.prog 8 #[.string s] w (ParR (parseM s) w):=by
 have HTK:=Lib.hid (fun W=>tokens_any s hs W)
 have HPM:Hid (parseM s=match toksE s with | .er a f=>.er a f | .ok ts=>endP ts (loopP ts (ts.length+1) ⟨0,0⟩ [])):=Lib.hid rfl
 have HOK:=Lib.hid (fun ts=>toksE_ok (s:=s) (ts:=ts))
 have HER:=Lib.hid (fun a e=>toksE_er (s:=s) (a:=a) (e:=e))
 unfold ParR
 generalize parseM s=pm at HPM ⊢
 generalize toksE s=tr at HTK HPM HOK HER
 unfold TksR.Giv at HTK
 have hE:=blk_new w (.cells #[.slice none 0 0] 24)
 have hb1:=below_alloc w (.cells #[.slice none 0 0] 24)
 have hz1:w.heap.size<(w.alloc (.cells #[.slice none 0 0] 24)).heap.size:=by simp
 cases tr with
 | er a f=>
  obtain rfl:pm=.er a f:=HPM.out
  have hf:=HER.out a f rfl
  have n0:((f:Nat):Int)≠0:=by omega
  have n1:(((f:Nat):Int) != 0)=true:=by simpa using hf
  have n2:(f != 0)=true:=by simpa using hf
  clear HPM HOK HER
  go_enter Tryz.func8,Tryz.ntmps8
  go_upto_region 1 with fail
  generalize w.alloc _=w1 at hE hb1 hz1 ⊢
  go_upto_region 3 with (go_at_call 21; refine (HTK.out w1).mono ?_; rintro e W2 ⟨rfl,hb2⟩)
  have hE2:=(hb2.block w.heap.size hz1).trans hE
  have hb12:=hb1.trans (hb2.mono hb1.size)
  obtain ⟨y0,y1⟩:=blk1 hE2
  go_wp2_with fail
  try simp only [Exit.inBlock,Exit.then]
  refine bodyPost_ret (results_ctt rfl rfl (loadP (blk1_set hE2 _))) rfl ?_
  exact ⟨hb12.setCell (p:=⟨w.heap.size,0,none⟩) (Nat.le_refl _) _,rfl⟩
 | ok ts=>
  replace HPM:Hid (pm=endP ts (loopP ts (ts.length+1) ⟨0,0⟩ [])):=HPM
  have htk:=HOK.out ts rfl
  clear HOK HER
  go_enter Tryz.func8,Tryz.ntmps8
  go_upto_region 1 with fail
  generalize w.alloc _=w1 at hE hb1 hz1 ⊢
  go_upto_region 4 with (go_at_call 21; refine (HTK.out w1).mono ?_; rintro e W2 ⟨v,rfl,hown,hb2⟩; obtain ⟨A,c,rfl⟩:=own_form hown)
  have hb12:=hb1.trans (hb2.mono hb1.size)
  have hE2:=(hb2.block w.heap.size hz1).trans hE
  have hz2:w.heap.size<W2.heap.size:=Nat.lt_of_lt_of_le hz1 hb2.size
  have hen2:Env W2.heap.size W2:=(hen.next hb12).more hb12.size
  have hcap:=own_cap' (show W2.ownsRow w1.heap.size 69 4 (.slice A ts.length c) ts.length (tkCs ts) from hown)
  have htok:Rd W2 W2.heap.size 4 A ts.length (tkCs ts):=Rd.of_own hown
  clear hown hb2 hb1 hE hz1 HTK hen
  go_upto_region 5 with fail
  have hba:=below_alloc W2 (.cells #[.slice A ts.length c,.int .i64 0,.int .i64 0] 67)
  have hP3:Prd W2.heap.size W2.heap.size A c ts ⟨0,0⟩ (W2.alloc (.cells #[.slice A ts.length c,.int .i64 0,.int .i64 0] 67)):=⟨heap_alloc_new W2 _,htok.below hba,hen2.next hba,Nat.le_refl _,htk.pos,hcap,htk⟩
  have hE3:=(hba.block w.heap.size hz2).trans hE2
  have hb3:=hb12.trans (hba.mono hb12.size)
  have hz3:(W2.alloc (.cells #[.slice A ts.length c,.int .i64 0,.int .i64 0] 67)).heap.size=W2.heap.size+1:=by simp
  have hz3g:W2.heap.size<(W2.alloc (.cells #[.slice A ts.length c,.int .i64 0,.int .i64 0] 67)).heap.size:=by omega
  clear hba hE2 hb12 htok hen2 hz3
  generalize W2.alloc _=W3 at hP3 hE3 hb3 hz3g ⊢
  obtain ⟨P,hPe⟩:∃ P,P=W2.heap.size:=⟨_,rfl⟩
  rw [← hPe] at hP3 hz3g hz2 ⊢
  clear hPe
  obtain ⟨RES,HRES⟩:∃ RES,Hid (RES=loopP ts (ts.length+1) ⟨0,0⟩ []):=⟨_,Lib.hid rfl⟩
  rw [← HRES.out] at HPM
  have hlen:=htk.len
  go_cut [9] (fun r9 wx=>∃ X:Nat,r9=.pointer (some ⟨X,0,none⟩)∧P<X∧ParI w P P X A c ts (X+1) ⟨0,0⟩ [] (.slice none 0 0) (fun _=>false) [] wx)
  case first=>
   have hba:=below_alloc W3 (.cells #[.slice none 0 0] 24)
   have hI0:ParI w P P W3.heap.size A c ts (W3.heap.size+1) ⟨0,0⟩ [] (.slice none 0 0) (fun _=>false) [] (W3.alloc (.cells #[.slice none 0 0] 24)):=
    ⟨hP3.next hba,(hba.block w.heap.size (by omega)).trans hE3,heap_alloc_new W3 _,OwnZ.nil _ _ _,(fun Y h=>by cases h),hb3.trans (hba.mono hb3.size),by simp⟩
   have HI0:=Lib.hid hI0
   clear hba hP3 hE3 hb3 hI0 HPM HRES
   go_wp2_with fail
   go_meet
   case rel=>exact ⟨_,rfl,hz3g,HI0.out⟩
  case rest=>
  obtain ⟨X,rfl,hPX,hI0⟩:=hcut
  clear hP3 hE3 hb3 hz3g
  apply_assumption
  apply wp_seq_k
  intro K0 hK0
  go_cut [] (fun wx=>∃ (s:PSt) (acc:List Rl) (v:Value) (z:Nat→Bool) (rcs:List (List Value)),RES=(s,acc)∧ParI w P P X A c ts (X+1) s acc v z rcs wx∧acc.length≤ts.length+1)
  case first=>
   clear HPM
   go_wp2_with fail
   go_loopg [] (ts.length+1) (fun g wr=>∃ (s:PSt) (acc:List Rl) (v:Value) (z:Nat→Bool) (rcs:List (List Value)),Hid (RES=loopP ts g s acc)∧ParI w P P X A c ts (X+1) s acc v z rcs wr∧acc.length+g≤ts.length+1∧(s.err=0→ts.length<s.k+g))
   case atStart=>exact ⟨⟨0,0⟩,[],_,_,_,HRES,hI0,by simp,fun _=>by simp⟩
   case round=>
    clear hI0 HRES
    obtain ⟨s,acc,v,z,rcs,hRES,hI,hal,hfu⟩:=hrel
    have hlt:=hI.prd.lt
    obtain ⟨c0,c1,c2,c3,c4⟩:=hI.prd.cells
    obtain ⟨sk,sf⟩:=s
    dsimp only at c1 c2 hlt hfu
    have hPw:=hI.prd.ltw
    go_upto_region 6 with fail
    by_cases hsf:sf=0
    rotate_left
    ·have n1:((sf:Int) == 0)=false:=by simpa using hsf
     have n2:(sf == 0)=false:=by simpa using hsf
     have hR:RES=(⟨sk,sf⟩,acc):=by
      rw [hRES.out]
      cases gk with
      | zero=>rfl
      | succ g=>unfold loopP; rw [if_neg (fun h=>hsf h.1)]
     have HR:=Lib.hid hR
     have HI:=Lib.hid hI
     clear hR hI hRES hfu hsf
     go_quiet (fail)
     rename_i nq
     go_wp2_with fail
     go_meet
     case rel=>exact ⟨_,_,_,_,_,HR.out,HI.out.next (below_drews _ _ _),by omega⟩
    ·subst hsf
     have hg0:ts.length<sk+gk:=hfu rfl
     obtain ⟨g,rfl⟩:∃ g,gk=g+1:=⟨gk - 1,by omega⟩
     cases hk:ts[sk]? with
     | none=>exact absurd (List.getElem?_eq_none_iff.1 hk) (by omega)
     | some t=>
     obtain ⟨b,off,hA,hb,x0,x1,x2,x3⟩:=rd_tk hI.prd.tok hk
     subst hA
     have g3:(sk:Int)<(ts.length:Int):=by omega
     have g4:(0:Int)≤(sk:Int):=by omega
     have hka:kindAt ts sk=t.kind:=by unfold kindAt; rw [hk]
     by_cases hkd:t.kind=0
     ·have hR:RES=(⟨sk,0⟩,acc):=by
       rw [hRES.out]
       unfold loopP
       rw [if_neg (fun h=>h.2 (hka.trans hkd))]
      have HR:=Lib.hid hR
      have HI:=Lib.hid hI
      rw [hkd] at x0
      clear hR hI hRES hfu hkd hka hk
      go_quiet (fail)
      rename_i nq
      go_wp2_with fail
      go_meet
      case rel=>exact ⟨_,_,_,_,_,HR.out,HI.out.next (below_drews _ _ _),by omega⟩
     ·have n1:(t.kind != 0)=true:=by simpa using hkd
      have HRR:Hid (RES=loopP ts g (r5P ts ⟨sk,0⟩) (acc++[⟨(r2P ts ⟨sk,0⟩).1,(r4P ts ⟨sk,0⟩).1⟩])):=Lib.hid (by
       rw [hRES.out]
       conv=>lhs; unfold loopP
       rw [if_pos ⟨rfl,fun h=>hkd (hka.symm.trans h)⟩])
      have hlts:=rP_lt htk (s:=⟨sk,0⟩) hlt
      have hadv:=r5_adv htk (s:=⟨sk,0⟩) rfl hlt
      have HN1:=Lib.hid (fun W (h:Prd P P (some ⟨b,off,none⟩) c ts ⟨sk,0⟩ W)=>(show Calls _ _ _ W (NeedR P (some ⟨b,off,none⟩) c ts (r1P ts ⟨sk,0⟩) W) from need_any h 1 ⟨#[119,104,101,110]⟩))
      have HX2:=Lib.hid (fun W (h:Prd P P (some ⟨b,off,none⟩) c ts (r1P ts ⟨sk,0⟩) W)=>(show Calls _ _ _ W (PexR P (some ⟨b,off,none⟩) c ts (r2P ts ⟨sk,0⟩) W) from pexpr_any h))
      have HN3:=Lib.hid (fun W (h:Prd P P (some ⟨b,off,none⟩) c ts (r2P ts ⟨sk,0⟩).2 W)=>(show Calls _ _ _ W (NeedR P (some ⟨b,off,none⟩) c ts (r3P ts ⟨sk,0⟩) W) from need_any h 1 ⟨#[98,121]⟩))
      have HX4:=Lib.hid (fun W (h:Prd P P (some ⟨b,off,none⟩) c ts (r3P ts ⟨sk,0⟩) W)=>(show Calls _ _ _ W (PexR P (some ⟨b,off,none⟩) c ts (r4P ts ⟨sk,0⟩) W) from pexpr_any h))
      have HN5:=Lib.hid (fun W (h:Prd P P (some ⟨b,off,none⟩) c ts (r4P ts ⟨sk,0⟩).2 W)=>(show Calls _ _ _ W (NeedR P (some ⟨b,off,none⟩) c ts (r5P ts ⟨sk,0⟩) W) from need_any h 3 ⟨#[59]⟩))
      generalize r5P ts ⟨sk,0⟩=s5 at HRR hlts hadv HN5
      generalize r4P ts ⟨sk,0⟩=x4 at HRR hlts HX4 HN5
      generalize r3P ts ⟨sk,0⟩=s3 at hlts HN3 HX4
      generalize r2P ts ⟨sk,0⟩=x2' at HRR hlts HX2 HN3
      generalize r1P ts ⟨sk,0⟩=s1 at hlts HN1 HX2
      obtain ⟨e1,s2⟩:=x2'
      obtain ⟨e2,s4⟩:=x4
      try dsimp only at HRR hlts HX2 HN3 HX4 HN5
      obtain ⟨hl1,hl2,hl3,hl4,hl5⟩:=hlts
      unfold NeedR at HN1 HN3 HN5
      unfold PexR at HX2 HX4
      try dsimp only at HX2 HX4
      have HI:=Lib.hid hI
      have hbw:b<wr.heap.size:=by have:=hI.prd.lo; omega
      clear hI hRES hfu hkd hka hk
      go_quiet (fail)
      rename_i nq
      have hIq:=HI.out.next (below_drews wr.heap.size wr nq)
      clear HI c0 c1 c2 c3 c4 x0 x1 x2 x3 hbw hPw
      generalize wr.drewN nq=wq at hIq ⊢
      go_upto_region 8 with fail
      have hba:=below_alloc wq (.cells #[.int .i64 0,.int .i64 0,.string ⟨#[]⟩,.int .i64 0,.slice none 0 0,.int .i64 0,.int .i64 0,.string ⟨#[]⟩,.int .i64 0,.slice none 0 0] 40)
      have hK5:=blk_new wq (.cells #[.int .i64 0,.int .i64 0,.string ⟨#[]⟩,.int .i64 0,.slice none 0 0,.int .i64 0,.int .i64 0,.string ⟨#[]⟩,.int .i64 0,.slice none 0 0] 40)
      have hI5:=hIq.next hba
      have hbK:=hIq.size
      have hzK:z wq.heap.size=false:=by
       cases hh:z wq.heap.size with
       | false=>rfl
       | true=>exact absurd (hIq.zb _ hh).2 (Nat.lt_irrefl _)
      have hoK:v.ownBlock≠some wq.heap.size:=fun e=>absurd (hIq.own.row.lt _ e).2 (Nat.lt_irrefl _)
      have hz5:wq.heap.size<(wq.alloc (.cells #[.int .i64 0,.int .i64 0,.string ⟨#[]⟩,.int .i64 0,.slice none 0 0,.int .i64 0,.int .i64 0,.string ⟨#[]⟩,.int .i64 0,.slice none 0 0] 40)).heap.size:=by simp
      have hob5:∀ Y,v.ownBlock=some Y→Y<wq.heap.size:=fun Y hY=>(hIq.own.row.lt Y hY).2
      clear hba hIq
      generalize wq.alloc _=W5 at hK5 hI5 hz5 ⊢
      obtain ⟨K,hKe⟩:∃ K,K=wq.heap.size:=⟨_,rfl⟩
      rw [← hKe] at hK5 hbK hzK hoK hz5 hob5 ⊢
      clear hKe
      have HOB:=Lib.hid hob5
      clear hob5
      have hPK:P<K:=by omega
      have HK5:=Lib.hid hK5
      have HI5:=Lib.hid hI5
      clear hK5 hI5
      go_upto_region 9 with (go_at_call 22; refine (HN1.out W5 HI5.out.prd).mono ?_; rintro e W6 ⟨rfl,ht6,hp6⟩)
      have hI6:=HI5.out.turn ht6 hp6 hl1 hz2 hPX (Nat.lt_succ_self _)
      have hK6:=(ht6.block K hz5 (.inr (by omega))).trans HK5.out
      have hz6:K<W6.heap.size:=Nat.lt_of_lt_of_le hz5 ht6.size
      clear ht6 hp6 HK5 HI5 HN1 hz5
      have HK6:=Lib.hid hK6
      have HI6:=Lib.hid hI6
      clear hK6 hI6
      go_upto_region 10 with (go_at_call 23; refine (HX2.out W6 HI6.out.prd).mono ?_; rintro e W7 ⟨ht7,hp7,vs,rfl,hL7⟩; obtain ⟨A1,c1',row,rfl,-,-⟩:=hL7.form; have hK7:=(ht7.block K hz6 (.inr (by omega))).trans HK6.out; have hq7:=blk10 hK7; unfold exC)
      have hI7:=HI6.out.turn ht7 hp7 hl2 hz2 hPX (Nat.lt_succ_self _)
      have hz67:=ht7.size
      have hI8:=((((hI7.cell hbK hzK hoK hz2 hPX (Nat.lt_succ_self _) 0 (.int .i64 e1.kind)).cell hbK hzK hoK hz2 hPX (Nat.lt_succ_self _) 1 (.int .i64 e1.op)).cell hbK hzK hoK hz2 hPX (Nat.lt_succ_self _) 2 (.string e1.name)).cell hbK hzK hoK hz2 hPX (Nat.lt_succ_self _) 3 (.int .i64 e1.val)).cell hbK hzK hoK hz2 hPX (Nat.lt_succ_self _) 4 (.slice A1 e1.args.length c1')
      have hK8:=blk10_lo hK7 (.int .i64 e1.kind) (.int .i64 e1.op) (.string e1.name) (.int .i64 e1.val) (.slice A1 e1.args.length c1')
      have hsz8:=set5_size W7 K (.int .i64 e1.kind) (.int .i64 e1.op) (.string e1.name) (.int .i64 e1.val) (.slice A1 e1.args.length c1')
      have hL8:=rg_keep (lies_rg hL7) (W':=(((((W7.setCell ⟨K,0,none⟩ (.int .i64 e1.kind)).setCell ⟨K,1,none⟩ (.int .i64 e1.op)).setCell ⟨K,2,none⟩ (.string e1.name)).setCell ⟨K,3,none⟩ (.int .i64 e1.val)).setCell ⟨K,4,none⟩ (.slice A1 e1.args.length c1'))) (by rw [hsz8]; exact Nat.le_refl _) (fun Y h1 _=>heap_set5 (by omega) _ _ _ _ _)
      have hb8:W7.heap.size≤((((((W7.setCell ⟨K,0,none⟩ (.int .i64 e1.kind)).setCell ⟨K,1,none⟩ (.int .i64 e1.op)).setCell ⟨K,2,none⟩ (.string e1.name)).setCell ⟨K,3,none⟩ (.int .i64 e1.val)).setCell ⟨K,4,none⟩ (.slice A1 e1.args.length c1'))).heap.size:=by rw [hsz8]; exact Nat.le_refl _
      clear hI7 hK7 hq7 hL7 HI6 HK6 HX2 ht7 hp7 hsz8
      generalize (((((W7.setCell ⟨K,0,none⟩ (.int .i64 e1.kind)).setCell ⟨K,1,none⟩ (.int .i64 e1.op)).setCell ⟨K,2,none⟩ (.string e1.name)).setCell ⟨K,3,none⟩ (.int .i64 e1.val)).setCell ⟨K,4,none⟩ (.slice A1 e1.args.length c1'))=W8 at hI8 hK8 hL8 hb8 ⊢
      generalize hae:W6.heap.size=a1 at hL8 hz6 hz67
      generalize hbe:W7.heap.size=b1 at hL8 hz67 hb8
      clear hae hbe
      have HK8:=Lib.hid hK8
      have HI8:=Lib.hid hI8
      clear hK8 hI8
      go_upto_region 11 with (go_at_call 22; refine (HN3.out W8 HI8.out.prd).mono ?_; rintro e W9 ⟨rfl,ht9,hp9⟩)
      have hI9:=HI8.out.turn ht9 hp9 hl3 hz2 hPX (Nat.lt_succ_self _)
      have hK9:=(ht9.block K (by omega) (.inr (by omega))).trans HK8.out
      have hL9:=rg_keep hL8 ht9.size (fun Y h1 h2=>ht9.block Y (by omega) (.inr (by omega)))
      have hz9:=ht9.size
      have HK9:=Lib.hid hK9
      have HI9:=Lib.hid hI9
      clear hK9 hI9 HK8 HI8 hL8 ht9 hp9 HN3
      go_upto_region 12 with (go_at_call 23; refine (HX4.out W9 HI9.out.prd).mono ?_; rintro e W10 ⟨ht10,hp10,vs,rfl,hL10⟩; obtain ⟨A2,c2',row2,rfl,-,-⟩:=hL10.form; have hK10:=(ht10.block K (by omega) (.inr (by omega))).trans HK9.out; have hq10:=blk10 hK10; unfold exC)
      have hI10:=HI9.out.turn ht10 hp10 hl4 hz2 hPX (Nat.lt_succ_self _)
      have hz10:=ht10.size
      have hLa:=rg_keep hL9 ht10.size (fun Y h1 h2=>ht10.block Y (by omega) (.inr (by omega)))
      have hI11:=((((hI10.cell hbK hzK hoK hz2 hPX (Nat.lt_succ_self _) 5 (.int .i64 e2.kind)).cell hbK hzK hoK hz2 hPX (Nat.lt_succ_self _) 6 (.int .i64 e2.op)).cell hbK hzK hoK hz2 hPX (Nat.lt_succ_self _) 7 (.string e2.name)).cell hbK hzK hoK hz2 hPX (Nat.lt_succ_self _) 8 (.int .i64 e2.val)).cell hbK hzK hoK hz2 hPX (Nat.lt_succ_self _) 9 (.slice A2 e2.args.length c2')
      have hK11:=blk10_hi hK10 (.int .i64 e2.kind) (.int .i64 e2.op) (.string e2.name) (.int .i64 e2.val) (.slice A2 e2.args.length c2')
      have hsz11:((((((W10.setCell ⟨K,5,none⟩ (.int .i64 e2.kind)).setCell ⟨K,6,none⟩ (.int .i64 e2.op)).setCell ⟨K,7,none⟩ (.string e2.name)).setCell ⟨K,8,none⟩ (.int .i64 e2.val)).setCell ⟨K,9,none⟩ (.slice A2 e2.args.length c2'))).heap.size=W10.heap.size:=by simp
      have hLb:=rg_keep (lies_rg hL10) (W':=(((((W10.setCell ⟨K,5,none⟩ (.int .i64 e2.kind)).setCell ⟨K,6,none⟩ (.int .i64 e2.op)).setCell ⟨K,7,none⟩ (.string e2.name)).setCell ⟨K,8,none⟩ (.int .i64 e2.val)).setCell ⟨K,9,none⟩ (.slice A2 e2.args.length c2'))) (by rw [hsz11]; exact Nat.le_refl _) (fun Y h1 _=>heap_hi (by omega) _ _ _ _ _)
      have hLc:=rg_keep hLa (W':=(((((W10.setCell ⟨K,5,none⟩ (.int .i64 e2.kind)).setCell ⟨K,6,none⟩ (.int .i64 e2.op)).setCell ⟨K,7,none⟩ (.string e2.name)).setCell ⟨K,8,none⟩ (.int .i64 e2.val)).setCell ⟨K,9,none⟩ (.slice A2 e2.args.length c2'))) (by rw [hsz11]; exact Nat.le_refl _) (fun Y h1 _=>heap_hi (by omega) _ _ _ _ _)
      have hb11:W10.heap.size≤((((((W10.setCell ⟨K,5,none⟩ (.int .i64 e2.kind)).setCell ⟨K,6,none⟩ (.int .i64 e2.op)).setCell ⟨K,7,none⟩ (.string e2.name)).setCell ⟨K,8,none⟩ (.int .i64 e2.val)).setCell ⟨K,9,none⟩ (.slice A2 e2.args.length c2'))).heap.size:=by rw [hsz11]; exact Nat.le_refl _
      clear hI10 hK10 hq10 hL10 hL9 hLa HI9 HK9 HX4 ht10 hp10 hsz11
      generalize (((((W10.setCell ⟨K,5,none⟩ (.int .i64 e2.kind)).setCell ⟨K,6,none⟩ (.int .i64 e2.op)).setCell ⟨K,7,none⟩ (.string e2.name)).setCell ⟨K,8,none⟩ (.int .i64 e2.val)).setCell ⟨K,9,none⟩ (.slice A2 e2.args.length c2'))=W11 at hI11 hK11 hLb hLc hb11 ⊢
      generalize hae:W9.heap.size=a2 at hLb hz9 hz10
      generalize hbe:W10.heap.size=b2 at hLb hz10 hb11
      clear hae hbe
      have HK11:=Lib.hid hK11
      have HI11:=Lib.hid hI11
      clear hK11 hI11
      go_upto_region 13 with (go_at_call 22; refine (HN5.out W11 HI11.out.prd).mono ?_; rintro e W12 ⟨rfl,ht12,hp12⟩)
      have hI12:=HI11.out.turn ht12 hp12 hl5 hz2 hPX (Nat.lt_succ_self _)
      have hK12:=(ht12.block K (by omega) (.inr (by omega))).trans HK11.out
      have hL1:=rg_keep hLc ht12.size (fun Y h1 h2=>ht12.block Y (by omega) (.inr (by omega)))
      have hL2:=rg_keep hLb ht12.size (fun Y h1 h2=>ht12.block Y (by omega) (.inr (by omega)))
      have hz12:=ht12.size
      clear HK11 HI11 hLb hLc ht12 hp12 HN5
      obtain ⟨z',hz',hI13,hRZ⟩:=par_grow (e1:=e1) (e2:=e2) hI12 hL1 hL2 HOB.out (by omega) (by omega) (by omega) (by omega) hbK
      clear hI12 hL1 hL2
      obtain ⟨Av,cv,hv⟩:=own_form hI13.own.row
      subst hv
      obtain ⟨⟨k0,k1,k2,k3,k4,k5,k6,k7,k8,k9⟩,-⟩:=blk10 hK12
      obtain ⟨xp0,xp1⟩:=blk1 hI13.pol
      obtain ⟨i0,hi,hy0,hy1,hy2⟩:=info_parts ruleInfo
      have hrd:Rd (W12.alloc (.cells #[.int .i64 e1.kind,.int .i64 e1.op,.string e1.name,.int .i64 e1.val,.slice A1 e1.args.length c1',.int .i64 e2.kind,.int .i64 e2.op,.string e2.name,.int .i64 e2.val,.slice A2 e2.args.length c2'] 40)) (W12.heap.size+1) 10 (some ⟨W12.heap.size,0,none⟩) 1 [.int .i64 e1.kind,.int .i64 e1.op,.string e1.name,.int .i64 e1.val,.slice A1 e1.args.length c1',.int .i64 e2.kind,.int .i64 e2.op,.string e2.name,.int .i64 e2.val,.slice A2 e2.args.length c2']:=
       ⟨rfl,.inr ⟨W12.heap.size,0,rfl,by omega,fun j u hu=>by rw [Nat.zero_add]; exact bx_new W12 #[.int .i64 e1.kind,.int .i64 e1.op,.string e1.name,.int .i64 e1.val,.slice A1 e1.args.length c1',.int .i64 e2.kind,.int .i64 e2.op,.string e2.name,.int .i64 e2.val,.slice A2 e2.args.length c2'] 40 j u hu⟩⟩
      have hmx:acc.length+1≤maxLen:=by unfold maxLen; omega
      have hby:(acc.length+1) * 128≤140737488355328:=by omega
      have hbs:X+1≤(W12.alloc (.cells #[.int .i64 e1.kind,.int .i64 e1.op,.string e1.name,.int .i64 e1.val,.slice A1 e1.args.length c1',.int .i64 e2.kind,.int .i64 e2.op,.string e2.name,.int .i64 e2.val,.slice A2 e2.args.length c2'] 40)).heap.size:=by simp; have:=hI13.size; omega
      have HI13:=Lib.hid hI13
      have HRZ:=Lib.hid hRZ
      have hX12:X<W12.heap.size:=by have:=hI13.size; omega
      have hoX:(Value.slice Av acc.length cv).ownBlock≠some X:=fun e=>absurd (hI13.own.row.lt X e).1 (by omega)
      have HXP:=Lib.hid ((below_alloc W12 (.cells #[.int .i64 e1.kind,.int .i64 e1.op,.string e1.name,.int .i64 e1.val,.slice A1 e1.args.length c1',.int .i64 e2.kind,.int .i64 e2.op,.string e2.name,.int .i64 e2.val,.slice A2 e2.args.length c2'] 40)).block X hX12 |>.trans hI13.pol)
      clear hI13 hRZ hK12
      go_wp2_with (at_builtin; refine wpList_append_rd rfl (.tmp 57) (.tmp 59) _ rfl (X+1) 40 i0 (.agg #[.int .i64 0,.int .i64 0,.string ⟨#[]⟩,.int .i64 0,.slice none 0 0,.int .i64 0,.int .i64 0,.string ⟨#[]⟩,.int .i64 0,.slice none 0 0]) 10 128 Tryz.underlying22 hi hy0 hy1 hy2 rfl (by omega) _ _ _ rfl (World.ownsRow.alloc HI13.out.own.row _) (W12.heap.size+1) (some ⟨W12.heap.size,0,none⟩) 1 1 _ rfl hrd HRZ.out.one hmx hby hbs ?_; intro v2 w3 hown2 hg2 hob2; have HOB2:=Lib.hid hob2; clear hob2; have hX3:=(hg2.block X (by simp; omega) (fun e=>hoX e.symm)).trans HXP.out; obtain ⟨xq0,xq1⟩:=blk1 hX3; obtain ⟨A3,cc3,rfl⟩:=own_form hown2)
      have hI14:=par_app HI13.out HRZ.out hown2 hg2 HOB2.out hz2 hPX
      go_roundg g
      case measure=>omega
      case rel=>exact ⟨s5,acc++[⟨e1,e2⟩],_,z',_,HRR,hI14,by rw [List.length_append]; simp; omega,fun h=>by have:=hadv h; (try dsimp only at this); omega⟩
  case rest=>
   obtain ⟨s,acc,v,z,rcs,rfl,hI,hal⟩:=hcut
   have HV:Hid (pm=if s.err=3 then .er (posAt ts s.k) 3 else if s.err≠0 then .er 0 s.err else if chkP acc≠0 then .er 0 (chkP acc) else .ok acc):=Lib.hid HPM.out
   clear HPM HRES hI0
   obtain ⟨Av,cv,hv⟩:=own_form hI.own.row
   subst hv
   have hlt:=hI.prd.lt
   obtain ⟨c0,c1,c2,c3,c4⟩:=hI.prd.cells
   obtain ⟨sk,sf⟩:=s
   dsimp only at c1 c2 hlt HV
   have hPw:=hI.prd.ltw
   obtain ⟨y0,y1⟩:=blk1 hI.res
   obtain ⟨x0,x1⟩:=blk1 hI.pol
   have HI:=Lib.hid hI
   have hres:=hI.res
   have hbl:=hI.below
   by_cases h3:sf=3
   ·subst h3
    cases hk:ts[sk]? with
    | none=>exact absurd (List.getElem?_eq_none_iff.1 hk) (by omega)
    | some t=>
     obtain ⟨b,off,hA,hb,t0,t1,t2,t3⟩:=rd_tk hI.prd.tok hk
     subst hA
     have g3:(sk:Int)<(ts.length:Int):=by omega
     have g4:(0:Int)≤(sk:Int):=by omega
     have hpo:posAt ts sk=t.pos:=by unfold posAt; rw [hk]
     obtain rfl:pm=.er t.pos 3:=by rw [HV.out,if_pos rfl,hpo]
     have hbw:b<wc.heap.size:=by have:=hI.prd.lo; omega
     clear HV hI hpo hk
     apply hK0
     go_upto_region 15 with fail
     go_region
     go_wp2_with fail
     refine bodyPost_ret (results_ctt rfl rfl (loadP (show (World.setCell _ _ _).heap[w.heap.size]? = _ from blk1_set hres _))) rfl ?_
     exact ⟨(hbl.setCell (p:=⟨w.heap.size,0,none⟩) (Nat.le_refl _) _).trans (below_drews _ _ 1),rfl⟩
   ·have n3:((sf:Int) == 3)=false:=by simpa using (by omega:¬ (sf:Int)=3)
    have m3:(sf == 3)=false:=by simpa using h3
    by_cases hsf:sf=0
    rotate_left
    ·obtain rfl:pm=.er 0 sf:=by rw [HV.out,if_neg h3,if_pos hsf]
     have n0:((sf:Int) == 0)=false:=by simpa using (by omega:¬ (sf:Int)=0)
     have m0:(sf == 0)=false:=by simpa using hsf
     have k0:((sf:Int) != 0)=true:=by simpa using (by omega:¬ (sf:Int)=0)
     have k1:(sf != 0)=true:=by simpa using hsf
     have k2:((sf:Nat):Int)≠0:=by omega
     clear HV hI
     apply hK0
     go_upto_region 19 with fail
     go_region
     go_wp2_with fail
     refine bodyPost_ret (results_ctt rfl rfl (loadP (show (World.setCell _ _ _).heap[w.heap.size]? = _ from blk1_set hres _))) rfl ?_
     exact ⟨(hbl.setCell (p:=⟨w.heap.size,0,none⟩) (Nat.le_refl _) _).trans (below_drews _ _ 1),rfl⟩
    ·subst hsf
     have hlies:=hI.own.lies rfl (by omega)
     have HCK:=Lib.hid (pck_any Av cv wc.heap.size acc wc hlies (Nat.le_refl _))
     unfold Ret at HCK
     replace HV:Hid (pm=if chkP acc≠0 then .er 0 (chkP acc) else .ok acc):=Lib.hid (by rw [HV.out]; rfl)
     generalize chkP acc=ck at HCK HV
     clear hI hlies
     apply hK0
     go_upto_region 18 with (go_at_call 10; refine HCK.out.mono ?_; rintro e W5 ⟨rfl,hb5⟩; have hI5:=HI.out.next hb5; obtain ⟨q0,q1,q2,q3,q4⟩:=hI5.prd.cells)
     have hP6:(W5.setCell ⟨P,2,none⟩ (.int .i64 (ck:Nat))).heap[P]? = some (pdB A ts.length c sk ck):=by
      have:=hI5.prd.blk
      simp [World.setCell,Array.getElem?_modify,this,pdB]
     have hI6:=hI5.turn (s':=⟨sk,ck⟩) ((Turn.refl P (P+1) W5).setCell (a:=⟨P,2,none⟩) ⟨Nat.le_refl _,Nat.lt_succ_self _⟩ (.int .i64 (ck:Nat))) hP6 hlt hz2 hPX (Nat.lt_succ_self _)
     clear hI5 hP6 c0 c1 c2 c3 c4 q0 q1 q2 q3 q4 y0 y1 x0 x1
     generalize W5.setCell _ _=W6 at hI6 ⊢
     obtain ⟨c0,c1,c2,c3,c4⟩:=hI6.prd.cells
     dsimp only at c1 c2
     obtain ⟨y0,y1⟩:=blk1 hI6.res
     obtain ⟨x0,x1⟩:=blk1 hI6.pol
     have hres6:=hI6.res
     have hbl6:=hI6.below
     by_cases hck:ck=0
     ·subst hck
      obtain rfl:pm=.ok acc:=HV.out
      have HI6:=Lib.hid hI6
      clear HV hI6
      go_wp2_with fail
      refine bodyPost_ret (results_ctt rfl rfl (loadP (blk1_set hres6 _))) rfl ?_
      refine ⟨hbl6.setCell (p:=⟨w.heap.size,0,none⟩) (Nat.le_refl _) _,Av,cv,rfl,?_⟩
      have h7:=(HI6.out.own.keep (W':=W6.setCell ⟨w.heap.size,0,none⟩ (.slice Av acc.length cv)) (fun _ h=>h) HI6.out.own.own (by simp) (fun Y hY=>Below.heap_setCell W6 ⟨w.heap.size,0,none⟩ _ Y (by have:=(HI6.out.zb Y hY).1; show Y≠w.heap.size; omega)) (fun g hg=>Below.heap_setCell W6 ⟨w.heap.size,0,none⟩ _ g (by have:=(HI6.out.own.row.lt g hg).1; show g≠w.heap.size; omega)))
      exact h7.lies rfl (by omega)
     ·obtain rfl:pm=.er 0 ck:=by rw [HV.out,if_pos hck]
      have k0:((ck:Int) != 0)=true:=by simpa using (by omega:¬ (ck:Int)=0)
      have k1:(ck != 0)=true:=by simpa using hck
      have k2:((ck:Nat):Int)≠0:=by omega
      clear HV
      go_upto_region 19 with fail
      go_region
      go_wp2_with fail
      refine bodyPost_ret (results_ctt rfl rfl (loadP (show (World.setCell _ _ _).heap[w.heap.size]? = _ from blk1_set hres6 _))) rfl ?_
      exact ⟨(hbl6.setCell (p:=⟨w.heap.size,0,none⟩) (Nat.le_refl _) _).trans (below_drews _ _ 1),rfl⟩
end Go.Proofs.YtmbffkemfepekaaGreatDoor
