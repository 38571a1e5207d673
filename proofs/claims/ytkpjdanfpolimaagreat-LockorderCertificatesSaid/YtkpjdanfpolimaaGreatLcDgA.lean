/- The laws' awake, walked: it returns true. No conditions. -/
import Derived.Test.YtkpjdanfpolimaaGreatLcDgX
import Derived.Test.YtkpjdanfpolimaaGreatLcDgS
import Derived.Test.YtkpjdanfpolimaaGreatLcEh
set_option linter.unusedSimpArgs false
set_option maxRecDepth 100000
set_option maxHeartbeats 6400000
namespace Go.Proofs.YtkpjdanfpolimaaGreat
open Go.RowKit Go.Shelf
def g10:List (Nat × Nat):=[(0,1),(1,0)]
theorem ring10:Ring 2 g10:=⟨0,1,by decide,by decide,(Way.refl 1).step (v:=1) (w:=0) (by decide)⟩
theorem range10:EdR 2 g10:=fun e he=>by
 have:e=(0,1)∨e=(1,0):=by simpa [g10] using he
 rcases this with rfl | rfl <;> decide
theorem susp10:suspects 2 g10=[[0,1]]:=by
 have w01:Way g10 0 1:=(Way.refl 0).step (by decide);have w10:Way g10 1 0:=(Way.refl 1).step (by decide);have n0:¬ Late g10 0:=fun ⟨w,h,_⟩=>absurd h (by omega)
 have l1:Late g10 1:=⟨0,by omega,w10,w01⟩
 have c0:classOf 2 g10 0=[0,1]:=by
  rw [clsTo_all,clsTo_yes ⟨w01,w10⟩,clsTo_yes ⟨Way.refl 0,Way.refl 0⟩]; rfl
 unfold suspects;rw [(compsTo_succ 2 g10 1).1 l1,(compsTo_succ 2 g10 0).2 n0,c0];have e0:compsTo 2 g10 0=[]:=rfl;rw [e0];rfl
theorem rank01 {r:Nat→Nat} (h:Ranked 2 [(0,1)] r):r 0=0∧r 1=1:=by
 obtain ⟨o,ht,hr⟩:=h
 have hR:EdR 2 [(0,1)]:=fun e he=>by
  have:e=(0,1):=by simpa using he
  subst this; decide
 have h1:=hr.all ht hR (u:=0) (v:=1) (by simp)
 have h0:r 0=0:=by
  rcases hr.low 0 with z | ⟨j,u,_,_,z,_⟩
  ·exact z
  ·simp at z
 refine ⟨h0,?_⟩;rcases hr.low 1 with z | ⟨j,u,_,_,z,e⟩
 ·omega
 ·have:u=0:=by simpa using z
  subst this; omega
theorem stuck01 (h:Stuck 2 [(0,1)]):False:=by
 obtain ⟨R,⟨v,hv,hR⟩,hp⟩:=h;obtain ⟨u,hu,hRu,he⟩:=hp v hv hR;have:u=0∧v=1:=by simpa using he
 obtain ⟨rfl,rfl⟩:=this;obtain ⟨x,-,-,hx⟩:=hp 0 (by omega) hRu;simp at hx
theorem ver01 (M A B F O:Nat):verE (exP M A B F O 0 1) 1 [1,2]=0:=by
 have:verB (exP M A B F O 0 1) 1 [1,2]=true:=by
  unfold verB;rw [ex_graph01]
  kernel_rfl
 unfold verE;rw [this]; rfl
theorem crt01 (M A B F O:Nat) {r:Nat→Nat} (h:r 0=0∧r 1=1):(List.range 2).map (crt (exP M A B F O 0 1) r)=[1,2]:=by
 have e:(List.range 2).map (crt (exP M A B F O 0 1) r)=[crt (exP M A B F O 0 1) r 0,crt (exP M A B F O 0 1) r 1]:=rfl;have k0:crt (exP M A B F O 0 1) r 0=r 0+1:=rfl;have k1:crt (exP M A B F O 0 1) r 1=r 1+1:=rfl;rw [e,k0,k1,h.1,h.2]
theorem awake_any (w:World):Calls Tryz.prog 8 #[] w (Ret (.bool true) w):=by
 have o0:(0:Int)=0∨(0:Int)=1:=.inl rfl;have o1:(1:Int)=0∨(1:Int)=1:=.inr rfl;have HX10:=hid (fun (W:World)=>example_any 1 0 W);have HX01:=hid (fun (W:World)=>example_any 0 1 W);have HGR:=hid (fun (M A B F O:Nat) (W:World) (h:Lies W W.heap.size (exP M A B F O 1 0))=>graph_any _ (ex_fits M A B F O 1 0 o1 o0) (ex_ok M A B F O 1 0 o1 o0) W h);have HSU:=hid (fun (M A B F O:Nat) (W:World) (h:Lies W W.heap.size (exP M A B F O 1 0))=>suspects_any _ (ex_fits M A B F O 1 0 o1 o0) (ex_ok M A B F O 1 0 o1 o0) W h);have HC10:=hid (fun (M A B F O:Nat) (W:World) (h:Lies W W.heap.size (exP M A B F O 1 0))=>certify_any _ (ex_fits M A B F O 1 0 o1 o0) (ex_ok M A B F O 1 0 o1 o0) W h)
 have HC01:=hid (fun (M A B F O:Nat) (W:World) (h:Lies W W.heap.size (exP M A B F O 0 1))=>certify_any _ (ex_fits M A B F O 0 1 o0 o1) (ex_ok M A B F O 0 1 o0 o1) W h);have HVE:=hid (fun (M A B F O:Nat) (Ar:Option Addr) (c:Nat) (W:World) (h:Lies W W.heap.size (exP M A B F O 0 1)) (hr:Rd W W.heap.size 1 Ar 2 (i64s [1,2]))=>verify_any _ (ex_fits M A B F O 0 1 o0 o1) (ex_ok M A B F O 0 1 o0 o1) 1 Ar c [1,2] W h hr);clear o0 o1;unfold Prg.val at HX10 HX01 HGR HSU HC10 HC01 HVE;go_enter Tryz.func8,Tryz.ntmps8;have HX:=hid (HX10.out w);go_wp2_with fail;refine HX.out.mono ?_;rintro e w1 ⟨M,A,B,F,O,rfl,hL,hb1⟩;have HG:=hid (HGR.out M A B F O w1 hL);clear HX hL HGR;go_wp2_with fail;refine HG.out.mono ?_;rintro e w2 ⟨v,rfl,hE,hb2⟩;rw [ex_graph10] at hE;have hw2:=hb1.trans (hb2.mono hb1.size);obtain ⟨A1,c1,rfl,hE1⟩:=own_eds hE
 clear HG hE hb1 hb2;have HX:=hid (HX10.out w2);go_wp2_with fail;refine HX.out.mono ?_;rintro e w3 ⟨M,A,B,F,O,rfl,hL,hb3⟩;have HG:=hid (HSU.out M A B F O w3 hL);clear HX hL HSU;go_wp2_with fail;refine HG.out.mono ?_;rintro e w4 ⟨v,rfl,hS,hb4⟩;rw [ex_graph10,show (exP M A B F O 1 0).obs.length=2 from rfl,show ([(0,1),(1,0)]:List (Nat × Nat))=g10 from rfl,susp10] at hS;obtain ⟨A2,c2,rfl,hS4⟩:=hS.nls;have hb24:=hb3.trans (hb4.mono hb3.size);have hE4:Eds w4 w4.heap.size A1 [(0,1),(1,0)]:=Rd.more (hE1.below hb24) hb24.size;have hw4:=hw2.trans (hb24.mono hw2.size);clear HG hS hb3 hb4 hb24 hw2 hE1;have HX:=hid (HX10.out w4);go_wp2_with fail;refine HX.out.mono ?_;rintro e w5 ⟨M,A,B,F,O,rfl,hL,hb5⟩;have HG:=hid (HC10.out M A B F O w5 hL);clear HX HX10 hL HC10;go_wp2_with fail;refine HG.out.mono ?_
 rintro e w6 ⟨v,kk,cc,rfl,hb6,⟨rfl,rfl,r,⟨o,ht,-⟩,-⟩ | ⟨rfl,rfl,rfl,-⟩⟩
 ·rw [ex_graph10] at ht
  exact absurd ring10 (ht.noRing range10)
 have hb46:=hb5.trans (hb6.mono hb5.size);have hE6:Eds w6 w6.heap.size A1 [(0,1),(1,0)]:=Rd.more (hE4.below hb46) hb46.size;have hS6:=(hS4.below' hb46 (Nat.le_refl _)).more hb46.size;have hw6:=hw4.trans (hb46.mono hw4.size);clear HG hb5 hb6 hb46 hw4 hE4 hS4;go_upto_region 4 with fail;have hba:=below_alloc w6 (.cells #[.int .i64 0,.slice none 0 0] 29);have hE7:Eds (w6.alloc (.cells #[.int .i64 0,.slice none 0 0] 29)) (w6.alloc (.cells #[.int .i64 0,.slice none 0 0] 29)).heap.size A1 [(0,1),(1,0)]:=Rd.more (hE6.below hba) hba.size;have hS7:=(hS6.below' hba (Nat.le_refl _)).more hba.size;have hw7:=hw6.trans (hba.mono hw6.size);clear hba hE6 hS6 hw6;generalize w6.alloc _=w7 at hE7 hS7 hw7 ⊢;have HX:=hid (HX01.out w7);go_wp2_with fail;refine HX.out.mono ?_;rintro e w8 ⟨M,A,B,F,O,rfl,hL,hb8⟩;have HG:=hid (HC01.out M A B F O w8 hL);clear HX hL HC01
 go_wp2_with fail;refine HG.out.mono ?_;rintro e w9 ⟨v,kk,cc,rfl,hb9,⟨rfl,rfl,r,hr,hown⟩ | ⟨rfl,rfl,rfl,hst⟩⟩
 case' inr=>
  rw [ex_graph01] at hst;exact (stuck01 hst).elim
 rw [ex_graph01] at hr;change w9.ownsRow w8.heap.size 3 1 v 2 (natC ((List.range 2).map (crt (exP M A B F O 0 1) r))) at hown;rw [crt01 M A B F O (rank01 hr)] at hown;obtain ⟨Ar,Cr,rfl⟩:=own_form hown;have hrd:=Rd.of_own hown;have hb79:=hb8.trans (hb9.mono hb8.size);have hE9:Eds w9 w9.heap.size A1 [(0,1),(1,0)]:=Rd.more (hE7.below hb79) hb79.size;have hS9:=(hS7.below' hb79 (Nat.le_refl _)).more hb79.size;have hw9:=hw7.trans (hb79.mono hw7.size);clear HG hb8 hb9 hb79 hw7 hE7 hS7 hr hown;go_upto_region 5 with fail;have hba:=below_alloc w9 (.cells #[.int .i64 1,.slice Ar 2 Cr] 29);have hbx:=bx_new2 w9 (.int .i64 1) (.slice Ar 2 Cr) 29;obtain ⟨rb,ro,rfl,hrb,hrc⟩:=Rd.addr hrd (by omega);have hE10:Eds (w9.alloc (.cells #[.int .i64 1,.slice (some ⟨rb,ro,none⟩) 2 Cr] 29)) w9.heap.size A1 [(0,1),(1,0)]:=hE9.below hba
 have hS10:=hS9.below' hba (Nat.le_refl _);have hR10:=hrd.below' hba (Nat.le_refl _);have hw10:=hw9.trans (hba.mono hw9.size);have hz10:=hba.size;have hzC:w9.heap.size<(w9.alloc (.cells #[.int .i64 1,.slice (some ⟨rb,ro,none⟩) 2 Cr] 29)).heap.size:=by simp
 clear hba hE9 hS9 hrd hrc hw9;generalize w9.alloc _=wa at hbx hE10 hS10 hR10 hw10 hz10 hzC ⊢;generalize w9.heap.size=C at hbx hE10 hS10 hR10 hrb hz10 hzC ⊢;have hEa:Eds wa wa.heap.size A1 [(0,1),(1,0)]:=Rd.more hE10 hz10;have hSa:=hS10.more hz10;have hRa:=Rd.more hR10 hz10;clear hE10 hS10 hR10 hrb;refine wp_region_held_drew (S:=fun W=>(W.cell? ⟨C,0,none⟩=some (.int .i64 1)∧W.cell? ⟨C,1,none⟩=some (.slice (some ⟨rb,ro,none⟩) 2 Cr))∧Below wa.heap.size wa W) (by kernel_rfl) ⟨⟨hbx.1,hbx.2⟩,(Below.refl _ _).drew⟩ (fun hHeld=>?_)
 have HKB:∀ W W':World,((W.cell? ⟨C,0,none⟩=some (.int .i64 1)∧W.cell? ⟨C,1,none⟩=some (.slice (some ⟨rb,ro,none⟩) 2 Cr))∧Below wa.heap.size wa W)→Below W.heap.size W W'→((W'.cell? ⟨C,0,none⟩=some (.int .i64 1)∧W'.cell? ⟨C,1,none⟩=some (.slice (some ⟨rb,ro,none⟩) 2 Cr))∧Below wa.heap.size wa W'):=fun W W' h hb=>
  ⟨⟨(hb.cell (block_lt_of_cell h.1.1)).trans h.1.1,(hb.cell (block_lt_of_cell h.1.2)).trans h.1.2⟩,h.2.trans (hb.mono h.2.size)⟩
 generalize wa.drew=wd at hHeld ⊢;have HE:=hid (edEqual_same A1 c1 (some ⟨wd.heap.size,0,none⟩) 2 [(0,1),(1,0)] (by decide) (wd.alloc (.cells #[.int .i64 0,.int .i64 1,.int .i64 1,.int .i64 0] 47)) (Rd.more (hEa.below (hHeld.2.trans (below_alloc2 hHeld.2.size _))) (by have:=hHeld.2.size; simp; omega)) (rd_block (heap_alloc_new _ _) rfl rfl))
 have HL:=hid (fun (W:World) (hb:Below wa.heap.size wa W)=>sameLists_same A2 c2 (some ⟨W.heap.size+1,0,none⟩) 1 [[0,1]] (by decide) (by decide) ((W.alloc (.cells #[.int .i64 0,.int .i64 1] 3)).alloc (.cells #[.slice (some ⟨W.heap.size,0,none⟩) 2 2] 27))
  ((hSa.below' ((hb.trans (below_alloc2 hb.size _)).trans (below_alloc2 (by have:=hb.size; simp; omega) _)) (Nat.le_refl _)).more (by have:=hb.size; simp; omega))
  ⟨[.slice (some ⟨W.heap.size,0,none⟩) 2 2],rd_block (by have:=heap_alloc_new (W.alloc (.cells #[.int .i64 0,.int .i64 1] 3)) (.cells #[.slice (some ⟨W.heap.size,0,none⟩) 2 2] 27); rwa [World.size_alloc] at this) rfl rfl,fun i c hc=>by
   match i,hc with
   | 0,hc=>
    have:c=[0,1]:=by simpa using hc.symm
    subst this;exact ⟨_,_,rfl,rd_block ((heap_alloc_old _ _ (by simp)).trans (heap_alloc_new _ _)) rfl rfl⟩
   | i+1,hc=>simp at hc⟩)
 have HI:=hid (fun (W:World) (hb:Below wa.heap.size wa W)=>Tryz.slices_Equal_int rb ro 2 Cr W.heap.size 0 2 2 [1,2] [1,2] (W.alloc (.cells #[.int .i64 1,.int .i64 2] 3)) (by decide) (by decide) (by decide) (by decide) (fun j hj=>by
   obtain ⟨b',o',e',-,hc'⟩:=Rd.addr (hRa.below' (hb.trans (below_alloc2 hb.size (.cells #[.int .i64 1,.int .i64 2] 3))) (Nat.le_refl _)) (by omega);injection e' with e';injection e' with e1 e2;subst e1; subst e2
   match j,hj with
   | 0,_=>exact hc' 0 _ rfl
   | 1,_=>exact hc' 1 _ rfl) (fun j hj=>by
   have hx:=bx_new2 W (.int .i64 1) (.int .i64 2) 3
   match j,hj with
   | 0,_=>exact hx.1
   | 1,_=>exact hx.2))
 have HV:=hid (fun (M A B F O:Nat) (W:World) (h:Lies W W.heap.size (exP M A B F O 0 1)) (hb:Below wa.heap.size wa W)=>(by
  have hq:=HVE.out M A B F O (some ⟨rb,ro,none⟩) Cr W h (Rd.more (hRa.below' hb (Nat.le_refl _)) hb.size);rw [ver01] at hq;exact hq))
 clear HVE hEa hSa hRa hbx;refine tkH 0 rfl ?_;try simp only [frS,Act.put]
 refine tkH 1 rfl ?_;try simp only [frS,Act.put]
 refine tkH 2 rfl ?_;try simp only [frS,Act.put]
 refine tkH 3 rfl ?_;try simp only [frS,Act.put]
 refine tkH 4 rfl ?_;try simp only [frS,Act.put]
 refine tkH 5 rfl ?_;try simp only [frS,Act.put]
 refine tkH 6 rfl ?_;try simp only [frS,Act.put]
 refine tkH 7 rfl ?_;try simp only [frS,Act.put]
 refine tkH 8 rfl ?_;try simp only [frS,Act.put]
 refine tkH 9 rfl ?_;try simp only [frS,Act.put]
 refine tkH 10 rfl ?_;try simp only [frS,Act.put]
 refine tkH 11 rfl ?_;try simp only [frS,Act.put]
 refine tkH 12 rfl ?_;try simp only [frS,Act.put]
 refine tkH 13 rfl ?_;try simp only [frS,Act.put]
 refine tkH 14 rfl ?_;try simp only [frS,Act.put]
 refine tkH 15 rfl ?_;try simp only [frS,Act.put]
 refine tkH 16 rfl ?_;try simp only [frS,Act.put]
 refine tkH 17 rfl ?_;try simp only [frS,Act.put]
 refine rdH 18 rfl fun K hK=>?_
 go_simp;refine hK.out _ _ ?_ (fun hHeld=>?_)
 ·exact HKB _ _ hHeld (below_alloc _ _)
 clear hK K;try simp only [frS,Act.put]
 refine rdH 19 rfl fun K hK=>?_
 go_simp;refine HE.out.mono ?_;rintro e W2 ⟨rfl,hb2⟩
 try dsimp only
 refine hK.out _ _ ?_ (fun hHeld=>?_)
 ·exact HKB _ _ hHeld hb2
 clear hK K;try simp only [frS,Act.put]
 refine tkH 20 rfl ?_;try simp only [frS,Act.put]
 refine tkH 21 rfl ?_;try simp only [frS,Act.put]
 refine tkH 22 rfl ?_;try simp only [frS,Act.put]
 refine rdH 23 rfl fun K hK=>?_
 have hB2:=hHeld.2;go_simp;refine hK.out _ _ ?_ (fun hHeld=>?_)
 ·exact HKB _ _ hHeld (below_alloc _ _)
 clear hK K;try simp only [frS,Act.put]
 refine rdH 24 rfl fun K hK=>?_
 go_simp;refine hK.out _ _ ?_ (fun hHeld=>?_)
 ·exact HKB _ _ hHeld (below_alloc _ _)
 clear hK K;try simp only [frS,Act.put]
 refine rdH 25 rfl fun K hK=>?_
 go_simp;refine (HL.out W2 hB2).mono ?_;rintro e W5 ⟨rfl,hb5⟩
 try dsimp only
 refine hK.out _ _ ?_ (fun hHeld=>?_)
 ·exact HKB _ _ hHeld hb5
 clear hK K;try simp only [frS,Act.put]
 refine tkH 26 rfl ?_;try simp only [frS,Act.put]
 refine tkH 27 rfl ?_;try simp only [frS,Act.put]
 refine tkH 28 rfl ?_;try simp only [frS,Act.put]
 refine tkH 29 rfl ?_;try simp only [frS,Act.put]
 refine rdH 30 rfl fun K hK=>?_
 have hB5:=hHeld.2;go_simp;refine hK.out _ _ ?_ (fun hHeld=>?_)
 ·exact HKB _ _ hHeld (below_alloc _ _)
 clear hK K;try simp only [frS,Act.put]
 refine rdH 31 rfl fun K hK=>?_
 go_simp;refine (HI.out W5 hB5).mono ?_;rintro e W6 ⟨rfl,q6,rfl⟩
 try dsimp only
 refine hK.out _ _ ?_ (fun hHeld=>?_)
 ·exact HKB _ _ hHeld ⟨rfl,rfl,rfl,Nat.le_refl _,fun _ _=>rfl⟩
 clear hK K;try simp only [frS,Act.put]
 refine tkH 32 rfl ?_;try simp only [frS,Act.put]
 refine tkH 33 rfl ?_;try simp only [frS,Act.put]
 refine tkH 35 rfl ?_;try simp only [frS,Act.put]
 refine rdH 34 rfl fun K hK=>?_
 go_simp;refine (HX01.out _).mono ?_;rintro e W7 ⟨M,A,B,F,O,rfl,hL7,hb7⟩
 try dsimp only
 refine hK.out _ _ ?_ (fun hHeld=>?_)
 ·exact HKB _ _ hHeld hb7
 clear hK K;try simp only [frS,Act.put]
 refine rdH 36 rfl fun K hK=>?_
 have hB7:=hHeld.2;go_simp;refine (HV.out M A B F O W7 hL7 hB7).mono ?_;rintro e W8 ⟨rfl,hb8⟩
 try dsimp only
 refine hK.out _ _ ?_ (fun hHeld=>?_)
 ·exact HKB _ _ hHeld hb8
 clear hK K;try simp only [frS,Act.put]
 refine tkH 37 rfl ?_;try simp only [frS,Act.put]
 refine tkH 38 rfl ?_;try simp only [frS,Act.put]
 refine tkH 39 rfl ?_;try simp only [List.getElem_toArray,List.getElem_cons_succ,List.getElem_cons_zero,Act.put,List.setIfInBounds_toArray,List.set_cons_zero]
 refine wpAnyH_done (by kernel_rfl) ?_ _
 try dsimp only [Exit.then]
 go_wp2_with fail;go_ret;exact ⟨rfl,hw10.trans (hHeld.2.mono hw10.size)⟩
end Go.Proofs.YtkpjdanfpolimaaGreat
