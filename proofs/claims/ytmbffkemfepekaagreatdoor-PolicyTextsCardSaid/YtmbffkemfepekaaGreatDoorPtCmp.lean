/- cmp.Compare of two numbers, walked. Conditions: none. -/
import Derived.Test.YtmbffkemfepekaaGreatDoorPtTyp
import Derived.Deep.RegionHeld
import Derived.Sort.LotA
import Derived.Test.YtmbffkemfepekaaGreatDoorPtPolM
import Derived.Test.YtmbffkemfepekaaGreatDoorPtShelf
import Derived.Test.YtmbffkemfepekaaGreatDoorPtBdK
import Derived.Maps.AppendAt
namespace Go.Proofs.YtmbffkemfepekaaGreatDoor
open Go.RowKit
set_option maxRecDepth 100000
theorem isNaN_any (x:Int) (w:World):Calls Tryz.prog 65 #[.int .i64 x] w (RetP (.bool false) w):=by
 have e1:(x != x)=false:=by simp
 unfold RetP
 go_enter Tryz.func65,Tryz.ntmps65
 go_wp2_with fail
 go_ret
 exact ⟨rfl,rfl⟩
def cmpI (x y:Int):Int:=if x<y then -1 else if y<x then 1 else 0
theorem compare_any (x y:Int) (w:World):Calls Tryz.prog 38 #[.int .i64 x,.int .i64 y] w (RetP (.int .i64 (cmpI x y)) w):=by
 have HN:Hid (∀ (z:Int) (W:World),Calls Tryz.prog 65 #[.int .i64 z] W (RetP (.bool false) W)):=Lib.hid isNaN_any
 unfold RetP at HN ⊢
 by_cases h1:x<y
 ·have HV:Hid (cmpI x y = -1):=Lib.hid (by unfold cmpI; rw [if_pos h1])
  have e1:decide (x<y)=true:=decide_eq_true h1
  clear h1
  go_enter Tryz.func38,Tryz.ntmps38
  go_wp2_with (refine (HN.out _ _).mono ?_; rintro e5 w5 ⟨rfl,rfl⟩)
  go_ret
  exact ⟨by rw [HV.out]; rfl,rfl⟩
 ·have e1:decide (x<y)=false:=decide_eq_false h1
  by_cases h2:y<x
  ·have HV:Hid (cmpI x y=1):=Lib.hid (by unfold cmpI; rw [if_neg h1,if_pos h2])
   have e2:decide (y<x)=true:=decide_eq_true h2
   clear h1 h2
   go_enter Tryz.func38,Tryz.ntmps38
   go_wp2_with (refine (HN.out _ _).mono ?_; rintro e5 w5 ⟨rfl,rfl⟩)
   go_ret
   exact ⟨by rw [HV.out]; rfl,rfl⟩
  ·have HV:Hid (cmpI x y=0):=Lib.hid (by unfold cmpI; rw [if_neg h1,if_neg h2])
   have e2:decide (y<x)=false:=decide_eq_false h2
   clear h1 h2
   go_enter Tryz.func38,Tryz.ntmps38
   go_wp2_with (refine (HN.out _ _).mono ?_; rintro e5 w5 ⟨rfl,rfl⟩)
   go_ret
   exact ⟨by rw [HV.out]; rfl,rfl⟩
end Go.Proofs.YtmbffkemfepekaaGreatDoor

namespace Go.Proofs.YtmbffkemfepekaaGreatDoor
open Go.RowKit
set_option maxRecDepth 100000
theorem or2_any (g c:Nat) (x y:Int) (w:World) (c0:w.cell? ⟨g,0,none⟩=some (.int .i64 x)) (c1:w.cell? ⟨g,1,none⟩=some (.int .i64 y)):Calls Tryz.prog 37 #[.slice (some ⟨g,0,none⟩) 2 c] w (RetP (.int .i64 (if x≠0 then x else y)) w):=by
 unfold RetP
 go_enter Tryz.func37,Tryz.ntmps37
 go_wp2_with fail
 go_loopw [8] (fun r wr=>wr=w∧((r=.int .i64 0)∨(r=.int .i64 1∧x=0)∨(r=.int .i64 2∧x=0∧y=0))) (fun r _=>2 - (intOf r).toNat)
 case atStart=>exact ⟨rfl,.inl rfl⟩
 case round=>
  obtain ⟨rfl,rfl | ⟨rfl,rfl⟩ | ⟨rfl,rfl,rfl⟩⟩:=hrel
  ·by_cases hx:x=0
   ·subst hx
    go_wp2_with fail
    exact ⟨by simp,by decide⟩
   ·have e1:(x != 0)=true:=by simpa using hx
    go_wp2_with fail
    go_ret
    exact ⟨rfl,rfl⟩
  ·by_cases hy:y=0
   ·subst hy
    go_wp2_with fail
    exact ⟨by simp,by decide⟩
   ·have e1:(y != 0)=true:=by simpa using hy
    go_wp2_with fail
    go_ret
    exact ⟨rfl,rfl⟩
  ·go_wp2_with fail
   go_ret
   exact ⟨rfl,rfl⟩
end Go.Proofs.YtmbffkemfepekaaGreatDoor

namespace Go.Proofs.YtmbffkemfepekaaGreatDoor
open Go.RowKit
def orI (x y:Int):Int:=if x≠0 then x else y
def cmpRk (a b:Int × Int):Int:=orI (cmpI a.1 b.1) (cmpI a.2 b.2)
def Od1R (v:Int) (W:World):Ending→World→Prop:=fun e W'=>e=.returned (.int .i64 v)∧∃ o,W'=W.drew.alloc o
theorem or2_orI (g c:Nat) (x y:Int) (w:World) (c0:w.cell? ⟨g,0,none⟩=some (.int .i64 x)) (c1:w.cell? ⟨g,1,none⟩=some (.int .i64 y)):Calls Tryz.prog 37 #[.slice (some ⟨g,0,none⟩) 2 c] w (RetP (.int .i64 (orI x y)) w):=or2_any g c x y w c0 c1
set_option maxRecDepth 100000 in
set_option maxHeartbeats 3200000 in
theorem ord1_any (G gr off n cap:Nat) (rk:Nat→Int × Int) (x y:Nat) (hx:x<n) (hy:y<n) (W:World) (hG:W.cell? ⟨G,0,none⟩=some (.slice (some ⟨gr,off,none⟩) n cap))
  (hr:∀ i,i<n→W.cell? ⟨gr,off+i * 2,none⟩=some (.int .i64 (rk i).1)∧W.cell? ⟨gr,off+i * 2+1,none⟩=some (.int .i64 (rk i).2)) :
  Calls Tryz.prog 36 #[.int .i64 (x:Nat),.int .i64 (y:Nat),.pointer (some ⟨G,0,none⟩)] W (Od1R (cmpRk (rk x) (rk y)) W):=by
 have HC:Hid (∀ (a b:Int) (V:World),Calls Tryz.prog 38 #[.int .i64 a,.int .i64 b] V (RetP (.int .i64 (cmpI a b)) V)):=Lib.hid compare_any
 unfold RetP at HC
 obtain ⟨r1,r2⟩:=hr x hx
 obtain ⟨r3,r4⟩:=hr y hy
 have hx0:(0:Int)≤(x:Int):=by omega
 have hy0:(0:Int)≤(y:Int):=by omega
 have hxn:(x:Int)<(n:Int):=by omega
 have hyn:(y:Int)<(n:Int):=by omega
 have h0:W.drew.cell? ⟨G,0,none⟩=_:=hG
 have h1:W.drew.cell? ⟨gr,off+x * 2,none⟩=_:=r1
 have h2:W.drew.cell? ⟨gr,off+x * 2+1,none⟩=_:=r2
 have h3:W.drew.cell? ⟨gr,off+y * 2,none⟩=_:=r3
 have h4:W.drew.cell? ⟨gr,off+y * 2+1,none⟩=_:=r4
 clear hr hG r1 r2 r3 r4
 unfold cmpRk
 go_enter Tryz.func36,Tryz.ntmps36
 go_upto_region 1 with fail
 refine wp_region_held_drew (S:=fun w'=>w'.cell? ⟨G,0,none⟩=some (.slice (some ⟨gr,off,none⟩) n cap)∧w'.cell? ⟨gr,off+x * 2,none⟩=some (.int .i64 (rk x).1)∧w'.cell? ⟨gr,off+x * 2+1,none⟩=some (.int .i64 (rk x).2)∧w'.cell? ⟨gr,off+y * 2,none⟩=some (.int .i64 (rk y).1)∧w'.cell? ⟨gr,off+y * 2+1,none⟩=some (.int .i64 (rk y).2)) (by kernel_rfl) ⟨h0,h1,h2,h3,h4⟩ (fun hHeld=>?_)
 generalize hW0:W.drew=W0 at h0 h1 h2 h3 h4 hHeld ⊢
 have HW0:=Lib.hid hW0
 clear hW0
 refine wpAnyH_take (i:=0) (v:=?_) rfl (by kernel_rfl) (by kernel_rfl) (by kernel_rfl) (fun _ _ _ h=>h) (Or.inl ⟨by kernel_rfl,?_⟩) (by assumption) ?_
 rotate_left
 ·intro w hSw; (try dsimp only at hSw); go_simp; with_reducible rfl
 try simp only [List.getElem_toArray,List.getElem_cons_zero,Act.put,List.setIfInBounds_toArray,List.set_cons_zero,List.set_cons_succ]
 refine wpAnyH_take (i:=1) (v:=?_) rfl (by kernel_rfl) (by kernel_rfl) (by kernel_rfl) (fun _ _ _ h=>h) (Or.inl ⟨by kernel_rfl,?_⟩) (by assumption) ?_
 rotate_left
 ·intro w hSw; (try dsimp only at hSw); go_simp; with_reducible rfl
 try simp only [List.getElem_toArray,List.getElem_cons_succ,List.getElem_cons_zero,Act.put,List.setIfInBounds_toArray,List.set_cons_zero,List.set_cons_succ]
 refine wpAnyH_take (i:=2) (v:=?_) rfl (by kernel_rfl) (by kernel_rfl) (by kernel_rfl) (fun _ _ _ h=>h) (Or.inl ⟨by kernel_rfl,?_⟩) (by assumption) ?_
 rotate_left
 ·intro w hSw; (try dsimp only at hSw); go_simp; with_reducible rfl
 try simp only [List.getElem_toArray,List.getElem_cons_succ,List.getElem_cons_zero,Act.put,List.setIfInBounds_toArray,List.set_cons_zero,List.set_cons_succ]
 refine wpAnyH_take (i:=3) (v:=?_) rfl (by kernel_rfl) (by kernel_rfl) (by kernel_rfl) (fun _ _ _ h=>h) (Or.inl ⟨by kernel_rfl,?_⟩) (by assumption) ?_
 rotate_left
 ·intro w hSw; (try dsimp only at hSw); go_simp; with_reducible rfl
 try simp only [List.getElem_toArray,List.getElem_cons_succ,List.getElem_cons_zero,Act.put,List.setIfInBounds_toArray,List.set_cons_zero,List.set_cons_succ]
 refine wpAnyH_take (i:=4) (v:=?_) rfl (by kernel_rfl) (by kernel_rfl) (by kernel_rfl) (fun _ _ _ h=>h) (Or.inl ⟨by kernel_rfl,?_⟩) (by assumption) ?_
 rotate_left
 ·intro w hSw; (try dsimp only at hSw); go_simp; with_reducible rfl
 try simp only [List.getElem_toArray,List.getElem_cons_succ,List.getElem_cons_zero,Act.put,List.setIfInBounds_toArray,List.set_cons_zero,List.set_cons_succ]
 refine wpAnyH_take (i:=5) (v:=?_) rfl (by kernel_rfl) (by kernel_rfl) (by kernel_rfl) (fun _ _ _ h=>h) (Or.inl ⟨by kernel_rfl,?_⟩) (by assumption) ?_
 rotate_left
 ·intro w hSw; (try dsimp only at hSw); go_simp; with_reducible rfl
 try simp only [List.getElem_toArray,List.getElem_cons_succ,List.getElem_cons_zero,Act.put,List.setIfInBounds_toArray,List.set_cons_zero,List.set_cons_succ]
 refine wpAnyH_take (i:=6) (v:=?_) rfl (by kernel_rfl) (by kernel_rfl) (by kernel_rfl) (fun _ _ _ h=>h) (Or.inl ⟨by kernel_rfl,?_⟩) (by assumption) ?_
 rotate_left
 ·intro w hSw; (try dsimp only at hSw); go_simp; with_reducible rfl
 try simp only [List.getElem_toArray,List.getElem_cons_succ,List.getElem_cons_zero,Act.put,List.setIfInBounds_toArray,List.set_cons_zero,List.set_cons_succ]
 refine wpAnyH_take (i:=7) (v:=?_) rfl (by kernel_rfl) (by kernel_rfl) (by kernel_rfl) (fun _ _ _ h=>h) (Or.inl ⟨by kernel_rfl,?_⟩) (by assumption) ?_
 rotate_left
 ·intro w hSw; (try dsimp only at hSw); go_simp; with_reducible rfl
 try simp only [List.getElem_toArray,List.getElem_cons_succ,List.getElem_cons_zero,Act.put,List.setIfInBounds_toArray,List.set_cons_zero,List.set_cons_succ]
 refine wpAnyH_take (i:=8) (v:=?_) rfl (by kernel_rfl) (by kernel_rfl) (by kernel_rfl) (fun _ _ _ h=>h) (Or.inl ⟨by kernel_rfl,?_⟩) (by assumption) ?_
 rotate_left
 ·intro w hSw; (try dsimp only at hSw); go_simp; with_reducible rfl
 try simp only [List.getElem_toArray,List.getElem_cons_succ,List.getElem_cons_zero,Act.put,List.setIfInBounds_toArray,List.set_cons_zero,List.set_cons_succ]
 refine wpAnyH_take (i:=9) (v:=?_) rfl (by kernel_rfl) (by kernel_rfl) (by kernel_rfl) (fun _ _ _ h=>h) (Or.inl ⟨by kernel_rfl,?_⟩) (by assumption) ?_
 rotate_left
 ·intro w hSw; (try dsimp only at hSw); go_simp; with_reducible rfl
 try simp only [List.getElem_toArray,List.getElem_cons_succ,List.getElem_cons_zero,Act.put,List.setIfInBounds_toArray,List.set_cons_zero,List.set_cons_succ]
 refine wpAnyH_take (i:=11) (v:=?_) rfl (by kernel_rfl) (by kernel_rfl) (by kernel_rfl) (fun _ _ _ h=>h) (Or.inl ⟨by kernel_rfl,?_⟩) (by assumption) ?_
 rotate_left
 ·intro w hSw; (try dsimp only at hSw); go_simp; with_reducible rfl
 try simp only [List.getElem_toArray,List.getElem_cons_succ,List.getElem_cons_zero,Act.put,List.setIfInBounds_toArray,List.set_cons_zero,List.set_cons_succ]
 refine wpAnyH_take (i:=12) (v:=?_) rfl (by kernel_rfl) (by kernel_rfl) (by kernel_rfl) (fun _ _ _ h=>h) (Or.inl ⟨by kernel_rfl,?_⟩) (by assumption) ?_
 rotate_left
 ·intro w hSw; (try dsimp only at hSw); go_simp; with_reducible rfl
 try simp only [List.getElem_toArray,List.getElem_cons_succ,List.getElem_cons_zero,Act.put,List.setIfInBounds_toArray,List.set_cons_zero,List.set_cons_succ]
 refine wpAnyH_take (i:=13) (v:=?_) rfl (by kernel_rfl) (by kernel_rfl) (by kernel_rfl) (fun _ _ _ h=>h) (Or.inl ⟨by kernel_rfl,?_⟩) (by assumption) ?_
 rotate_left
 ·intro w hSw; (try dsimp only at hSw); go_simp; with_reducible rfl
 try simp only [List.getElem_toArray,List.getElem_cons_succ,List.getElem_cons_zero,Act.put,List.setIfInBounds_toArray,List.set_cons_zero,List.set_cons_succ]
 refine wpAnyH_take (i:=14) (v:=?_) rfl (by kernel_rfl) (by kernel_rfl) (by kernel_rfl) (fun _ _ _ h=>h) (Or.inl ⟨by kernel_rfl,?_⟩) (by assumption) ?_
 rotate_left
 ·intro w hSw; (try dsimp only at hSw); go_simp; with_reducible rfl
 try simp only [List.getElem_toArray,List.getElem_cons_succ,List.getElem_cons_zero,Act.put,List.setIfInBounds_toArray,List.set_cons_zero,List.set_cons_succ]
 refine wpAnyH_take (i:=15) (v:=?_) rfl (by kernel_rfl) (by kernel_rfl) (by kernel_rfl) (fun _ _ _ h=>h) (Or.inl ⟨by kernel_rfl,?_⟩) (by assumption) ?_
 rotate_left
 ·intro w hSw; (try dsimp only at hSw); go_simp; with_reducible rfl
 try simp only [List.getElem_toArray,List.getElem_cons_succ,List.getElem_cons_zero,Act.put,List.setIfInBounds_toArray,List.set_cons_zero,List.set_cons_succ]
 refine wpAnyH_take (i:=16) (v:=?_) rfl (by kernel_rfl) (by kernel_rfl) (by kernel_rfl) (fun _ _ _ h=>h) (Or.inl ⟨by kernel_rfl,?_⟩) (by assumption) ?_
 rotate_left
 ·intro w hSw; (try dsimp only at hSw); go_simp; with_reducible rfl
 try simp only [List.getElem_toArray,List.getElem_cons_succ,List.getElem_cons_zero,Act.put,List.setIfInBounds_toArray,List.set_cons_zero,List.set_cons_succ]
 refine wpAnyH_take (i:=17) (v:=?_) rfl (by kernel_rfl) (by kernel_rfl) (by kernel_rfl) (fun _ _ _ h=>h) (Or.inl ⟨by kernel_rfl,?_⟩) (by assumption) ?_
 rotate_left
 ·intro w hSw; (try dsimp only at hSw); go_simp; with_reducible rfl
 try simp only [List.getElem_toArray,List.getElem_cons_succ,List.getElem_cons_zero,Act.put,List.setIfInBounds_toArray,List.set_cons_zero,List.set_cons_succ]
 refine wpAnyH_take (i:=18) (v:=?_) rfl (by kernel_rfl) (by kernel_rfl) (by kernel_rfl) (fun _ _ _ h=>h) (Or.inl ⟨by kernel_rfl,?_⟩) (by assumption) ?_
 rotate_left
 ·intro w hSw; (try dsimp only at hSw); go_simp; with_reducible rfl
 try simp only [List.getElem_toArray,List.getElem_cons_succ,List.getElem_cons_zero,Act.put,List.setIfInBounds_toArray,List.set_cons_zero,List.set_cons_succ]
 refine wpAnyH_take (i:=19) (v:=?_) rfl (by kernel_rfl) (by kernel_rfl) (by kernel_rfl) (fun _ _ _ h=>h) (Or.inl ⟨by kernel_rfl,?_⟩) (by assumption) ?_
 rotate_left
 ·intro w hSw; (try dsimp only at hSw); go_simp; with_reducible rfl
 try simp only [List.getElem_toArray,List.getElem_cons_succ,List.getElem_cons_zero,Act.put,List.setIfInBounds_toArray,List.set_cons_zero,List.set_cons_succ]
 refine wpAnyH_take (i:=20) (v:=?_) rfl (by kernel_rfl) (by kernel_rfl) (by kernel_rfl) (fun _ _ _ h=>h) (Or.inl ⟨by kernel_rfl,?_⟩) (by assumption) ?_
 rotate_left
 ·intro w hSw; (try dsimp only at hSw); go_simp; with_reducible rfl
 try simp only [List.getElem_toArray,List.getElem_cons_succ,List.getElem_cons_zero,Act.put,List.setIfInBounds_toArray,List.set_cons_zero,List.set_cons_succ]
 refine wpAnyH_ready (rs:=[10]) (by kernel_rfl) (by simp) ?_
 refine AllReadyH.cons rfl (fun K hK=>?_) AllReadyH.nil
 go_simp
 refine (HC.out (rk x).1 (rk y).1 _).mono ?_
 rintro e W5 ⟨rfl,hw5⟩
 obtain rfl:W0=W5:=hw5.symm
 try dsimp only
 refine hK.out _ _ ?_ (fun hHeld=>?_)
 ·exact hHeld
 clear hK K
 try simp only [List.getElem_toArray,List.getElem_cons_succ,List.getElem_cons_zero,Act.put,List.setIfInBounds_toArray,List.set_cons_zero,List.set_cons_succ]
 refine wpAnyH_ready (rs:=[21]) (by kernel_rfl) (by simp) ?_
 refine AllReadyH.cons rfl (fun K hK=>?_) AllReadyH.nil
 go_simp
 refine (HC.out (rk x).2 (rk y).2 _).mono ?_
 rintro e W5 ⟨rfl,hw5⟩
 obtain rfl:W0=W5:=hw5.symm
 try dsimp only
 refine hK.out _ _ ?_ (fun hHeld=>?_)
 ·exact hHeld
 clear hK K
 try simp only [List.getElem_toArray,List.getElem_cons_succ,List.getElem_cons_zero,Act.put,List.setIfInBounds_toArray,List.set_cons_zero,List.set_cons_succ]
 refine wpAnyH_ready (rs:=[22]) (by kernel_rfl) (by simp) ?_
 refine AllReadyH.cons rfl (fun K hK=>?_) AllReadyH.nil
 go_simp
 refine hK.out _ _ ?_ (fun hHeld=>?_)
 ·exact ⟨(World.cell?_alloc_lt _ _ _ (World.block_lt_of_cell? _ _ h0)).trans h0,(World.cell?_alloc_lt _ _ _ (World.block_lt_of_cell? _ _ h1)).trans h1,(World.cell?_alloc_lt _ _ _ (World.block_lt_of_cell? _ _ h2)).trans h2,(World.cell?_alloc_lt _ _ _ (World.block_lt_of_cell? _ _ h3)).trans h3,(World.cell?_alloc_lt _ _ _ (World.block_lt_of_cell? _ _ h4)).trans h4⟩
 clear hK K
 try simp only [List.getElem_toArray,List.getElem_cons_succ,List.getElem_cons_zero,Act.put,List.setIfInBounds_toArray,List.set_cons_zero,List.set_cons_succ]
 refine wpAnyH_ready (rs:=[23]) (by kernel_rfl) (by simp) ?_
 refine AllReadyH.cons rfl (fun K hK=>?_) AllReadyH.nil
 go_simp
 refine (or2_orI W0.heap.size 2 _ _ _ (bx_new W0 _ _ 0 _ rfl) (bx_new W0 _ _ 1 _ rfl)).mono ?_
 rintro e W5 ⟨rfl,hw5⟩
 subst hw5
 try dsimp only
 refine hK.out _ _ ?_ (fun hHeld=>?_)
 ·exact hHeld
 clear hK K
 try simp only [List.getElem_toArray,List.getElem_cons_succ,List.getElem_cons_zero,Act.put,List.setIfInBounds_toArray,List.set_cons_zero,List.set_cons_succ]
 refine wpAnyH_ready (rs:=[24]) (by kernel_rfl) (by simp) ?_
 refine AllReadyH.cons rfl (fun K hK=>?_) AllReadyH.nil
 go_simp
 refine hK.out _ _ ?_ (fun hHeld=>?_)
 ·exact hHeld
 clear hK K
 try simp only [List.getElem_toArray,List.getElem_cons_succ,List.getElem_cons_zero,Act.put,List.setIfInBounds_toArray,List.set_cons_zero,List.set_cons_succ]
 refine wpAnyH_done (by kernel_rfl) ?_ _
 try dsimp only [Exit.then]
 go_wp2_with fail
 go_ret
 exact ⟨rfl,_,congrArg (fun q=>World.alloc q _) HW0.out.symm⟩
end Go.Proofs.YtmbffkemfepekaaGreatDoor

namespace Go.Proofs.YtmbffkemfepekaaGreatDoor
open Go.Sort

/-- Less in rank; less in rank, or equal and ahead. -/
def ltR (a b:Int × Int):Bool:=decide (a.1<b.1) || (a.1 == b.1 && decide (a.2<b.2))
def ltS (a b:Int × Int) (x y:Nat):Bool:=ltR a b || (a == b && decide (x<y))
section
variable {n:Nat} (rk:Fin (n+1)→Int × Int)
def ltA (x y:Fin (n+1)):Bool:=ltR (rk x) (rk y)
def ltB (x y:Fin (n+1)):Bool:=ltS (rk x) (rk y) x.val y.val
theorem ltB_eq {x y:Fin (n+1)} (h:y.val<x.val):ltB rk x y=ltA rk x y:=by
 unfold ltB ltA ltS
 rw [decide_eq_false (by omega:¬ x.val<y.val)]
 simp
theorem ltB_iff (x y:Fin (n+1)):ltB rk x y=true↔(rk x).1<(rk y).1∨((rk x).1=(rk y).1∧((rk x).2<(rk y).2∨((rk x).2=(rk y).2∧x.val<y.val))):=by
 unfold ltB ltS ltR
 simp only [Bool.or_eq_true,Bool.and_eq_true,decide_eq_true_eq,beq_iff_eq,Prod.ext_iff]
 omega
theorem swoB:SWO (ltB rk) where
 irrefl x:=by
  cases h:ltB rk x x
  ·rfl
  ·rw [ltB_iff] at h; omega
 trans x y z h1 h2:=by
  rw [ltB_iff] at h1 h2 ⊢
  omega
 ntrans x y z h1 h2:=by
  cases h:ltB rk x z
  ·rfl
  ·have h1':¬ ltB rk x y=true:=by rw [h1]; decide
   have h2':¬ ltB rk y z=true:=by rw [h2]; decide
   rw [ltB_iff] at h1' h2' h
   omega
theorem totB (x y:Fin (n+1)) (h1:ltB rk x y=false) (h2:ltB rk y x=false):x=y:=by
 have h1':¬ ltB rk x y=true:=by rw [h1]; decide
 have h2':¬ ltB rk y x=true:=by rw [h2]; decide
 rw [ltB_iff] at h1' h2'
 apply Fin.ext
 omega
/-- One element on its way down, all others below it being lesser numbers: both orders move it alike. -/
theorem insInner_alike:∀ (j:Nat) (d:Array (Fin (n+1))),j<d.size→(∀ k,k<j→(d[k]!).val<(d[j]!).val)→insInner (ltA rk) 0 j d=insInner (ltB rk) 0 j d
 | 0,_,_,_=>rfl
 | j+1,d,hj,h=>by
  unfold insInner
  rw [ltB_eq rk (h j (by omega))]
  split
  ·refine insInner_alike j _ (by rw [Go.Sort.swp_size]; omega) fun k hk=>?_
   rw [swp_get d hj (by omega) k,swp_get d hj (by omega) j,if_neg (by omega),if_neg (by omega),if_pos rfl]
   exact h k (by omega)
  ·rfl
theorem insOuter_alike (m:Nat):∀ (k i:Nat) (d:Array (Fin (n+1))),m - i=k→m≤d.size→(∀ q,q<i→(d[q]!).val<i)→(∀ q,i≤q→q<d.size→(d[q]!).val=q)→SortedIn (ltB rk) 0 i d→insOuter (ltA rk) 0 m i d=insOuter (ltB rk) 0 m i d
 | 0,i,d,hk,hm,_,_,_=>by
  unfold insOuter
  rw [if_neg (by omega),if_neg (by omega)]
 | k+1,i,d,hk,hm,h1,h2,hs=>by
  have hi:i<m:=by omega
  rw [insOuter,if_pos hi,insInner_alike rk i d (by omega) (fun q hq=>by have:=h1 q hq; have:=h2 i (by omega) (by omega); omega)]
  have hp:=insInner_spec (lt:=ltB rk) (swoB rk) swp_permIn permIn_refl permIn_trans 0 (i+1) i (by omega) i d (Nat.zero_le _) (Nat.le_refl _) (by omega) ⟨fun p q hap hpq hqi _ hq=>hs p q hap hpq (by omega),fun q h1 h2=>by omega⟩
  rw [insOuter_alike m k (i+1) _ (by omega) (by rw [hp.1.1]; exact hm) (fun q hq=>permIn_all d _ 0 (i+1) (fun x=>x.val<i+1) (by omega) hp.1 (fun t _ ht=>?_) q (Nat.zero_le _) hq) (fun q hq1 hq2=>?_) hp.2]
  ·conv=>rhs; rw [insOuter,if_pos hi]
  ·by_cases e:t=i
   ·subst e; have:=h2 t (by omega) (by omega); omega
   ·have:=h1 t (by omega); omega
  ·rw [hp.1.1] at hq2
   rw [hp.1.2.1 q (.inr hq1)]
   exact h2 q (by omega) hq2
theorem extract_all {α:Type} (a:Array α) (m:Nat) (h:a.size=m):a.extract 0 m=a:=by subst h; simp
/-- The numbers up to n, in order. -/
def numsA (n:Nat):Array (Fin (n+1)):=Array.ofFn id
theorem numsA_size (n:Nat):(numsA n).size=n+1:=by simp [numsA]
theorem numsA_at (n q:Nat) (h:q<n+1):((numsA n)[q]!).val=q:=by
 rw [getElem!_pos _ q (by rw [numsA_size]; exact h)]
 simp [numsA]
theorem sorted_out:insertionSort (ltA rk) (numsA n) 0 (n+1)=insertionSort (ltB rk) (numsA n) 0 (n+1):=by
 unfold insertionSort
 refine insOuter_alike rk (n+1) _ (0+1) (numsA n) rfl (by rw [numsA_size]; omega) (fun q hq=>?_) (fun q hq1 hq2=>numsA_at n q (by rw [numsA_size] at hq2; exact hq2)) (fun i j h1 h2 h3=>by omega)
 rw [numsA_at n q (by omega)]; omega
/-- What comes out: the numbers below n + 1, each once, strictly in order. -/
theorem sorted_list:((insertionSort (ltA rk) (numsA n) 0 (n+1)).toList.map Fin.val).Perm (List.range (n+1))∧((insertionSort (ltA rk) (numsA n) 0 (n+1)).toList).Pairwise (fun x y=>ltB rk x y=true)∧(insertionSort (ltA rk) (numsA n) 0 (n+1)).size=n+1:=by
 rw [sorted_out]
 obtain ⟨hp,hs⟩:=insertionSort_holds (lt:=ltB rk) (swoB rk) (numsA n) 0 (n+1) (Nat.zero_le _) (by rw [numsA_size]; exact Nat.le_refl _)
 obtain ⟨h1,-,h3⟩:=hp
 rw [numsA_size] at h1
 have hall:(insertionSort (ltB rk) (numsA n) 0 (n+1)).toList.Perm (numsA n).toList:=by
  rwa [extract_all _ _ h1,extract_all _ _ (numsA_size n)] at h3
 have hr:(numsA n).toList.map Fin.val=List.range (n+1):=by
  apply List.ext_getElem
  ·simp [numsA]
  ·intro i h1 h2
   simp only [numsA,List.getElem_map,Array.getElem_toList,Array.getElem_ofFn,id,List.getElem_range]
 have hn:((insertionSort (ltB rk) (numsA n) 0 (n+1)).toList.map Fin.val).Perm (List.range (n+1)):=by
  rw [← hr]; exact hall.map _
 refine ⟨hn,?_,h1⟩
 have hnd:((insertionSort (ltB rk) (numsA n) 0 (n+1)).toList.map Fin.val).Nodup:=hn.nodup_iff.2 List.nodup_range
 rw [List.pairwise_iff_getElem]
 intro i j hi hj hij
 simp only [Array.length_toList] at hi hj
 have h9:=hs i j (Nat.zero_le _) hij (by omega)
 rw [getElem!_pos _ i hi,getElem!_pos _ j hj] at h9
 simp only [Array.getElem_toList]
 cases hb:ltB rk _ _ with
 | true=>rfl
 | false=>
  have e:=totB rk _ _ hb h9
  exfalso
  have h8:=(List.pairwise_iff_getElem.1 hnd) i j (by simpa using hi) (by simpa using hj) hij
  apply h8
  simp [e]
end
end Go.Proofs.YtmbffkemfepekaaGreatDoor

namespace Go.Proofs.YtmbffkemfepekaaGreatDoor

theorem perm_sorted_eq {α:Type} {r:α→α→Prop} (has:∀ x y,r x y→r y x→False):∀ {l m:List α},l.Perm m→l.Pairwise r→m.Pairwise r→l=m
 | [],m,hp,_,_=>by rw [List.nil_perm.1 hp]
 | a::l,[],hp,_,_=>absurd hp.length_eq (by simp)
 | a::l,b::m,hp,h1,h2=>by
  have h1':=List.pairwise_cons.1 h1
  have h2':=List.pairwise_cons.1 h2
  have hab:a=b:=by
   have ha:a∈b::m:=hp.mem_iff.1 (by simp)
   have hb:b∈a::l:=hp.mem_iff.2 (by simp)
   rcases List.mem_cons.1 ha with e | ha
   ·exact e
   ·rcases List.mem_cons.1 hb with e | hb
    ·exact e.symm
    ·exact (has _ _ (h1'.1 b hb) (h2'.1 a ha)).elim
  subst hab
  rw [perm_sorted_eq has (List.Perm.cons_inv hp) h1'.2 h2'.2]
/-- l is the order of preference of n things of those ranks. -/
structure IsOrd (n:Nat) (rk:Nat→Int × Int) (l:List Nat):Prop where
 perm:l.Perm (List.range n)
 sorted:l.Pairwise fun x y=>ltS (rk x) (rk y) x y=true
theorem ltS_iff (a b:Int × Int) (x y:Nat):ltS a b x y=true↔a.1<b.1∨(a.1=b.1∧(a.2<b.2∨(a.2=b.2∧x<y))):=by
 unfold ltS ltR
 simp only [Bool.or_eq_true,Bool.and_eq_true,decide_eq_true_eq,beq_iff_eq,Prod.ext_iff]
 omega
theorem ltS_asymm {a b:Int × Int} {x y:Nat} (h1:ltS a b x y=true) (h2:ltS b a y x=true):False:=by
 rw [ltS_iff] at h1 h2; omega
theorem IsOrd.unique {n:Nat} {rk:Nat→Int × Int} {l m:List Nat} (h1:IsOrd n rk l) (h2:IsOrd n rk m):l=m:=
 perm_sorted_eq (fun _ _=>ltS_asymm) (h1.perm.trans h2.perm.symm) h1.sorted h2.sorted
theorem IsOrd.len {n:Nat} {rk:Nat→Int × Int} {l:List Nat} (h:IsOrd n rk l):l.length=n:=by simpa using h.perm.length_eq
theorem IsOrd.mem {n:Nat} {rk:Nat→Int × Int} {l:List Nat} (h:IsOrd n rk l) {x:Nat} (hx:x∈l):x<n:=List.mem_range.1 (h.perm.mem_iff.1 hx)
theorem IsOrd.nodup {n:Nat} {rk:Nat→Int × Int} {l:List Nat} (h:IsOrd n rk l):l.Nodup:=h.perm.nodup_iff.2 List.nodup_range
/-- Only the order of ranks matters. -/
theorem IsOrd.congr {n:Nat} {rk rk':Nat→Int × Int} {l:List Nat} (h:IsOrd n rk l) (he:∀ x y,x<n→y<n→ltR (rk x) (rk y)=true→ltR (rk' x) (rk' y)=true) (hq:∀ x y,x<n→y<n→rk x=rk y→rk' x=rk' y):IsOrd n rk' l:=by
 refine ⟨h.perm,?_⟩
 have hm:∀ x∈l,x<n:=fun x hx=>h.mem hx
 have:=h.sorted
 refine List.Pairwise.imp_of_mem (fun {x y} hx hy hxy=>?_) this
 unfold ltS at hxy ⊢
 simp only [Bool.or_eq_true,Bool.and_eq_true,decide_eq_true_eq,beq_iff_eq] at hxy ⊢
 rcases hxy with h1 | ⟨h1,h2⟩
 ·exact .inl (he x y (hm x hx) (hm y hy) h1)
 ·exact .inr ⟨hq x y (hm x hx) (hm y hy) h1,h2⟩
/-- What the library's sort leaves, as a list of numbers. -/
theorem IsOrd.of_sort (n:Nat) (rk:Nat→Int × Int):IsOrd (n+1) rk ((Go.Sort.insertionSort (ltA fun x:Fin (n+1)=>rk x.val) (numsA n) 0 (n+1)).toList.map Fin.val):=by
 obtain ⟨h1,h2,h3⟩:=sorted_list (n:=n) (fun x=>rk x.val)
 refine ⟨h1,?_⟩
 rw [List.pairwise_map]
 exact h2
end Go.Proofs.YtmbffkemfepekaaGreatDoor

namespace Go.Proofs.YtmbffkemfepekaaGreatDoor
open Go.RowKit Go.Lib Go.Sort Go.Shelf
def encF {n:Nat} (x:Fin (n+1)):Value:=.int .i64 (x.val:Int)
def cfF (n:Nat) (rk:Nat→Int × Int) (x y:Fin (n+1)):Int:=cmpRk (rk x.val) (rk y.val)
theorem cmpRk_lt (a b:Int × Int):decide (cmpRk a b<0)=ltR a b:=by
 rw [Bool.eq_iff_iff]
 unfold cmpRk orI cmpI ltR
 simp only [decide_eq_true_eq,Bool.or_eq_true,Bool.and_eq_true,beq_iff_eq]
 repeat' split
 all_goals omega
theorem ltOf_rk (n:Nat) (rk:Nat→Int × Int):ltOf (cfF n rk)=ltA (fun x:Fin (n+1)=>rk x.val):=by
 funext x y
 exact cmpRk_lt _ _
theorem sw_cell {α:Type} [Inhabited α] {enc:α→Value} {w:World} {blk boff m:Nat} {dk:Array α} {os:Array Obj} {p:Addr} {v:Value} (h:w.cell? p=some v) (hb:p.block≠blk):(sortWorld enc w blk boff m dk os).cell? p=some v:=by
 have h1:(putRow enc (Go.Sort.ahead w m) blk boff dk).cell? p=some v:=by
  rw [cell?_putRow_other _ _ _ _ _ _ (.inl hb)]; exact h
 unfold sortWorld
 rw [cell?_grow _ _ _ (World.block_lt_of_cell? _ _ h1)]
 exact h1
theorem grow_one (w:World) (o:Obj):w.drew.alloc o=grow (w.drewN 1) #[o]:=by
 have e:(w.drewN 1)=w.drew:=rfl
 rw [e]
 unfold grow
 rw [Array.append_singleton]
 rfl
theorem cmp_lays (n:Nat) (rk:Nat→Int × Int) (G gr off cap blk boff:Nat) (w:World) (hG:w.cell? ⟨G,0,none⟩=some (.slice (some ⟨gr,off,none⟩) (n+1) cap))
  (hr:∀ i,i<n+1→w.cell? ⟨gr,off+i * 2,none⟩=some (.int .i64 (rk i).1)∧w.cell? ⟨gr,off+i * 2+1,none⟩=some (.int .i64 (rk i).2)) (h1:G≠blk) (h2:gr≠blk) :
  CmpLays1 Tryz.prog 36 #[.pointer (some ⟨G,0,none⟩)] (encF (n:=n)) (cfF n rk) blk boff (numsA n).size w:=by
 intro m os dk hs x y
 refine (ord1_any G gr off (n+1) cap rk x.val y.val x.isLt y.isLt _ (sw_cell hG h1) (fun i hi=>⟨sw_cell (hr i hi).1 h2,sw_cell (hr i hi).2 h2⟩)).mono ?_
 rintro e W' ⟨rfl,o,rfl⟩
 exact ⟨rfl,1,#[o],grow_one _ o⟩
set_option maxRecDepth 100000 in
theorem insNone_any (p:Option Addr) (cap:Nat) (fv:Value) (w:World) :
  Calls Tryz.prog 109 #[.slice p 0 cap,.int .i64 0,.int .i64 0,fv] w fun e w'=>e=.returned (.tuple #[])∧w'=w:=by
 go_enter Tryz.func109,Tryz.ntmps109
 go_wp2_with fail
 refine wp_loop_rounds 1 ?_
 rw [rounds_succ]
 go_wp2_with fail
 go_end0
 exact ⟨rfl,rfl⟩
set_option maxRecDepth 100000 in
theorem stableCmp_any (R:World→Ending→World→Prop) (A:Option Addr) (n cap:Nat) (fv:Value) (w:World) (hn:n<20) (hI:∀ W,W=w→Calls Tryz.prog 109 #[.slice A n cap,.int .i64 0,.int .i64 n,fv] W fun e w'=>e=.returned (.tuple #[])∧R w (.returned (.tuple #[])) w') :
  Calls Tryz.prog 64 #[.slice A n cap,.int .i64 n,fv] w fun e w'=>e=.returned (.tuple #[])∧R w (.returned (.tuple #[])) w':=by
 have HI:=Lib.hid (hI w rfl)
 have d1:decide ((20:Int)≤(n:Int))=false:=decide_eq_false (by omega)
 have d2:decide ((20:Int)<(n:Int))=false:=decide_eq_false (by omega)
 have d3:decide (20≤n)=false:=decide_eq_false (by omega)
 have d4:decide (20<n)=false:=decide_eq_false (by omega)
 generalize R w=RR at HI ⊢
 clear hI hn
 go_enter Tryz.func64,Tryz.ntmps64
 go_wp2_with fail
 refine wp_loop_rounds 1 ?_
 rw [rounds_succ]
 go_wp2_with fail
 refine HI.out.mono ?_
 rintro e w5 ⟨rfl,h5⟩
 have H5:=Lib.hid h5
 clear h5
 go_wp2_with fail
 refine wp_loop_rounds 1 ?_
 rw [rounds_succ]
 go_wp2_with fail
 go_end0
 exact ⟨rfl,H5.out⟩
/-- The numbers 0 .. n, sorted. -/
def SortedR (n:Nat) (rk:Nat→Int × Int) (blk:Nat) (w:World):Ending→World→Prop:=fun _ w'=>SW (encF (n:=n)) w blk 0 (Sort.insertionSort (ltA fun x:Fin (n+1)=>rk x.val) (numsA n) 0 (n+1)) w'
set_option maxRecDepth 100000 in
theorem stable_any (n:Nat) (hn:n<12) (rk:Nat→Int × Int) (G gr off cap blk bcap:Nat) (w:World) (hG:w.cell? ⟨G,0,none⟩=some (.slice (some ⟨gr,off,none⟩) (n+1) cap))
  (hr:∀ i,i<n+1→w.cell? ⟨gr,off+i * 2,none⟩=some (.int .i64 (rk i).1)∧w.cell? ⟨gr,off+i * 2+1,none⟩=some (.int .i64 (rk i).2)) (h1:G≠blk) (h2:gr≠blk)
  (hH:Holds (encF (n:=n)) w blk 0 (numsA n)) (hblk:blk<w.heap.size) :
  Calls Tryz.prog 35 #[.slice (some ⟨blk,0,none⟩) (n+1) bcap,.func (.func 36) #[] #[.pointer (some ⟨G,0,none⟩)]] w fun e w'=>e=.returned (.tuple #[])∧SortedR n rk blk w (.returned (.tuple #[])) w':=by
 have hI:∀ W,W=w→Calls Tryz.prog 109 #[.slice (some ⟨blk,0,none⟩) (n+1:Nat) bcap,.int .i64 0,.int .i64 (n+1:Nat),.func (.func 36) #[] #[.pointer (some ⟨G,0,none⟩)]] W fun e w'=>e=.returned (.tuple #[])∧SortedR n rk blk w (.returned (.tuple #[])) w':=by
  rintro W rfl
  have hcon:=Tryz.insertionSortCmpFunc_s (encF (n:=n)) (cfF n rk) 36 #[.pointer (some ⟨G,0,none⟩)] blk 0 bcap 0 (n+1) (numsA n) (numsA n) W W (fun args w=>by kernel_rfl) (cmp_lays n rk G gr off cap blk 0 W hG hr h1 h2) ⟨fun _=>rfl,hH,hblk⟩ rfl (SW.start hH) (Nat.zero_le _) (by rw [numsA_size]; exact Nat.le_refl _) (by rw [numsA_size]; omega)
  rw [numsA_size,ltOf_rk] at hcon
  exact hcon
 have HS:=Lib.hid (stableCmp_any (SortedR n rk blk) (some ⟨blk,0,none⟩) (n+1) bcap _ w (by omega) hI)
 generalize SortedR n rk blk w=RR at HS ⊢
 clear hI hG hr hH
 go_enter Tryz.func35,Tryz.ntmps35
 go_wp2_with fail
 refine HS.out.mono ?_
 rintro e w5 ⟨rfl,h5⟩
 have H5:=Lib.hid h5
 clear h5
 go_wp2_with fail
 go_end0
 exact ⟨rfl,H5.out⟩
set_option maxRecDepth 100000 in
theorem stableNone_any (p:Option Addr) (cap:Nat) (fv:Value) (w:World):Calls Tryz.prog 35 #[.slice p 0 cap,fv] w fun e w'=>e=.returned (.tuple #[])∧w'=w:=by
 have hI:∀ W,W=w→Calls Tryz.prog 109 #[.slice p (0:Nat) cap,.int .i64 0,.int .i64 (0:Nat),fv] W fun e w'=>e=.returned (.tuple #[])∧(fun _ _ w'=>w'=w:World→Ending→World→Prop) w (.returned (.tuple #[])) w':=by
  rintro W rfl
  exact insNone_any p cap fv W
 have HS:=Lib.hid (stableCmp_any (fun _ _ w'=>w'=w) p 0 cap fv w (by omega) hI)
 clear hI
 go_enter Tryz.func35,Tryz.ntmps35
 go_wp2_with fail
 refine HS.out.mono ?_
 rintro e w5 ⟨rfl,h5⟩
 have H5:=Lib.hid h5
 clear h5
 go_wp2_with fail
 go_end0
 exact ⟨rfl,H5.out⟩
theorem sw_below {α:Type} [Inhabited α] {enc:α→Value} {w W:World} {blk boff B:Nat} {dk:Array α} (h:SW enc w blk boff dk W) (hB:B≤blk) (hB2:B≤w.heap.size):Below B w W:=by
 obtain ⟨n,os,rfl⟩:=h
 refine ⟨rfl,rfl,rfl,SW.le (enc:=enc) (w0:=w) (blk:=blk) (off:=boff) (dk:=dk) ⟨n,os,rfl⟩,fun k hk=>?_⟩
 have hs:(putRow enc (Go.Sort.ahead w n) blk boff dk).heap.size=w.heap.size:=by rw [Go.Sort.size_putRow]; rfl
 unfold sortWorld grow
 simp only
 rw [Array.getElem?_append_left (by omega)]
 unfold putRow mapBlock
 simp only [Array.getElem?_modify]
 rw [if_neg (by omega)]
 rfl
end Go.Proofs.YtmbffkemfepekaaGreatDoor

namespace Go.Proofs.YtmbffkemfepekaaGreatDoor
open Go.RowKit
/-- Attributes of a choice. -/
structure At where
 task:Int
 case_:Int
 vals:List Bd
/-- A slice of attributes. -/
structure LiesA (w:World) (B:Nat) (A:Option Addr) (c:Nat) (ls:List At):Prop where
 len:ls.length≤9223372036854775807
 at_:∀ (i:Nat) (h:i<ls.length),ls[i].vals.length≤9223372036854775807∧∃ (b off:Nat) (A':Option Addr) (c':Nat),A=some ⟨b,off,none⟩∧b<B∧RdB w B A' ls[i].vals ∧
  w.cell? ⟨b,off+i * 3,none⟩=some (.int .i64 ls[i].task)∧w.cell? ⟨b,off+i * 3+1,none⟩=some (.int .i64 ls[i].case_)∧w.cell? ⟨b,off+i * 3+2,none⟩=some (.slice A' ls[i].vals.length c')
theorem LiesA.below' {w w':World} {B C c:Nat} {A:Option Addr} {ls:List At} (h:LiesA w B A c ls) (hb:Below C w w') (hC:B≤C):LiesA w' B A c ls:=by
 refine ⟨h.len,fun i hi=>?_⟩
 obtain ⟨hl,b,off,A',c',e,hbB,hr,x0,x1,x2⟩:=h.at_ i hi
 exact ⟨hl,b,off,A',c',e,hbB,Rd.below' hr hb hC,(hb.cell (p:=⟨b,off+i * 3,none⟩) (by show b<C; omega)).trans x0,(hb.cell (p:=⟨b,off+i * 3+1,none⟩) (by show b<C; omega)).trans x1,(hb.cell (p:=⟨b,off+i * 3+2,none⟩) (by show b<C; omega)).trans x2⟩
def natV (k:Nat):Value:=.int .i64 (k:Nat)
def rkC (rs:List Rl) (a:At):List Value:=[.int .i64 (rankR rs a.vals).1,.int .i64 (rankR rs a.vals).2]
theorem rkC_len (rs:List Rl) (a:At):(rkC rs a).length=2:=rfl
theorem grown_cell {w w':World} {row:Option Nat} {p:Addr} {v:Value} (h:w.grownBy w' row) (hc:w.cell? p=some v) (hne:row≠some p.block):w'.cell? p=some v:=by
 have:=h.block p.block (World.block_lt_of_cell? _ _ hc) (fun e=>hne e.symm)
 simp only [World.cell?,this]
 exact hc
theorem grown_frozen {w w':World} {row:Option Nat} {p:Addr} {v:Value} (h:w.grownBy w' row) (hc:w.cell? p=some v) (hne:row≠some p.block):w'.frozen? p=w.frozen? p:=
 frozen_block (h.block p.block (World.block_lt_of_cell? _ _ hc) (fun e=>hne e.symm))
theorem rankInfo:(Tryz.prog.info? 83).map (fun i=>(i.zero,i.size,i.bytes))=some (some (.agg #[.int .i64 0,.int .i64 0]),2,16):=by kernel_rfl
/-- What Order holds: the indices, the ranks, the variable of the ranks, the policy's box, and one box more. -/
structure OMem (w:World) (base RV PB AB:Nat) (pv av:Value) (rs:List Rl) (ls:List At) (jo jr:Nat) (vo vr vv:Value) (W:World):Prop where
 out:W.ownsRow base 3 1 vo jo ((List.range jo).map natV)
 rks:W.ownsRow base 83 2 vr jr ((ls.take jr).flatMap (rkC rs))
 apart:∀ g,vo.ownBlock=some g→vr.ownBlock≠some g
 rv:W.cell? ⟨RV,0,none⟩=some vv
 rvf:W.frozen? ⟨RV,0,none⟩=false
 pb:W.cell? ⟨PB,0,none⟩=some pv
 ab:W.cell? ⟨AB,2,none⟩=some av
 abo:vo.ownBlock≠some AB
 abr:vr.ownBlock≠some AB
 rvo:RV≠AB
 below:Below w.heap.size w W
 size:base≤W.heap.size
 lo:w.heap.size≤PB∧PB<base∧w.heap.size≤RV∧RV<base∧w.heap.size≤base∧PB≠RV
section
variable {w:World} {base RV PB AB:Nat} {pv av:Value} {rs:List Rl} {ls:List At} {jo jr:Nat} {vo vr vv:Value} {W W':World}
theorem OMem.next (h:OMem w base RV PB AB pv av rs ls jo jr vo vr vv W) (hb:Below W.heap.size W W'):OMem w base RV PB AB pv av rs ls jo jr vo vr vv W':=
 ⟨own_next h.out hb,own_next h.rks hb,h.apart,(hb.cell (p:=⟨RV,0,none⟩) (World.block_lt_of_cell? _ _ h.rv)).trans h.rv,(hb.frozen (p:=⟨RV,0,none⟩) (World.block_lt_of_cell? _ _ h.rv)).trans h.rvf,(hb.cell (p:=⟨PB,0,none⟩) (World.block_lt_of_cell? _ _ h.pb)).trans h.pb,
  (hb.cell (p:=⟨AB,2,none⟩) (World.block_lt_of_cell? _ _ h.ab)).trans h.ab,h.abo,h.abr,h.rvo,h.below.trans (hb.mono h.below.size),Nat.le_trans h.size hb.size,h.lo⟩
theorem OMem.drew (h:OMem w base RV PB AB pv av rs ls jo jr vo vr vv W):OMem w base RV PB AB pv av rs ls jo jr vo vr vv W.drew:=
 h.next ⟨rfl,rfl,rfl,Nat.le_refl _,fun _ _=>rfl⟩
/-- Another box. -/
theorem OMem.box (h:OMem w base RV PB AB pv av rs ls jo jr vo vr vv W) {AB':Nat} {av':Value} (hc:W.cell? ⟨AB',2,none⟩=some av') (ho:vo.ownBlock≠some AB') (hr:vr.ownBlock≠some AB') (hv:RV≠AB'):OMem w base RV PB AB' pv av' rs ls jo jr vo vr vv W:=
 ⟨h.out,h.rks,h.apart,h.rv,h.rvf,h.pb,hc,ho,hr,hv,h.below,h.size,h.lo⟩
theorem OMem.run_out (h:OMem w base RV PB AB pv av rs ls jo jr vo vr vv W) (hj:jo≤12) (ty:TypeId):∃ v2 W2,(Builtin.append_ #[41,41] ty #[vo,.slice (some ⟨W.heap.size,0,none⟩) 1 1]).run Tryz.prog (W.alloc (.cells #[natV jo] 3))=.ok v2 W2∧OMem w base RV PB AB pv av rs ls (jo+1) jr v2 vr vv W2:=by
 obtain ⟨i0,hi,hz0,hz1,hz2⟩:=info_parts intInfo
 have h1:=h.next (below_alloc W (.cells #[natV jo] 3))
 obtain ⟨v2,W2,hrun,hown,hg,-,hob⟩:=run_append_own_at (P:=Tryz.prog) (w:=W.alloc (.cells #[natV jo] 3)) base 41 ty 3 i0 (.int .i64 0) 1 8 Tryz.underlying41 hi hz0 hz1 hz2 rfl (by omega) vo jo _ h1.out ⟨W.heap.size,0,none⟩ 1 1 [natV jo] rfl (bx_add (bx_new W #[natV jo] 3)) (by simp [Value.oneCell',natV]) (by unfold maxLen; omega) (by omega) h1.size
 have hlo:=h.lo
 have hrow:∀ k,k<base→vo.ownBlock≠some k:=fun k hk e=>by have:=World.ownsRow.lt h1.out k e; omega
 have hsz:W.heap.size+1=(W.alloc (.cells #[natV jo] 3)).heap.size:=by simp
 refine ⟨v2,W2,hrun,by rw [List.range_succ,List.map_append]; exact hown,World.ownsRow.kept h1.rks hg ?_,fun g hg2=>?_,grown_cell hg h1.rv (hrow RV (by omega)),(grown_frozen hg h1.rv (hrow RV (by omega))).trans h1.rvf,grown_cell hg h1.pb (hrow PB (by omega)),grown_cell hg h1.ab h.abo,?_,h.abr,h.rvo,?_,Nat.le_trans h1.size hg.size,h.lo⟩
 ·cases hv:vr.ownBlock with
  | none=>exact .inl rfl
  | some g=>exact .inr (fun e=>h.apart g e.symm (by rw [hv]))
 ·rcases hob with e | e
  ·rw [e] at hg2; exact h.apart g hg2
  ·rw [e] at hg2
   injection hg2 with hg2
   intro e2
   have:=World.ownsRow.lt h1.rks g e2
   omega
 ·rcases hob with e | e
  ·rw [e]; exact h.abo
  ·rw [e]
   intro e2
   injection e2 with e2
   have:=World.block_lt_of_cell? _ _ h1.ab
   simp only at this
   omega
 ·exact h1.below.grown hg h1.below.size (fun g e=>by have:=World.ownsRow.lt h1.out g e; omega)
theorem OMem.run_rks (h:OMem w base RV PB AB pv av rs ls jo jr vo vr vv W) (hj:jr≤12) (hl:jr<ls.length) (ty:TypeId):∃ v2 W2,(Builtin.append_ #[80,80] ty #[vr,.slice (some ⟨W.heap.size,0,none⟩) 1 1]).run Tryz.prog (W.alloc (.cells #[.int .i64 (rankR rs ls[jr].vals).1,.int .i64 (rankR rs ls[jr].vals).2] 83))=.ok v2 W2∧OMem w base RV PB AB pv av rs ls jo (jr+1) vo v2 vv W2:=by
 obtain ⟨i0,hi,hz0,hz1,hz2⟩:=info_parts rankInfo
 have h1:=h.next (below_alloc W (.cells #[.int .i64 (rankR rs ls[jr].vals).1,.int .i64 (rankR rs ls[jr].vals).2] 83))
 obtain ⟨v2,W2,hrun,hown,hg,-,hob⟩:=run_append_own_at (P:=Tryz.prog) (w:=W.alloc (.cells #[.int .i64 (rankR rs ls[jr].vals).1,.int .i64 (rankR rs ls[jr].vals).2] 83)) base 80 ty 83 i0 (.agg #[.int .i64 0,.int .i64 0]) 2 16 Tryz.underlying80 hi hz0 hz1 hz2 rfl (by omega) vr jr _ h1.rks ⟨W.heap.size,0,none⟩ 1 1 (rkC rs ls[jr]) rfl (bx_add (bx_new W #[.int .i64 (rankR rs ls[jr].vals).1,.int .i64 (rankR rs ls[jr].vals).2] 83)) (by simp [Value.oneCell',rkC]) (by unfold maxLen; omega) (by omega) h1.size
 have hlo:=h.lo
 have hrow:∀ k,k<base→vr.ownBlock≠some k:=fun k hk e=>by have:=World.ownsRow.lt h1.rks k e; omega
 have hsz:W.heap.size+1=(W.alloc (.cells #[.int .i64 (rankR rs ls[jr].vals).1,.int .i64 (rankR rs ls[jr].vals).2] 83)).heap.size:=by simp
 refine ⟨v2,W2,hrun,World.ownsRow.kept h1.out hg ?_,?_,fun g hg2=>?_,grown_cell hg h1.rv (hrow RV (by omega)),(grown_frozen hg h1.rv (hrow RV (by omega))).trans h1.rvf,grown_cell hg h1.pb (hrow PB (by omega)),grown_cell hg h1.ab h.abr,h.abo,?_,h.rvo,?_,Nat.le_trans h1.size hg.size,h.lo⟩
 ·cases hv:vo.ownBlock with
  | none=>exact .inl rfl
  | some g=>exact .inr (fun e=>h.apart g hv e.symm)
 ·rw [List.take_add_one,List.getElem?_eq_getElem hl,List.flatMap_append]
  simpa using hown
 ·rcases hob with e | e
  ·rw [e]; exact h.apart g hg2
  ·rw [e]
   intro e2
   injection e2 with e2
   have:=World.ownsRow.lt h1.out g hg2
   omega
 ·rcases hob with e | e
  ·rw [e]; exact h.abr
  ·rw [e]
   intro e2
   injection e2 with e2
   have:=World.block_lt_of_cell? _ _ h1.ab
   simp only at this
   omega
 ·exact h1.below.grown hg h1.below.size (fun g e=>by have:=World.ownsRow.lt h1.rks g e; omega)
theorem own_set {W:World} {base size n:Nat} {e:TypeId} {v u:Value} {xs:List Value} (h:W.ownsRow base e size v n xs) {p:Addr} (hp:p.block<base):(W.setCell p u).ownsRow base e size v n xs:=by
 refine ⟨h.1,?_⟩
 rcases h.2 with hn | ⟨g,cap,cur,rfl,hb,hg,rest⟩
 ·exact .inl hn
 ·exact .inr ⟨g,cap,cur,rfl,hb,by rw [heap_setCell_other _ _ _ _ (by omega)]; exact hg,rest⟩
/-- The variable of the ranks is stored. -/
theorem OMem.store (h:OMem w base RV PB AB pv av rs ls jo jr vo vr vv W) (u:Value):OMem w base RV PB AB pv av rs ls jo jr vo vr u (W.setCell ⟨RV,0,none⟩ u):=by
 have hlo:=h.lo
 refine ⟨own_set h.out (p:=⟨RV,0,none⟩) (by show RV<base; omega),own_set h.rks (p:=⟨RV,0,none⟩) (by show RV<base; omega),h.apart,World.cell?_setCell_same _ _ _ h.rv,by rw [World.frozen?_setCell]; exact h.rvf,(World.cell?_setCell_far _ _ _ _ (by show RV≠PB; omega)).trans h.pb,(World.cell?_setCell_far _ _ _ _ h.rvo).trans h.ab,h.abo,h.abr,h.rvo,h.below.setCell (p:=⟨RV,0,none⟩) (by show w.heap.size≤RV; omega) _,by simpa using h.size,h.lo⟩
end
end Go.Proofs.YtmbffkemfepekaaGreatDoor
