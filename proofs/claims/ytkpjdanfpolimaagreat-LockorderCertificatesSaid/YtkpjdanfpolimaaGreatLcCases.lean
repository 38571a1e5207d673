/- The checker's cases of a select, walked: an error number comes back, none exactly if they  · The checker's args, walked: an error number comes back, none exactly if they are valid. Co -/
import Derived.Test.YtkpjdanfpolimaaGreatLcIns
set_option linter.unusedSimpArgs false
set_option maxRecDepth 100000
set_option maxHeartbeats 6400000
namespace Go.Proofs.YtkpjdanfpolimaaGreat
section
open Go.RowKit Go.Shelf
attribute [local go_sem] Oper.semAt_some
theorem RetE.ok {V:Prop} {w:World} {e:Ending} {w':World} (h:RetE V w e w') (hv:V):Ret (.int .i64 0) w e w':=by
 obtain ⟨n,rfl,hn,hb⟩:=h;rw [hn.2 hv];exact ⟨rfl,hb⟩
theorem of_ret (k:Int) (w:World):Calls Tryz.prog 136 #[.int .i64 k] w (Ret (.agg #[.int .i64 12,.int .i64 k]) w):=
 (of_any k w).mono fun e w' ⟨h1,h2⟩=>⟨h1,by rw [h2]; exact below_alloc _ _⟩
structure CaI (w:World) (cs:Array Value) (D:Nat) (W:World):Prop where
 ck:W.heap[w.heap.size]? = some (.cells cs 144 (0,0))
 er:Boxed W (w.heap.size+1) 32 (.int .i64 0)
 df:Boxed W (w.heap.size+2) 3 (.int .i64 (D:Nat))
 bl:Below w.heap.size w W
theorem CaI.cells {w:World} {p:Prg} {f:Fn} {D:Nat} {W:World} (h:CaI w (ckCells p f).toArray D W):Bx W w.heap.size (ckCells p f):=fun j v hv=>by
 have:=h.ck;simp only [World.cell?,this];simpa using hv
theorem CaI.setDf {w:World} {cs:Array Value} {D D':Nat} {W:World} (h:CaI w cs D W):CaI w cs D' (W.setCell ⟨w.heap.size+2,0,none⟩ (.int .i64 (D':Nat))):=
 ⟨(Below.heap_setCell _ _ _ _ (by show _≠w.heap.size+2; omega)).trans h.ck,Boxed.other h.er (by omega) _,Boxed.set _ h.df,h.bl.setCell (p:=⟨w.heap.size+2,0,none⟩) (by show _≤w.heap.size+2; omega) _⟩
theorem CaI.keepsC {w:World} {cs:Array Value} {D D':Nat} {W:World} (_:CaI w cs D W):KeepsC (w.heap.size+3) W (W.setCell ⟨w.heap.size+2,0,none⟩ (.int .i64 (D':Nat))):=
 ⟨Below.heap_setCell _ _ _ _ (by show _≠w.heap.size+2; omega),Below.heap_setCell _ _ _ _ (by show _≠w.heap.size+2; omega)⟩
theorem CaI.kept {w:World} {cs:Array Value} {D:Nat} {W W':World} {row:Option Nat} (h:CaI w cs D W) (hg:W.grownBy W' row) (hr:∀ r,row=some r→w.heap.size+3≤r):CaI w cs D W':=by
 have hne:∀ k,k<w.heap.size+3→some k≠row:=fun k hk e=>by have:=hr k e.symm; omega
 exact ⟨(hg.block _ (Array.getElem?_eq_some_iff.1 h.ck).1 (hne _ (by omega))).trans h.ck,h.er.kept hg (hne _ (by omega)),h.df.kept hg (hne _ (by omega)),h.bl.grown hg h.bl.size (fun k e=>by have:=hr k e; omega)⟩
theorem getD_lt {l:List Int} {i:Nat} (h:i<l.length):l.getD i 0=l[i]:=by simp [List.getD,h]
theorem grown_drewN (W:World) (n:Nat):W.grownBy (W.drewN n) none:=⟨rfl,rfl,rfl,Nat.le_refl _,fun _ _ _=>rfl⟩
theorem keeps_drewN (W:World) (n:Nat):KeepsOthers W (W.drewN n):=KeepsOthers.of_grownBy (grown_drewN W n) (fun _ _ e=>by cases e)
def CaJ (w:World) (p:Prg) (f:Fn) (cs:Array Value) (l:List Int) (pre:List Nat) (W:World):Prop:=∃ D:Nat,Hid (D=dcnt l pre.length)∧Hid (casesTo p f l pre.length)∧CaI w cs D W∧w.heap.size+5≤W.heap.size
theorem caJ_own {w:World} {p:Prg} {f:Fn} {cs:Array Value} {l:List Int}:OwnFrom (w.heap.size+3) (CaJ w p f cs l):=fun _ _ _ _ hs hg hr=>by
 obtain ⟨D,h1,h0,h2,h3⟩:=hs;exact ⟨D,h1,h0,h2.kept hg (fun r e=>(hr r e).1),Nat.le_trans h3 hg.size⟩
def CaX (w:World) (V:Prop) (W:World):Prop:=¬ V∧∃ n:Int,n≠0∧Boxed W (w.heap.size+1) 32 (.int .i64 n)∧Below w.heap.size w W∧w.heap.size+5≤W.heap.size
theorem CaX.kept {w W W':World} {V:Prop} {row:Option Nat} (h:CaX w V W) (hg:W.grownBy W' row) (hr:∀ r,row=some r→w.heap.size+3≤r):CaX w V W':=by
 obtain ⟨h0,n,h1,h2,h3,h4⟩:=h;exact ⟨h0,n,h1,h2.kept hg (fun e=>by have:=hr _ e.symm; omega),h3.grown hg h3.size (fun k e=>by have:=hr k e; omega),Nat.le_trans h4 hg.size⟩
theorem CaI.stop {w:World} {V:Prop} {cs:Array Value} {D:Nat} {W:World} (h:CaI w cs D W) (hz:w.heap.size+5≤W.heap.size) (hV:Hid (¬ V)) {n:Int} (hn:n≠0):CaX w V (W.setCell ⟨w.heap.size+1,0,none⟩ (.int .i64 n)):=
 ⟨hV.out,n,hn,Boxed.set _ h.er,h.bl.setCell (p:=⟨w.heap.size+1,0,none⟩) (by show _≤w.heap.size+1; omega) _,by simpa using hz⟩
theorem dcnt_le (l:List Int):∀ m,dcnt l m≤m
 | 0=>Nat.le_refl _
 | m+1=>by have:=dcnt_le l m; rw [dcnt]; split <;> omega
theorem load_cell {P:Program} {w:World} {t:TypeId} {p:Addr} {v:Value} (ht:(isAgg t).run P w=.ok false w) (h:w.cell? p=some v):(loadVar t p).run P w=.ok v w:=by
 simp [loadVar,Sem.run_bind,ht,Result.andThen,go_sem,h]
theorem results_cell1 {fn:Func} {a:Tmp} {t:TypeId} (h:fn.results=#[.cell a t]) {tmps:Array Value} {P:Program} {w:World} {pa:Addr} {va:Value}
  (ha:tmps.getD a undef=.pointer (some pa)) (hva:(loadVar t pa).run P w=.ok va w):(results fn tmps).run P w=.ok va w:=by
 have hx:(asAddr (.pointer (some pa))).run P w=.ok pa w:=rfl;have hp:∀ {α:Type} (x:α) (w:World),(pure x:Sem α).run P w=.ok x w:=fun _ _=>rfl
 unfold results;rw [h];simp only [List.mapM_toArray,List.mapM_cons,List.mapM_nil,Sem.run_bind,run_map',ha,hx,hva,Result.andThen,hp];rfl
set_option linter.unusedSimpArgs false in
set_option linter.unusedVariables false in
theorem cases_any (p:Prg) (f:Fn) (hf:f∈p.funs) (l:List Int) (A:Option Addr) (c:Nat) (hal:l.length≤maxLen) (hcap:l.length≤c) (hfit:∀ x∈l,-9223372036854775808≤x∧x≤9223372036854775807) (hr:0≤f.regs∧f.regs≤32)
  (w:World) (h:Lies w w.heap.size p) (ha:Rd w w.heap.size 1 A l.length (i64s l)) :
  Calls Tryz.prog 140 #[ckVal p f,.slice A l.length c] w (RetE ((l.length≠0∧l.length % 3=0∧l.length≤18)∧casesTo p f l (l.length / 3)∧dcnt l (l.length / 3)≤1) w):=by
 have hF:∀ f,Fence.wide.fn f:=fun _=>trivial
 have hf1:=hF 140;have hf2:=hF 147;have hf3:=hF 136;have hf4:=hF 126;have hf5:=hF 143;unfold ckVal;obtain ⟨cs,hcs⟩:∃ cs,cs=(ckCells p f).toArray:=⟨_,rfl⟩
 rw [← hcs];have HCS:=hid hcs;obtain ⟨V,hV⟩:∃ V,V=((l.length≠0∧l.length % 3=0∧l.length≤18)∧casesTo p f l (l.length / 3)∧dcnt l (l.length / 3)≤1):=⟨_,rfl⟩
 rw [← hV];have HV:=hid (iff_of_eq hV);clear hV;obtain ⟨M,hM⟩:∃ M,l.length=M:=⟨_,rfl⟩
 rw [hM] at hcap ⊢;have HM:=hid hM;rw [hM] at hal;unfold maxLen at hal;have HA:=hid ha;have hsz:cs.size=9:=by rw [hcs]; rfl
 have bE0:=Boxed.new (w.alloc (.cells cs 144)) 32 (.int .i64 10);simp only [World.size_alloc] at bE0;have hbl0:Below w.heap.size w ((w.alloc (.cells cs 144)).alloc (.cells #[.int .i64 10] 32)):=(below_alloc w _).alloc (by simp) _;clear hcs hM ha;by_cases hg1:M=0
 ·have HNO:=hid (show ¬ V from fun v=>by have:=(HV.out.1 v).1; rw [HM.out] at this; exact this.1 hg1)
  have e1:((M:Int) == 0)=true:=by simp; omega
  have e4:(M == 0)=true:=by simp; omega
  clear hg1;refine (callsIn_wide (n:=3)).1 ?_;refine callsIn_of_wp_marks Tryz.func140 rfl trivial ?_ rfl;simp only [Tryz.ntmps140,List.size_toArray,List.length_cons,List.length_nil,Nat.reduceAdd,Nat.reduceSub,Array.replicate_succ,Array.replicate_zero,List.push_toArray,List.append_toArray,List.nil_append,List.cons_append];gi_wp2;refine ⟨_,results_cell1 rfl rfl (load_cell (by kernel_rfl) bE0.cell),?_⟩;exact retE_no (by decide) HNO.out hbl0
 have e1:((M:Int) == 0)=false:=by simp; omega
 have e4:(M == 0)=false:=by simp; omega
 by_cases hg2:M % 3=0;rotate_left
 ·have HNO:=hid (show ¬ V from fun v=>by have:=(HV.out.1 v).1; rw [HM.out] at this; exact hg2 this.2.1)
  have e2:((M:Int).tmod 3 != 0)=true:=by rw [Int.tmod_eq_emod_of_nonneg (by omega)]; simp; omega
  have e2b:((M:Int) % 3 != 0)=true:=by simp; omega
  clear hg1 hg2;refine (callsIn_wide (n:=3)).1 ?_;refine callsIn_of_wp_marks Tryz.func140 rfl trivial ?_ rfl;simp only [Tryz.ntmps140,List.size_toArray,List.length_cons,List.length_nil,Nat.reduceAdd,Nat.reduceSub,Array.replicate_succ,Array.replicate_zero,List.push_toArray,List.append_toArray,List.nil_append,List.cons_append];gi_wp2;refine ⟨_,results_cell1 rfl rfl (load_cell (by kernel_rfl) bE0.cell),?_⟩;exact retE_no (by decide) HNO.out hbl0
 have e2:((M:Int).tmod 3 != 0)=false:=by rw [Int.tmod_eq_emod_of_nonneg (by omega)]; simp; omega
 have e2b:((M:Int) % 3 != 0)=false:=by simp; omega
 by_cases hg3:M≤18;rotate_left
 ·have HNO:=hid (show ¬ V from fun v=>by have:=(HV.out.1 v).1; rw [HM.out] at this; exact hg3 this.2.2)
  have e3:=Dt (show (18:Int)<M by omega);have e5:=Dt (show 18<M by omega);clear hg1 hg2 hg3;refine (callsIn_wide (n:=3)).1 ?_;refine callsIn_of_wp_marks Tryz.func140 rfl trivial ?_ rfl;simp only [Tryz.ntmps140,List.size_toArray,List.length_cons,List.length_nil,Nat.reduceAdd,Nat.reduceSub,Array.replicate_succ,Array.replicate_zero,List.push_toArray,List.append_toArray,List.nil_append,List.cons_append];gi_wp2;refine ⟨_,results_cell1 rfl rfl (load_cell (by kernel_rfl) bE0.cell),?_⟩;exact retE_no (by decide) HNO.out hbl0
 clear bE0 hbl0;have e3:=Df (show ¬ (18:Int)<M by omega);have e5:=Df (show ¬ (18<M) by omega);obtain ⟨N,hN⟩:∃ N,M=3 * N:=⟨M / 3,by omega⟩
 have HN:=hid hN;have HN6:=hid (show N≤6 by omega)
 have HVI:=hid (show casesTo p f l N∧dcnt l N≤1→V from fun hh=>HV.out.2 (by
  have:=HM.out;rw [this,show M / 3=N from by omega];exact ⟨⟨hg1,hg2,hg3⟩,hh⟩))
 have HVD:=hid (show V→dcnt l N≤1 from fun v=>by
  have:=(HV.out.1 v).2.2
  rwa [HM.out,show M / 3=N from by omega] at this)
 clear hN hg1 hg2 hg3;refine (callsIn_wide (n:=3)).1 ?_;refine callsIn_of_wp_marks Tryz.func140 rfl trivial ?_ rfl;simp only [Tryz.ntmps140,List.size_toArray,List.length_cons,List.length_nil,Nat.reduceAdd,Nat.reduceSub,Array.replicate_succ,Array.replicate_zero,List.push_toArray,List.append_toArray,List.nil_append,List.cons_append];gi_wp2;refine (chunk_in 2 A M c _).mono ?_;rintro e w2 ⟨rfl,rfl⟩;gi_wp2
 have bC:(((w.alloc (.cells cs 144)).alloc (.cells #[.int .i64 0] 32)).alloc (.cells #[.int .i64 0] 3)).heap[w.heap.size]? = some (.cells cs 144 (0,0)):=
  (Below.heap_alloc _ _ _ (by simp; omega)).trans ((Below.heap_alloc _ _ _ (by simp)).trans (World.alloc_heap_new w _))
 have bE:=(Boxed.new (w.alloc (.cells cs 144)) 32 (.int .i64 0)).alloc (.cells #[.int .i64 0] 3);have bD:=Boxed.new ((w.alloc (.cells cs 144)).alloc (.cells #[.int .i64 0] 32)) 3 (.int .i64 0);simp only [World.size_alloc] at bE bD;have hbl:Below w.heap.size w (((w.alloc (.cells cs 144)).alloc (.cells #[.int .i64 0] 32)).alloc (.cells #[.int .i64 0] 3)):=((below_alloc w _).alloc (by simp) _).alloc (by simp; omega) _;have hsz3:(((w.alloc (.cells cs 144)).alloc (.cells #[.int .i64 0] 32)).alloc (.cells #[.int .i64 0] 3)).heap.size=w.heap.size+3:=by simp
 generalize (((w.alloc (.cells cs 144)).alloc (.cells #[.int .i64 0] 32)).alloc (.cells #[.int .i64 0] 3))=w1 at bC bE bD hbl hsz3 ⊢;have hI:CaI w cs 0 w1:=⟨bC,bE,bD,hbl⟩
 clear bC bE bD hbl;have bS:=Boxed.new w1 27 (.slice A M c);have bN:=Boxed.new (w1.alloc (.cells #[.slice A M c] 27)) 3 (.int .i64 3);simp only [World.size_alloc,hsz3] at bS bN;try simp only [hsz3]
 have hg1:w1.grownBy ((w1.alloc (.cells #[.slice A M c] 27)).alloc (.cells #[.int .i64 3] 3)) none:=(World.grownBy_alloc w1 _ none).trans (World.grownBy_alloc _ _ none);have hI1:=hI.kept hg1 (fun r e=>by cases e);have hsz5:((w1.alloc (.cells #[.slice A M c] 27)).alloc (.cells #[.int .i64 3] 3)).heap.size=w.heap.size+5:=by simp [hsz3]
 have bS1:=bS.alloc (.cells #[.int .i64 3] 3);generalize ((w1.alloc (.cells #[.slice A M c] 27)).alloc (.cells #[.int .i64 3] 3))=w2 at bS1 bN hI1 hsz5 ⊢
 refine wpIn_rangeFunc_ab rfl (by omega) (gf:=159) (lb:=#[.pointer (some ⟨w.heap.size+3,0,none⟩),.pointer (some ⟨w.heap.size+3+1,0,none⟩)]) rfl trivial (enters_of Tryz.func159 (by kernel_rfl) rfl)
  (chunk_stops 2 (by omega) (w.heap.size+3) A c N M HN.out hcap (by have:=HN6.out; omega) _ bS1 bN)
  (fun h k=>⟨k.1.trans h.1,k.2.trans h.2⟩) (fun W k o o' hk _ _ _=>⟨World.putObj_heap_other (by omega),World.putObj_heap_other (by omega)⟩) (Below.refl _ _) (fun _=>rfl)
  (fun A' B' k o hab hk ho _=>(hab.block k (Array.getElem?_eq_some_iff.1 ho).1 (by simp)).trans ho)
  (CaJ w p f cs l) (fun c' _ W=>c'=.ret∧CaX w V W)
  (by rw [hsz5]; exact fun s W W' row hs hg hr=>caJ_own s W W' row hs hg (fun r e=>⟨by have:=(hr r e).1; omega,(hr r e).2⟩)) (by rw [hsz5]; exact fun _ s W W' row hs hg hr=>⟨hs.1,hs.2.kept hg (fun r e=>by have:=(hr r e).1; omega)⟩)
  (fun pre A' B' hs hab=>by obtain ⟨D,h1,h0,h2,h3⟩:=hs; exact ⟨D,h1,h0,h2.kept hab (fun r e=>by cases e),Nat.le_trans h3 hab.size⟩)
  (fun c' pre A' B' hs hab=>⟨hs.1,hs.2.kept hab (fun r e=>by cases e)⟩)
  ⟨0,hid rfl,hid (fun j hj=>absurd hj (Nat.not_lt_zero _)),hI1,by omega⟩
  (fun x a' _=>a'={ tmps:=#[.agg cs,.slice A M c,.pointer (some ⟨w.heap.size,0,none⟩),undef,.pointer (some ⟨w.heap.size+1,0,none⟩),.pointer (some ⟨w.heap.size+2,0,none⟩),chunkAt A (3 * x),undef,undef,undef,undef,.slice A M c,.int .i64 (M:Nat),.bool false,.bool false,.slice A M c,.int .i64 (M:Nat),.int .i64 ((M:Int) % 3),.bool false,.bool false,.bool false,.slice A M c,.int .i64 (M:Nat),.bool false,.bool false,.slice A M c,.func (.func 159) #[] #[.pointer (some ⟨w.heap.size+3,0,none⟩),.pointer (some ⟨w.heap.size+4,0,none⟩)],chunkAt A (3 * x),undef,undef,undef,undef,undef,undef,undef,undef,undef,undef,undef,undef,undef,undef,undef,undef,undef,undef,undef,undef,undef,undef,undef,undef,undef,undef,undef,undef,undef,undef,undef,undef,undef,undef,undef,undef,undef,undef,undef,undef,undef,undef,undef,undef,undef,undef],defers:=[] })
  (fun _ _ _ _ _ hs _ _=>hs) ?assign ?body ?done ?stop
 case assign=>
  rintro l pre x W K hJ hK;gi_wp2;exact hK _ _ (KeepsFrom.refl _ _) ⟨rfl,rfl⟩ hJ rfl
 case stop=>
  rintro D c' pre W hD - ⟨rfl,hno,n,hn,hE,hB,hz⟩ hK;have HNO:=hid hno;clear hno;gi_wp2;have hgD:=grownBy_putObj' W D (.deferred none);refine ⟨by simp,.inl ⟨_,_,rfl,run_takeDeferred hK,?_⟩⟩;refine ⟨_,results_cell1 rfl rfl (load_cell (by kernel_rfl) (hE.kept hgD (by simp; omega)).cell),?_⟩;exact retE_no hn HNO.out (hB.grown hgD hB.size (fun k e=>by cases e; omega))
 case done=>
  rintro D ys W hD rfl ⟨D2,hD2,HCT,hI,_⟩ hK;rw [List.length_range] at hD2 HCT
  have hD6:D2≤6:=by
   have:=dcnt_le l N;have:=HN6.out;rw [hD2.out]; omega
  have q0:=hI.df.cell;have q1:=hI.er.cell;have q2:=hI.er.frozen;have HI:=hid hI;have hlt:w.heap.size+3<w2.heap.size:=by omega
  clear hI;by_cases hdd:D2≤1
  ·have d1:=Df (show ¬ (1:Int)<D2 by omega)
   have d2:=Df (show ¬ (1<D2) by omega);have HY:=hid (HVI.out ⟨HCT.out,by rw [← hD2.out]; exact hdd⟩);clear hD2;gi_wp2;have hgD:=grownBy_putObj' (W.setCell ⟨w.heap.size+1,0,none⟩ (.int .i64 0)) D (.deferred none);have hE1:Boxed (W.setCell ⟨w.heap.size+1,0,none⟩ (.int .i64 0)) (w.heap.size+1) 32 (.int .i64 0):=Boxed.set _ HI.out.er;have hED:(W.setCell ⟨w.heap.size+1,0,none⟩ (.int .i64 0)).heap[D]? = some (.deferred (some [])):=(Below.heap_setCell _ _ _ _ (by show _≠w.heap.size+1; omega)).trans hK;refine ⟨by simp,.inl ⟨_,_,rfl,run_takeDeferred hED,?_⟩⟩;refine ⟨_,results_cell1 rfl rfl (load_cell (by kernel_rfl) (hE1.kept hgD (by simp; omega)).cell),?_⟩
   exact retE_ok HY.out ((HI.out.bl.setCell (p:=⟨w.heap.size+1,0,none⟩) (by show _≤w.heap.size+1; omega) _).grown hgD (by have:=HI.out.bl.size; simpa using this) (fun k e=>by cases e; omega))
  ·have d1:=Dt (show (1:Int)<D2 by omega)
   have d2:=Dt (show 1<D2 by omega);have HNO:=hid (show ¬ V from fun v=>hdd (by have:=HVD.out v; rwa [← hD2.out] at this));clear hD2 hdd;gi_wp2;have hgD:=grownBy_putObj' (W.setCell ⟨w.heap.size+1,0,none⟩ (.int .i64 16)) D (.deferred none);have hE1:Boxed (W.setCell ⟨w.heap.size+1,0,none⟩ (.int .i64 16)) (w.heap.size+1) 32 (.int .i64 16):=Boxed.set _ HI.out.er;have hED:(W.setCell ⟨w.heap.size+1,0,none⟩ (.int .i64 16)).heap[D]? = some (.deferred (some [])):=(Below.heap_setCell _ _ _ _ (by show _≠w.heap.size+1; omega)).trans hK;refine ⟨by simp,.inl ⟨_,_,rfl,run_takeDeferred hED,?_⟩⟩;refine ⟨_,results_cell1 rfl rfl (load_cell (by kernel_rfl) (hE1.kept hgD (by simp; omega)).cell),?_⟩
   exact retE_no (by decide) HNO.out ((HI.out.bl.setCell (p:=⟨w.heap.size+1,0,none⟩) (by show _≤w.heap.size+1; omega) _).grown hgD (by have:=HI.out.bl.size; simpa using this) (fun k e=>by cases e; omega))
 case body=>
  rintro lp pre x a' W ⟨D,hD,HCT,hI,hszW⟩ rfl ⟨hpre,hx⟩;have hpl:pre.length=x:=by rw [hpre]; simp
  rw [hpl] at hD HCT;have ha:Rd W w.heap.size 1 A l.length (i64s l):=HA.out.below hI.bl;have hle:3 * x+3≤l.length:=by have:=HM.out; have:=HN.out; omega
  obtain ⟨b,off,hA,hbo,hcells⟩:=ha.addr (by omega);obtain ⟨kd,hkd⟩:∃ kd,l.getD (3 * x) 0=kd:=⟨_,rfl⟩
  obtain ⟨ch,hch0⟩:∃ ch,l.getD (3 * x+1) 0=ch:=⟨_,rfl⟩
  obtain ⟨rg,hrg0⟩:∃ rg,l.getD (3 * x+2) 0=rg:=⟨_,rfl⟩
  have hDx:D≤6:=by
   have:=dcnt_le l x;have:=HN6.out;rw [hD.out]; omega
  have hdn:dcnt l (x+1)=D+(if kd=3 then 1 else 0):=by rw [hD.out,dcnt,hkd]
  have hch1:-9223372036854775808≤ch∧ch≤9223372036854775807:=by
   rw [← hch0,getD_lt (by omega)];exact hfit _ (List.getElem_mem _)
  have HST:=hid (show caseOk p f kd ch rg→casesTo p f l (x+1) from fun hc j hj=>by
   by_cases e:j=x
   ·subst e; rw [hkd,hch0,hrg0]; exact hc
   ·exact HCT.out j (by omega))
  have HBAD:=hid (show ¬ caseOk p f kd ch rg→¬ V from fun hc v=>hc (by
   have:=(HV.out.1 v).2.1 x (by have:=HM.out; have:=HN.out; omega)
   rwa [hkd,hch0,hrg0] at this))
  obtain ⟨y,hy⟩:∃ y,y=off+3 * x:=⟨_,rfl⟩
  have g0:W.cell? ⟨b,y,none⟩=some (.int .i64 kd):=by rw [hy,← hkd,getD_lt (by omega)]; exact hcells (3 * x) _ (i64s_at _ _ (by omega))
  have g1:W.cell? ⟨b,y+1,none⟩=some (.int .i64 ch):=by rw [hy,Nat.add_assoc,← hch0,getD_lt (by omega)]; exact hcells (3 * x+1) _ (i64s_at _ _ (by omega))
  have g2:W.cell? ⟨b,y+2,none⟩=some (.int .i64 rg):=by rw [hy,Nat.add_assoc,← hrg0,getD_lt (by omega)]; exact hcells (3 * x+2) _ (i64s_at _ _ (by omega))
  have hch:chunkAt A (3 * x)=.slice (some ⟨b,y,none⟩) 3 3:=by rw [hA,hy]; simp [chunkAt,Addr.add]
  rw [hch];have HDN:=hid hdn;have HI:=hid hI;have HPL:=hid hpl;have hcs:=HCS.out;subst hcs;clear hy hch hcells hpre hA ha hdn hI hD hpl hkd hch0 hrg0 HCT;gi_wp2;refine wp_round_quiet (by kernel_rfl) (by kernel_rfl) (fun h=>by obtain ⟨_,_,h⟩:=h; exact h) (by kernel_rfl) ?_
  repeat (go_big_quiet_step (fail))
  refine wpQuiet_nil ?_;rintro _ ⟨nq,rfl⟩;have hI0:=HI.out.kept (grown_drewN W nq) (fun r e=>by cases e);have hKW0:=keeps_drewN W nq;have hKC0:KeepsC (w.heap.size+3) W (W.drewN nq):=⟨rfl,rfl⟩
  have hz0:w.heap.size+5≤(W.drewN nq).heap.size:=hszW;clear g0 g1 g2 hszW HI;generalize W.drewN nq=W0 at hI0 hKW0 hKC0 hz0 ⊢;have q0:=hI0.df.cell;have q1:=hI0.er.cell;have q2:=hI0.er.frozen;have q3:=hI0.df.frozen;by_cases k3:kd=3
  ·subst k3
   have hwr:IntKind.i64.wrap ((D:Int)+1)=((D+1:Nat):Int):=by rw [IntKind.wrap_i64]; omega
   have hI3:=hI0.setDf (D':=D+1);have hK3:=hI0.keepsC (D':=D+1);have hKW3:=hKW0.trans (KeepsOthers.setCell W0 ⟨w.heap.size+2,0,none⟩ (.int .i64 ((D+1:Nat):Int)));have hz3:w.heap.size+5≤(W0.setCell ⟨w.heap.size+2,0,none⟩ (.int .i64 ((D+1:Nat):Int))).heap.size:=by simpa using hz0
   have q1':=hI3.er.cell;have q2':=hI3.er.frozen;by_cases c0:ch=0
   ·subst c0
    by_cases r0:rg=0
    ·subst r0
     gi_wp2;refine ⟨hKW3.from _,⟨hK3.1.trans hKC0.1,hK3.2.trans hKC0.2⟩,D+1,hid ?_,hid (by rw [List.length_append,HPL.out]; exact HST.out (.inr (.inr ⟨rfl,rfl,rfl⟩))),hI3,hz3⟩;rw [List.length_append,HPL.out];exact HDN.out.symm
    ·have er:(rg != 0)=true:=by simpa using r0
     have HNO:=hid (HBAD.out (fun hc=>by rcases hc with ⟨h,-⟩ | ⟨h,-⟩ | ⟨-,-,h⟩ <;> first | exact r0 h | exact absurd h (by decide)));clear r0;gi_wp2;exact ⟨(hKW3.trans (KeepsOthers.setCell _ _ _)).from _,rfl,hI3.stop hz3 HNO (by decide)⟩
   ·have ec:(ch != 0)=true:=by simpa using c0
    have HNO:=hid (HBAD.out (fun hc=>by rcases hc with ⟨h,-⟩ | ⟨h,-⟩ | ⟨-,h,-⟩ <;> first | exact c0 h | exact absurd h (by decide)));clear c0;gi_wp2;exact ⟨(hKW3.trans (KeepsOthers.setCell _ _ _)).from _,rfl,hI3.stop hz3 HNO (by decide)⟩
  ·have e3:(kd == 3)=false:=by simpa using k3
   clear q0 q3;have HOFH:Hid (∀ W,_):=hid (fun W=>of_ret 6 W);have HOP:=hid (fun (W':World) (hb:Below W0.heap.size W0 W')=>opd_any p f hf 12 (by omega) ch 6 hch1 hr W' (h.next ((hI0.bl).trans (hb.mono hI0.bl.size))));by_cases k1:kd=1
   ·subst k1
    clear k3;have HBX:=hid (fun (W':World) (hb:Below W0.heap.size W0 W')=>bx9 (hI0.kept (⟨hb.os,hb.tape,hb.output,hb.size,fun k hk _=>hb.block k hk⟩:W0.grownBy W' none) (fun r e=>by cases e)).cells);gi_wp2
    refine wp_region_round (S:=fun w'=>w'.cell? ⟨w.heap.size,0,none⟩=some (.slice p.funA p.funs.length p.funC)∧w'.cell? ⟨w.heap.size,1,none⟩=some (.slice p.obA p.obs.length p.obC)∧w'.cell? ⟨w.heap.size,2,none⟩=some (.slice p.vrA p.vrs.length p.vrC)∧w'.cell? ⟨w.heap.size,3,none⟩=some (.string f.name)∧w'.cell? ⟨w.heap.size,4,none⟩=some (.int .i64 f.params)∧w'.cell? ⟨w.heap.size,5,none⟩=some (.int .i64 f.regs)∧w'.cell? ⟨w.heap.size,6,none⟩=some (.int .i64 f.prio)∧w'.cell? ⟨w.heap.size,7,none⟩=some (.bool f.clean)∧w'.cell? ⟨w.heap.size,8,none⟩=some (.slice f.codeA f.code.length f.codeC)) (by kernel_rfl) (by kernel_rfl) (fun h=>by obtain ⟨_,_,h⟩:=h; exact h) (HBX.out _ (below_drews _ W0 1)) (fun hHeld=>?_);have hbd:=below_drews W0.heap.size W0 1
    change Below W0.heap.size W0 W0.drew at hbd;generalize W0.drew=Wd at hHeld hbd ⊢;refine tkH 0 rfl ?_;try simp only [frS,Act.put]
    refine tkH 2 rfl ?_;try simp only [frS,Act.put]
    refine rdH 1 rfl fun K hK=>?_
    go_simp;refine (HOFH.out _).mono ?_;rintro e W6 ⟨rfl,hb6⟩;try simp only []
    refine hK.out _ _ ?_ (fun hHeld=>?_)
    ·exact HBX.out _ (hbd.trans (hb6.mono hbd.size))
    clear hK K;try simp only [frS,Act.put]
    refine rdH 3 rfl fun K hK=>?_
    go_simp;refine (HOP.out _ (hbd.trans (hb6.mono hbd.size))).mono ?_;rintro e W7 ⟨nn,rfl,hnn,hb7⟩;try simp only []
    refine hK.out _ _ ?_ (fun hHeld=>?_)
    ·exact HBX.out _ ((hbd.trans (hb6.mono hbd.size)).trans (hb7.mono (hbd.trans (hb6.mono hbd.size)).size))
    clear hK K;try simp only [frS,Act.put]
    refine tkH 4 rfl ?_;try simp only [frS,Act.put]
    refine wpAnyH_done (by kernel_rfl) ?_ _
    try dsimp only [Exit.then]
    have hb8:Below W0.heap.size W0 W7:=(hbd.trans (hb6.mono hbd.size)).trans (hb7.mono (hbd.trans (hb6.mono hbd.size)).size);clear hHeld HBX hb6 hbd hb7;have hg7:W0.grownBy W7 none:=⟨hb8.os,hb8.tape,hb8.output,hb8.size,fun k hk _=>hb8.block k hk⟩
    have hI7:=hI0.kept hg7 (fun r e=>by cases e);have hKW7:=hKW0.trans (KeepsOthers.of_grownBy hg7 (fun _ _ e=>by cases e));have hKC7:KeepsC (w.heap.size+3) W W7:=⟨(hb8.block _ (by omega)).trans hKC0.1,(hb8.block _ (by omega)).trans hKC0.2⟩
    have hz7:w.heap.size+5≤W7.heap.size:=Nat.le_trans hz0 hb8.size;clear hb8;obtain ⟨x0,x1,x2,x3,x4,x5,x6,x7,x8⟩:=bx9 hI7.cells;have q1:=hI7.er.cell;have q2:=hI7.er.frozen;by_cases hn0:nn=0
    ·subst hn0
     have hok:=hnn.1 rfl;clear hnn
     cases hrg:inR2 rg 0 (f.regs - 1) with
     | true=>
      have HRG:Hid (∀ W,Calls Tryz.prog 143 #[ckVal p f,.int .i64 rg] W (Ret (.bool true) W)):=hid (fun W=>by have:=reg_any p f rg hr W; rwa [hrg] at this);have HCO:=hid (show caseOk p f 1 ch rg from .inl ⟨rfl,hok,hrg⟩);clear hrg hok q1 q2;gi_wp2;refine (CallsIn.inRound lp (callsIn_wide.2 (HRG.out _))).mono ?_;rintro e W9 ⟨rfl,hb9⟩;have hg9:W7.grownBy W9 none:=⟨hb9.os,hb9.tape,hb9.output,hb9.size,fun k hk _=>hb9.block k hk⟩
      have hI9:=hI7.kept hg9 (fun r e=>by cases e);have hKW9:=hKW7.trans (KeepsOthers.of_grownBy hg9 (fun _ _ e=>by cases e));have hKC9:KeepsC (w.heap.size+3) W W9:=⟨(hb9.block _ (by omega)).trans hKC7.1,(hb9.block _ (by omega)).trans hKC7.2⟩
      have hz9:w.heap.size+5≤W9.heap.size:=Nat.le_trans hz7 hb9.size;clear x0 x1 x2 x3 x4 x5 x6 x7 x8;gi_wp2;refine ⟨hKW9.from _,hKC9,D,hid ?_,hid (by rw [List.length_append,HPL.out]; exact HST.out HCO.out),hI9,hz9⟩;rw [List.length_append,HPL.out];have:=HDN.out;rw [if_neg (by decide)] at this;exact this.symm
     | false=>
      have HRG:Hid (∀ W,Calls Tryz.prog 143 #[ckVal p f,.int .i64 rg] W (Ret (.bool false) W)):=hid (fun W=>by have:=reg_any p f rg hr W; rwa [hrg] at this);have HNO:=hid (HBAD.out (fun hc=>by rcases hc with ⟨-,-,h⟩ | ⟨h,-⟩ | ⟨h,-⟩ <;> first | (rw [hrg] at h; cases h) | exact absurd h (by decide)));clear hrg hok;gi_wp2;refine (CallsIn.inRound lp (callsIn_wide.2 (HRG.out _))).mono ?_;rintro e W9 ⟨rfl,hb9⟩;have hg9:W7.grownBy W9 none:=⟨hb9.os,hb9.tape,hb9.output,hb9.size,fun k hk _=>hb9.block k hk⟩
      have hI9:=hI7.kept hg9 (fun r e=>by cases e);have hKW9:=hKW7.trans (KeepsOthers.of_grownBy hg9 (fun _ _ e=>by cases e));have hKC9:KeepsC (w.heap.size+3) W W9:=⟨(hb9.block _ (by omega)).trans hKC7.1,(hb9.block _ (by omega)).trans hKC7.2⟩
      have hz9:w.heap.size+5≤W9.heap.size:=Nat.le_trans hz7 hb9.size;clear x0 x1 x2 x3 x4 x5 x6 x7 x8 q1 q2;have q1:=hI9.er.cell;have q2:=hI9.er.frozen;gi_wp2;exact ⟨(hKW9.trans (KeepsOthers.setCell W9 _ _)).from _,rfl,hI9.stop hz9 HNO (by decide)⟩
    ·have en:(nn != 0)=true:=by simpa using hn0
     have HNO:=hid (HBAD.out (fun hc=>by rcases hc with ⟨-,h,-⟩ | ⟨h,-⟩ | ⟨h,-⟩ <;> first | exact hn0 (hnn.2 h) | exact absurd h (by decide)));clear x0 x1 x2 x3 x4 x5 x6 x7 x8 hnn;have HN0:=hid hn0;clear hn0;gi_wp2;exact ⟨(hKW7.trans (KeepsOthers.setCell W7 _ _)).from _,rfl,hI7.stop hz7 HNO HN0.out⟩
   ·have e1k:(kd == 1)=false:=by simpa using k1
    by_cases k2:kd=2
    ·subst k2
     clear k1 k3;have HBX:=hid (fun (W':World) (hb:Below W0.heap.size W0 W')=>bx9 (hI0.kept (⟨hb.os,hb.tape,hb.output,hb.size,fun k hk _=>hb.block k hk⟩:W0.grownBy W' none) (fun r e=>by cases e)).cells);gi_wp2
     refine wp_region_round (S:=fun w'=>w'.cell? ⟨w.heap.size,0,none⟩=some (.slice p.funA p.funs.length p.funC)∧w'.cell? ⟨w.heap.size,1,none⟩=some (.slice p.obA p.obs.length p.obC)∧w'.cell? ⟨w.heap.size,2,none⟩=some (.slice p.vrA p.vrs.length p.vrC)∧w'.cell? ⟨w.heap.size,3,none⟩=some (.string f.name)∧w'.cell? ⟨w.heap.size,4,none⟩=some (.int .i64 f.params)∧w'.cell? ⟨w.heap.size,5,none⟩=some (.int .i64 f.regs)∧w'.cell? ⟨w.heap.size,6,none⟩=some (.int .i64 f.prio)∧w'.cell? ⟨w.heap.size,7,none⟩=some (.bool f.clean)∧w'.cell? ⟨w.heap.size,8,none⟩=some (.slice f.codeA f.code.length f.codeC)) (by kernel_rfl) (by kernel_rfl) (fun h=>by obtain ⟨_,_,h⟩:=h; exact h) (HBX.out _ (below_drews _ W0 1)) (fun hHeld=>?_);have hbd:=below_drews W0.heap.size W0 1
     change Below W0.heap.size W0 W0.drew at hbd;generalize W0.drew=Wd at hHeld hbd ⊢;refine tkH 0 rfl ?_;try simp only [frS,Act.put]
     refine tkH 2 rfl ?_;try simp only [frS,Act.put]
     refine rdH 1 rfl fun K hK=>?_
     go_simp;refine (HOFH.out _).mono ?_;rintro e W6 ⟨rfl,hb6⟩;try simp only []
     refine hK.out _ _ ?_ (fun hHeld=>?_)
     ·exact HBX.out _ (hbd.trans (hb6.mono hbd.size))
     clear hK K;try simp only [frS,Act.put]
     refine rdH 3 rfl fun K hK=>?_
     go_simp;refine (HOP.out _ (hbd.trans (hb6.mono hbd.size))).mono ?_;rintro e W7 ⟨nn,rfl,hnn,hb7⟩;try simp only []
     refine hK.out _ _ ?_ (fun hHeld=>?_)
     ·exact HBX.out _ ((hbd.trans (hb6.mono hbd.size)).trans (hb7.mono (hbd.trans (hb6.mono hbd.size)).size))
     clear hK K;try simp only [frS,Act.put]
     refine tkH 4 rfl ?_;try simp only [frS,Act.put]
     refine wpAnyH_done (by kernel_rfl) ?_ _
     try dsimp only [Exit.then]
     have hb8:Below W0.heap.size W0 W7:=(hbd.trans (hb6.mono hbd.size)).trans (hb7.mono (hbd.trans (hb6.mono hbd.size)).size);clear hHeld HBX hb6 hbd hb7;have hg7:W0.grownBy W7 none:=⟨hb8.os,hb8.tape,hb8.output,hb8.size,fun k hk _=>hb8.block k hk⟩
     have hI7:=hI0.kept hg7 (fun r e=>by cases e);have hKW7:=hKW0.trans (KeepsOthers.of_grownBy hg7 (fun _ _ e=>by cases e));have hKC7:KeepsC (w.heap.size+3) W W7:=⟨(hb8.block _ (by omega)).trans hKC0.1,(hb8.block _ (by omega)).trans hKC0.2⟩
     have hz7:w.heap.size+5≤W7.heap.size:=Nat.le_trans hz0 hb8.size;clear hb8;obtain ⟨x0,x1,x2,x3,x4,x5,x6,x7,x8⟩:=bx9 hI7.cells;have q1:=hI7.er.cell;have q2:=hI7.er.frozen;by_cases hn0:nn=0
     ·subst hn0
      have hok:=hnn.1 rfl;clear hnn x0 x1 x2 x3 x4 x5 x6 x7 x8;by_cases r0:rg=0
      ·subst r0
       have HCO:=hid (show caseOk p f 2 ch 0 from .inr (.inl ⟨rfl,hok,rfl⟩));clear hok q1 q2;gi_wp2;refine ⟨hKW7.from _,hKC7,D,hid ?_,hid (by rw [List.length_append,HPL.out]; exact HST.out HCO.out),hI7,hz7⟩;rw [List.length_append,HPL.out];have:=HDN.out;rw [if_neg (by decide)] at this;exact this.symm
      ·have er:(rg != 0)=true:=by simpa using r0
       have HNO:=hid (HBAD.out (fun hc=>by rcases hc with ⟨h,-⟩ | ⟨-,-,h⟩ | ⟨h,-⟩ <;> first | exact r0 h | exact absurd h (by decide)));clear r0 hok;gi_wp2;exact ⟨(hKW7.trans (KeepsOthers.setCell W7 _ _)).from _,rfl,hI7.stop hz7 HNO (by decide)⟩
     ·have en:(nn != 0)=true:=by simpa using hn0
      have HNO:=hid (HBAD.out (fun hc=>by rcases hc with ⟨h,-⟩ | ⟨-,h,-⟩ | ⟨h,-⟩ <;> first | exact hn0 (hnn.2 h) | exact absurd h (by decide)));clear x0 x1 x2 x3 x4 x5 x6 x7 x8 hnn;have HN0:=hid hn0;clear hn0;gi_wp2;exact ⟨(hKW7.trans (KeepsOthers.setCell W7 _ _)).from _,rfl,hI7.stop hz7 HNO HN0.out⟩
    ·have e2k:(kd == 2)=false:=by simpa using k2
     have HNO:=hid (HBAD.out (fun hc=>by rcases hc with ⟨h,-⟩ | ⟨h,-⟩ | ⟨h,-⟩ <;> first | exact k1 h | exact k2 h | exact k3 h));clear k1 k2 k3 HOP HOFH;gi_wp2;exact ⟨(hKW0.trans (KeepsOthers.setCell W0 _ _)).from _,rfl,hI0.stop hz0 HNO (by decide)⟩
end
section
open Go.RowKit Go.Shelf
theorem args3 (p:Prg) (f:Fn) (hf:f∈p.funs) (i:Ins) (hal:i.args.length≤maxLen) (hcap:i.args.length≤i.argC) (hr:0≤f.regs∧f.regs≤32) (hfit:∀ x∈i.args,-9223372036854775808≤x∧x≤9223372036854775807) (w:World) (h:Lies w w.heap.size p) (ha:Rd w w.heap.size 1 i.argA i.args.length (i64s i.args)) :
  Calls Tryz.prog 127 #[ckVal p f,.int .i64 3,i.val] w (RetE (argsOk p f 3 i) w):=by
 obtain ⟨V,hV⟩:∃ V,V=argsOk p f 3 i:=⟨_,rfl⟩
 rw [← hV]
 have HCS:Hid (∀ W,Below w.heap.size w W→Calls Tryz.prog 140 #[ckVal p f,.slice i.argA i.args.length i.argC] W (RetE V W)):=hid (fun W hb=>by
  rw [hV];exact cases_any p f hf i.args i.argA i.argC hal hcap hfit hr W (h.next hb) ((ha.below hb).more hb.size))
 clear hV;obtain ⟨op,a,b,c,args,argA,argC⟩:=i;unfold ckVal ckCells Ins.val Ins.cells;dsimp only at HCS ⊢;unfold ckVal ckCells at HCS;generalize args.length=N at HCS ⊢;have hT:=two_new w #[.slice p.funA p.funs.length p.funC,.slice p.obA p.obs.length p.obC,.slice p.vrA p.vrs.length p.vrC,.string f.name,.int .i64 f.params,.int .i64 f.regs,.int .i64 f.prio,.bool f.clean,.slice f.codeA f.code.length f.codeC] #[.int .i64 op,.int .i64 a,.int .i64 b,.int .i64 c,.slice argA N argC] 144 63;clear h ha hfit hcap hr hf;go_enter Tryz.func127,Tryz.ntmps127;go_wp2_with fail;generalize World.alloc (World.alloc w _) _=W1 at hT ⊢;refine (HCS.out _ hT.below).mono ?_;rintro e W4 ⟨n,rfl,hn,hb4⟩;have HN:=hid hn;clear hn;go_wp2_with fail;go_ret;exact ⟨n,rfl,HN.out,hT.below.trans (hb4.mono hT.below.size)⟩
theorem args_any (p:Prg) (f:Fn) (hf:f∈p.funs) (g:Nat) (hg:g≤3) (i:Ins) (hal:i.args.length≤maxLen) (hcap:i.args.length≤i.argC) (hr:0≤f.regs∧f.regs≤32) (hfit:∀ x∈i.args,-9223372036854775808≤x∧x≤9223372036854775807) (hb:g=1→inR2 i.b 0 ((p.funs.length:Int) - 1)=true) (w:World) (h:Lies w w.heap.size p) (ha:Rd w w.heap.size 1 i.argA i.args.length (i64s i.args)) :
  Calls Tryz.prog 127 #[ckVal p f,.int .i64 (g:Nat),i.val] w (RetE (argsOk p f g i) w):=by
 match g,hg with
 | 0,_=>exact args0 p f i hal hr w h ha
 | 1,_=>exact args1 p f i hal hr (hb rfl) w h ha
 | 2,_=>exact args2 p f i hal hr w h ha
 | 3,_=>exact args3 p f hf i hal hcap hr hfit w h ha
end
end Go.Proofs.YtkpjdanfpolimaaGreat
