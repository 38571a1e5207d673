/- lexer.read, with its recover, and lexer.Expr, walked. Conditions: the tokens lie in memory. -/
import Derived.Test.YtmbffkemfepekaaGreatDoorPtRd2
import Derived.Recover
import Derived.Deep.Cut
import Derived.Test.YtmbffkemfepekaaGreatDoorPtRtM
namespace Go.Proofs.YtmbffkemfepekaaGreatDoor
open Go.RowKit
theorem opd_all (A:Option Addr) (c:Nat) (ts:List Tk):∀ f,OpdC A c ts f∧BinC A c ts f
 | 0=>⟨fun B R k w h hne=>absurd (by simp only [pP]) hne,fun B R k p w h1 h2 h hne=>absurd (by simp only [pP]) hne⟩
 | f+1=>⟨operand_of (opd_all A c ts f).1 (opd_all A c ts f).2,binary_of (opd_all A c ts f).1 (opd_all A c ts f).2⟩
theorem results_cell3 {fn:Func} {a b d:Tmp} {t u v:TypeId} (h:fn.results=#[.cell a t,.cell b u,.cell d v]) {tmps:Array Value} {P:Program} {w:World} {pa pb pd:Addr} {va vb vd:Value}
  (ha:tmps.getD a undef=.pointer (some pa)) (hb:tmps.getD b undef=.pointer (some pb)) (hd:tmps.getD d undef=.pointer (some pd)) (hva:(loadVar t pa).run P w=.ok va w) (hvb:(loadVar u pb).run P w=.ok vb w) (hvd:(loadVar v pd).run P w=.ok vd w) :
  (results fn tmps).run P w=.ok (.tuple #[va,vb,vd]) w:=by
 have hx:(asAddr (.pointer (some pa))).run P w=.ok pa w:=rfl
 have hy:(asAddr (.pointer (some pb))).run P w=.ok pb w:=rfl
 have hz:(asAddr (.pointer (some pd))).run P w=.ok pd w:=rfl
 have hp:∀ {α:Type} (x:α) (w:World),(pure x:Sem α).run P w=.ok x w:=fun _ _=>rfl
 unfold results
 rw [h]
 simp only [List.mapM_toArray,List.mapM_cons,List.mapM_nil,Sem.run_bind,run_map',ha,hb,hd,hx,hy,hz,hva,hvb,hvd,Result.andThen,hp]
 rfl
def zEx:Array Value:=#[.int .i64 0,.int .i64 0,.string ⟨#[]⟩,.int .i64 0,.slice none 0 0]
/-- The three results' boxes. -/
structure Res3 (E N F:Nat) (es:Array Value) (n f:Int) (W:World):Prop where
 ex:W.heap[E]? = some (.cells es 38 (0,0))
 nu:W.heap[N]? = some (.cells #[.int .i64 n] 3 (0,0))
 er:W.heap[F]? = some (.cells #[.int .i64 f] 27 (0,0))
theorem blk1 {W:World} {N:Nat} {u:Value} {T:TypeId} (h:W.heap[N]? = some (.cells #[u] T (0,0))):W.cell? ⟨N,0,none⟩=some u∧W.frozen? ⟨N,0,none⟩=false:=
 ⟨cell_of_row W N 0 _ _ _ h,by unfold World.frozen?; rw [h]; simp⟩
theorem blk1_set {W:World} {N:Nat} {u:Value} {T:TypeId} {fz:Nat × Nat} (h:W.heap[N]? = some (.cells #[u] T fz)) (v:Value):(W.setCell ⟨N,0,none⟩ v).heap[N]? = some (.cells #[v] T fz):=by
 simp [World.setCell,Array.getElem?_modify,h]
theorem res3_set {E N F:Nat} {W:World} {u0 u1 u2 u3 u4:Value} {n f:Int} (h:Res3 E N F #[u0,u1,u2,u3,u4] n f W) (hEN:E≠N) (hEF:E≠F) (hNF:N≠F) (v0 v1 v2 v3 v4:Value) (m g:Int) :
  Res3 E N F #[v0,v1,v2,v3,v4] m g (((((((W.setCell ⟨E,0,none⟩ v0).setCell ⟨E,1,none⟩ v1).setCell ⟨E,2,none⟩ v2).setCell ⟨E,3,none⟩ v3).setCell ⟨E,4,none⟩ v4).setCell ⟨N,0,none⟩ (.int .i64 m)).setCell ⟨F,0,none⟩ (.int .i64 g)) ∧
  (∀ k,k≠E→k≠N→k≠F→(((((((W.setCell ⟨E,0,none⟩ v0).setCell ⟨E,1,none⟩ v1).setCell ⟨E,2,none⟩ v2).setCell ⟨E,3,none⟩ v3).setCell ⟨E,4,none⟩ v4).setCell ⟨N,0,none⟩ (.int .i64 m)).setCell ⟨F,0,none⟩ (.int .i64 g)).heap[k]? = W.heap[k]?)∧∀ q,q≤E→q≤N→q≤F→Below q W (((((((W.setCell ⟨E,0,none⟩ v0).setCell ⟨E,1,none⟩ v1).setCell ⟨E,2,none⟩ v2).setCell ⟨E,3,none⟩ v3).setCell ⟨E,4,none⟩ v4).setCell ⟨N,0,none⟩ (.int .i64 m)).setCell ⟨F,0,none⟩ (.int .i64 g)):=by
 have h1:=blk_set5 h.ex v0 v1 v2 v3 v4
 have h2:=(heap_set5 (W:=W) (k:=N) (fun e=>hEN e.symm) v0 v1 v2 v3 v4).trans h.nu
 have h3:=(heap_set5 (W:=W) (k:=F) (fun e=>hEF e.symm) v0 v1 v2 v3 v4).trans h.er
 have h5:∀ q,q≤E→Below q W (((((W.setCell ⟨E,0,none⟩ v0).setCell ⟨E,1,none⟩ v1).setCell ⟨E,2,none⟩ v2).setCell ⟨E,3,none⟩ v3).setCell ⟨E,4,none⟩ v4):=fun q hq=>set5_below (Below.refl _ _) hq _ _ _ _ _
 have h4:∀ k,k≠E→(((((W.setCell ⟨E,0,none⟩ v0).setCell ⟨E,1,none⟩ v1).setCell ⟨E,2,none⟩ v2).setCell ⟨E,3,none⟩ v3).setCell ⟨E,4,none⟩ v4).heap[k]? = W.heap[k]?:=fun k hk=>heap_set5 hk v0 v1 v2 v3 v4
 generalize World.setCell _ ⟨E,4,none⟩ v4=V at h1 h2 h3 h4 h5 ⊢
 refine ⟨⟨?_,?_,?_⟩,fun k a b d=>?_,fun q a b d=>((h5 q a).setCell (p:=⟨N,0,none⟩) b _).setCell (p:=⟨F,0,none⟩) d _⟩
 ·rw [Below.heap_setCell _ ⟨F,0,none⟩ _ E hEF,Below.heap_setCell _ ⟨N,0,none⟩ _ E hEN]; exact h1
 ·rw [Below.heap_setCell _ ⟨F,0,none⟩ _ N hNF]; exact blk1_set h2 _
 ·exact blk1_set ((Below.heap_setCell _ ⟨N,0,none⟩ _ F (fun e=>hNF e.symm)).trans h3) _
 ·rw [Below.heap_setCell _ ⟨F,0,none⟩ _ k d,Below.heap_setCell _ ⟨N,0,none⟩ _ k b]; exact h4 k a
set_option maxRecDepth 100000 in
/-- The deferred closure, where nothing panics. -/
theorem catch_idle (E N F:Nat) (w:World):CallsD Tryz.prog 135 #[.pointer (some ⟨E,0,none⟩),.pointer (some ⟨N,0,none⟩),.pointer (some ⟨F,0,none⟩)] .returning w fun e u' w'=>e=.returned (.tuple #[])∧u'=.returning∧w'=w:=by
 refine callsD_of_wpS Tryz.func135 rfl fun c₀ cs hu=>?_
 simp only [Tryz.ntmps135,List.size_toArray,List.length_cons,List.length_nil,Nat.reduceAdd,Nat.reduceSub,Array.replicate_succ,Array.replicate_zero,List.push_toArray,List.append_toArray,List.nil_append,List.cons_append]
 apply wpS_seq
 apply wpS_region
 simp [wpOpsS,go_sem,recoverD,hu,Exit.thenS]
 refine wpS_of_wp ?_
 go_wp2_with fail
 refine ⟨rfl,.returning,?_,_,results_none rfl _ _ _,rfl,rfl,rfl⟩
 rw [← hu]
set_option maxRecDepth 100000 in
theorem catch_pan (E N F:Nat) (i:Nat) (older:List PanicEntry) (w:World) (hEN:E≠N) (hEF:E≠F) (hNF:N≠F) {es:Array Value} {u0 u1 u2 u3 u4:Value} (hes:es=#[u0,u1,u2,u3,u4]) {n f:Int} (h:Res3 E N F es n f w) :
  CallsD Tryz.prog 135 #[.pointer (some ⟨E,0,none⟩),.pointer (some ⟨N,0,none⟩),.pointer (some ⟨F,0,none⟩)] (.panicking ({ v:=.iface 175 (.int .i64 (i:Nat)),recovered:=false }::older)) w fun e u' w'=>
   e=.returned (.tuple #[])∧u'=.panicking ({ v:=.iface 175 (.int .i64 (i:Nat)),recovered:=true }::older)∧Res3 E N F zEx (i:Nat) 3 w'∧∀ q,q≤E→q≤N→q≤F→Below q w w':=by
 subst hes
 obtain ⟨⟨y0,y1,y2,y3,y4⟩,y5⟩:=blk5 h.ex
 obtain ⟨z0,z1⟩:=blk1 h.nu
 obtain ⟨x0,x1⟩:=blk1 h.er
 refine callsD_of_wpS Tryz.func135 rfl fun c₀ cs hu=>?_
 simp only [Tryz.ntmps135,List.size_toArray,List.length_cons,List.length_nil,Nat.reduceAdd,Nat.reduceSub,Array.replicate_succ,Array.replicate_zero,List.push_toArray,List.append_toArray,List.nil_append,List.cons_append]
 apply wpS_seq
 apply wpS_region
 simp [wpOpsS,go_sem,recoverD,hu,Exit.thenS]
 refine wpS_of_wp ?_
 have hta:∀ W,(Instr.typeAssert (.iface 175 (.int .i64 (i:Nat))) 20 175 true).run Tryz.prog W=.ok (.tuple #[.int .i64 (i:Nat),.bool true]) W:=fun W=>by kernel_rfl
 go_wp2_with fail
 obtain ⟨r1,-,r2⟩:=res3_set h hEN hEF hNF (.int .i64 0) (.int .i64 0) (.string ⟨#[]⟩) (.int .i64 0) (.slice none 0 0) (i:Nat) 3
 exact ⟨rfl,_,rfl,_,results_none rfl _ _ _,rfl,rfl,r1,r2⟩
theorem res3_new (w:World) (es:Array Value):Res3 w.heap.size (w.heap.size+1) (w.heap.size+1+1) es 0 0 (((w.alloc (.cells es 38)).alloc (.cells #[.int .i64 0] 3)).alloc (.cells #[.int .i64 0] 27)) ∧
  Below w.heap.size w (((w.alloc (.cells es 38)).alloc (.cells #[.int .i64 0] 3)).alloc (.cells #[.int .i64 0] 27))∧(((w.alloc (.cells es 38)).alloc (.cells #[.int .i64 0] 3)).alloc (.cells #[.int .i64 0] 27)).heap.size=w.heap.size+3:=by
 have s1:(w.alloc (.cells es 38)).heap.size=w.heap.size+1:=by simp
 have s2:((w.alloc (.cells es 38)).alloc (.cells #[.int .i64 0] 3)).heap.size=w.heap.size+1+1:=by simp
 have b1:=below_alloc w (.cells es 38)
 have b2:=below_alloc (w.alloc (.cells es 38)) (.cells #[.int .i64 0] 3)
 have b3:=below_alloc ((w.alloc (.cells es 38)).alloc (.cells #[.int .i64 0] 3)) (.cells #[.int .i64 0] 27)
 refine ⟨⟨?_,?_,?_⟩,(b1.trans (b2.mono b1.size)).trans (b3.mono (Nat.le_trans b1.size b2.size)),by simp⟩
 ·exact (b3.block _ (by omega)).trans ((b2.block _ (by omega)).trans (heap_alloc_new w _))
 ·rw [← s1]
  exact (b3.block _ (by omega)).trans (heap_alloc_new _ _)
 ·rw [← s2]
  exact heap_alloc_new _ _
/-- What read gives. -/
def ReadR (n:Nat) (r:PR) (w:World):Ending→World→Prop:=fun e W=>Below w.heap.size w W∧match r with
 | .ok x i=>∃ vs,e=.returned (.tuple #[.agg vs.toArray,.int .i64 (i:Nat),.int .i64 0])∧LiesE (mask (fun X=>decide (X<w.heap.size)) W) W.heap.size vs x∧i≤n
 | .bad i=>e=.returned (.tuple #[.agg zEx,.int .i64 (i:Nat),.int .i64 3])
 | .out=>True
theorem load1 {W:World} {N:Nat} {u:Value} {T t:TypeId} {fz:Nat × Nat} (ht:(isAgg t).run Tryz.prog W=.ok false W) (h:W.heap[N]? = some (.cells #[u] T fz)):(loadVar t ⟨N,0,none⟩).run Tryz.prog W=.ok u W:=
 load_cell ht (cell_of_row W N 0 _ _ _ h)
set_option maxRecDepth 100000 in
set_option maxHeartbeats 6400000 in
theorem read_any {B:Nat} {A:Option Addr} {c:Nat} {ts:List Tk} (w:World) (hR:Rd w B 4 A ts.length (tkCs ts)) (hB:B≤w.heap.size) (hen:Env B w) (hlen:ts.length≤4001) (hok:∀ t∈ts,TkOk t) :
  Calls Tryz.prog 82 #[.slice A ts.length c] w (ReadR ts.length (readP ts) w):=by
 have hmf:∀ (fn:Fn) (first cap:Array Value) (w:World),(Instr.makeFunc fn first cap).run Tryz.prog w=.ok (.func fn first cap) w:=fun _ _ _ _=>rfl
 have hne:=readP_ne ts
 have HI:=Lib.hid (fun (R:Nat) (W:World) (h:Rdr B R A c ts 0 W)=>(opd_all A c ts (8 * ts.length+8)).2 B R 0 1 W (by omega) (by omega) h hne)
 change Hid (∀ (R:Nat) (W:World),Rdr B R A c ts 0 W→Calls Tryz.prog 136 #[.pointer (some ⟨R,0,none⟩),.int .i64 1] W (OpdR R A c ts (readP ts) W)) at HI
 obtain ⟨hS,hb1,hz1⟩:=res3_new w zEx
 have HRD:Hid (∀ W,Below w.heap.size w W→w.heap.size+3≤W.heap.size→Rdr B W.heap.size A c ts 0 (W.alloc (.cells #[.slice A ts.length c,.int .i64 0] 179))):=Lib.hid (fun W hb hz=>by
  have hb2:=(hb.trans ((below_alloc W (.cells #[.slice A ts.length c,.int .i64 0] 179)).mono hb.size)).mono hB
  exact ⟨heap_alloc_new W _,hR.below hb2,hen.next hb2,by omega,Nat.zero_le _,hlen,hok⟩)
 clear hR hen hok hlen
 generalize readP ts=pr at hne HI ⊢
 unfold OpdR at HI
 unfold zEx at hS hb1 hz1
 go_enter_defers Tryz.func82,Tryz.ntmps82
 go_upto_region 1 with fail
 generalize World.alloc _ _=w1 at hS hb1 hz1 ⊢
 obtain ⟨E,hE⟩:∃ E,E=w.heap.size:=⟨_,rfl⟩
 obtain ⟨N,hN⟩:∃ N,N=w.heap.size+1:=⟨_,rfl⟩
 obtain ⟨F,hF⟩:∃ F,F=w.heap.size+1+1:=⟨_,rfl⟩
 rw [← hF,← hN,← hE] at hS ⊢
 have hEN:E≠N:=by omega
 have hEF:E≠F:=by omega
 have hNF:N≠F:=by omega
 have hwE:w.heap.size≤E∧w.heap.size≤N∧w.heap.size≤F∧E<w1.heap.size∧N<w1.heap.size∧F<w1.heap.size:=by omega
 have hz1g:w.heap.size+3≤w1.heap.size:=by omega
 clear hE hN hF hz1
 go_upto_region 2 with fail
 have hrd:=HRD.out w1 hb1 (by omega)
 go_upto_region 3 with fail
 have hba:=below_alloc w1 (.cells #[.slice A ts.length c,.int .i64 0] 179)
 have hS2:Res3 E N F #[.int .i64 0,.int .i64 0,.string ⟨#[]⟩,.int .i64 0,.slice none 0 0] 0 0 (w1.alloc (.cells #[.slice A ts.length c,.int .i64 0] 179)):=⟨(hba.block E (by omega)).trans hS.ex,(hba.block N (by omega)).trans hS.nu,(hba.block F (by omega)).trans hS.er⟩
 have hb2:=hb1.trans (hba.mono hb1.size)
 have hz2:(w1.alloc (.cells #[.slice A ts.length c,.int .i64 0] 179)).heap.size=w1.heap.size+1:=by simp
 clear hba hS hb1 HRD
 generalize w1.alloc _=w2 at hrd hS2 hb2 hz2 ⊢
 obtain ⟨R,hR⟩:∃ R,R=w1.heap.size:=⟨_,rfl⟩
 rw [← hR] at hrd hz2 hwE ⊢
 clear hR hz1g
 have hER:E≠R∧N≠R∧F≠R:=by omega
 cases pr with
 | out=>exact absurd rfl hne
 | bad i=>
  go_wp2_with (go_at_call 136; refine (HI.out R w2 hrd).mono ?_; rintro e W6 ⟨ht6,rfl⟩)
  have hS6:Res3 E N F _ 0 0 W6:=⟨(ht6.block E (by omega) (by omega)).trans hS2.ex,(ht6.block N (by omega) (by omega)).trans hS2.nu,(ht6.block F (by omega) (by omega)).trans hS2.er⟩
  refine leaves_cons (f:=135) (args:=#[.pointer (some ⟨E,0,none⟩),.pointer (some ⟨N,0,none⟩),.pointer (some ⟨F,0,none⟩)]) (by simp) (by simp [go_sem]) ?_
  refine (catch_pan E N F i [] W6 hEN hEF hNF rfl hS6).mono ?_
  rintro e u' W7 ⟨rfl,rfl,hS7,hk7⟩
  refine ⟨_,results_cell3 rfl rfl rfl rfl (load5 hS7.ex) (load1 (by kernel_rfl) hS7.nu) (load1 (by kernel_rfl) hS7.er),?_,rfl⟩
  have hb6:=hb2.trans ((ht6.below (by omega)).mono (by omega))
  exact hb6.trans (hk7 _ hwE.1 hwE.2.1 hwE.2.2.1)
 | ok x i=>
  go_upto_region 4 with (go_at_call 136; refine (HI.out R w2 hrd).mono ?_; rintro e W6 ⟨ht6,vs,rfl,hL6,hb6,hi6⟩; obtain ⟨A1,c1,row,rfl,-,-⟩:=hL6.form; have hE6:=(ht6.block E (by omega) (by omega)).trans hS2.ex; have hq6:=blk5 hE6; unfold exC)
  have hS6:Res3 E N F _ 0 0 W6:=⟨hE6,(ht6.block N (by omega) (by omega)).trans hS2.nu,(ht6.block F (by omega) (by omega)).trans hS2.er⟩
  have h6:=hrd.turn ht6 hb6 hi6
  have hz6:=ht6.size
  have hbw6:=hb2.trans ((ht6.below (by omega)).mono (by omega))
  have hS7:Res3 E N F _ 0 0 (((((W6.setCell ⟨E,0,none⟩ (.int .i64 x.kind)).setCell ⟨E,1,none⟩ (.int .i64 x.op)).setCell ⟨E,2,none⟩ (.string x.name)).setCell ⟨E,3,none⟩ (.int .i64 x.val)).setCell ⟨E,4,none⟩ (.slice A1 x.args.length c1)):=⟨blk_set5 hS6.ex _ _ _ _ _,(heap_set5 (Ne.symm hEN) _ _ _ _ _).trans hS6.nu,(heap_set5 (Ne.symm hEF) _ _ _ _ _).trans hS6.er⟩
  have hR7:=(heap_set5 (W:=W6) (E:=E) (k:=R) (by omega) (.int .i64 x.kind) (.int .i64 x.op) (.string x.name) (.int .i64 x.val) (.slice A1 x.args.length c1)).trans h6.blk
  have hb7:=set5_below hbw6 (B:=E) hwE.1 (.int .i64 x.kind) (.int .i64 x.op) (.string x.name) (.int .i64 x.val) (.slice A1 x.args.length c1)
  have hL7:=hL6.turn (W:=(((((W6.setCell ⟨E,0,none⟩ (.int .i64 x.kind)).setCell ⟨E,1,none⟩ (.int .i64 x.op)).setCell ⟨E,2,none⟩ (.string x.name)).setCell ⟨E,3,none⟩ (.int .i64 x.val)).setCell ⟨E,4,none⟩ (.slice A1 x.args.length c1))) (q:=fun X=>decide (X<w2.heap.size)) (fun X _ h=>h) (Nat.le_refl _) (fun X _ hX=>heap_set5 (by have:=of_decide_eq_false hX; omega) _ _ _ _ _)
  rw [← set5_size W6 E (.int .i64 x.kind) (.int .i64 x.op) (.string x.name) (.int .i64 x.val) (.slice A1 x.args.length c1)] at hL7
  clear hS6 h6 hbw6 hq6 hE6 hL6 hb6
  generalize World.setCell _ ⟨E,4,none⟩ _=w7 at hS7 hR7 hb7 hL7 ⊢
  obtain ⟨⟨y0,y1,y2,y3,y4⟩,y5⟩:=blk5 hS7.ex
  obtain ⟨z0,z1⟩:=blk1 hS7.nu
  obtain ⟨v0,v1⟩:=blk1 hS7.er
  have c1':w7.cell? ⟨R,1,none⟩=some (.int .i64 (i:Nat)):=cell_of_row w7 R 1 _ _ (0,0) hR7
  go_region
  obtain ⟨r1,r2,r3⟩:=res3_set hS7 hEN hEF hNF (.int .i64 x.kind) (.int .i64 x.op) (.string x.name) (.int .i64 x.val) (.slice A1 x.args.length c1) (i:Nat) 0
  have hL8:=hL7.turn (W:=(((((((w7.setCell ⟨E,0,none⟩ (.int .i64 x.kind)).setCell ⟨E,1,none⟩ (.int .i64 x.op)).setCell ⟨E,2,none⟩ (.string x.name)).setCell ⟨E,3,none⟩ (.int .i64 x.val)).setCell ⟨E,4,none⟩ (.slice A1 x.args.length c1)).setCell ⟨N,0,none⟩ (.int .i64 (i:Nat))).setCell ⟨F,0,none⟩ (.int .i64 0))) (q:=fun X=>decide (X<w2.heap.size)) (fun X _ h=>h) (r3 0 (Nat.zero_le _) (Nat.zero_le _) (Nat.zero_le _)).size (fun X _ hX=>r2 X (by have:=of_decide_eq_false hX; omega) (by have:=of_decide_eq_false hX; omega) (by have:=of_decide_eq_false hX; omega))
  have hb8:=hb7.trans (r3 _ hwE.1 hwE.2.1 hwE.2.2.1)
  clear y0 y1 y2 y3 y4 y5 z0 z1 v0 v1 c1' hS7 hR7 hb7 hL7 r2 r3
  generalize World.setCell _ ⟨F,0,none⟩ _=w8 at r1 hL8 hb8 ⊢
  go_wp2_with fail
  refine leaves_cons (f:=135) (args:=#[.pointer (some ⟨E,0,none⟩),.pointer (some ⟨N,0,none⟩),.pointer (some ⟨F,0,none⟩)]) (by simp) (by simp [go_sem]) ?_
  refine (catch_idle E N F w8.drew).mono ?_
  rintro e u' W9 ⟨rfl,rfl,rfl⟩
  refine ⟨_,results_cell3 rfl rfl rfl rfl (load5 r1.ex) (load1 (by kernel_rfl) r1.nu) (load1 (by kernel_rfl) r1.er),hb8.trans (below_drews _ _ 1),_,rfl,hL8.turn (W:=w8.drew) (fun X _ h=>by have:=of_decide_eq_false h; have:=hb2.size; exact decide_eq_false (by omega)) (Nat.le_refl _) (fun X _ _=>rfl),hi6⟩
end Go.Proofs.YtmbffkemfepekaaGreatDoor

namespace Go.Proofs.YtmbffkemfepekaaGreatDoor

/-- The tokens from an index on, apart from their places. -/
def AtT (ts:List Tk) (k:Nat) (us:List Tk):Prop:=(ts.drop k).map strip=us
theorem AtT.head {ts:List Tk} {k:Nat} {t:Tk} {us:List Tk} (h:AtT ts k (t::us)):∃ t',ts[k]? = some t'∧strip t'=t∧AtT ts (k+1) us:=by
 unfold AtT at h
 cases hd:ts.drop k with
 | nil=>rw [hd] at h; cases h
 | cons t' r=>
  rw [hd,List.map_cons] at h
  injection h with h1 h2
  refine ⟨t',?_,h1,?_⟩
  ·have:=congrArg (fun l=>l[0]?) hd
   simpa using this
  ·unfold AtT
   rw [show ts.drop (k+1)=(ts.drop k).drop 1 from by rw [List.drop_drop],hd]
   exact h2
theorem AtT.skip {ts:List Tk} {k:Nat} {us vs:List Tk} (h:AtT ts k (us++vs)):AtT ts (k+us.length) vs:=by
 unfold AtT at h ⊢
 rw [← List.drop_drop,List.map_drop,h]
 exact List.drop_left
/-- Names that are no keywords. -/
def NK (e:Ex):Prop:=∀ x∈pre e,x.kind=2→kwB x.name=false
theorem NK.un {o:Int} {a:Ex} (h:NK (exUn o a)):NK a:=fun x hx=>h x (mem_pre_arg (by simp) hx)
theorem NK.binl {o:Int} {a b:Ex} (h:NK (exBin o a b)):NK a:=fun x hx=>h x (mem_pre_arg (by simp) hx)
theorem NK.binr {o:Int} {a b:Ex} (h:NK (exBin o a b)):NK b:=fun x hx=>h x (mem_pre_arg (by simp) hx)
end Go.Proofs.YtmbffkemfepekaaGreatDoor
