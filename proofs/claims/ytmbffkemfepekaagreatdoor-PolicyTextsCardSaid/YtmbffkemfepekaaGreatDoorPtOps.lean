/- expr.operators, walked: a map with thirteen operators. Conditions: none. -/
import Derived.Test.YtmbffkemfepekaaGreatDoorPtBase
import Derived.Carry
import Derived.RangeFuncRecord
import Derived.MapKept
import Derived.Laws.EntriesVeiled
import Derived.Laws.RangeAny
import Derived.RegionTactic
import Derived.BigRegion
import Derived.Deep.RegionWith
import Derived.Deep.RegionHeld3
import Derived.Deep.DeepCutAuto
namespace Go.Proofs.YtmbffkemfepekaaGreatDoor
open Go.RowKit Go.Instr
/-- What the first entry with a key holds. -/
def findKV:List (Int × Value)→Int→Nat→Option (Nat × Value)
 | [],_,_=>none
 | (k,v)::r,x,i=>if x=k then some (i,v) else findKV r x (i+1)
/-- Block b is a map from numbers with those entries. -/
def MapKV (W:World) (b:Nat) (kv:List (Int × Value)):Prop:=∃ es clock,W.heap[b]? = some (.map es clock)∧es.toList.map (fun e=>(e.key,e.val))=kv.map fun x=>(Value.int .i64 x.1,x.2)
theorem findNow_kv:∀ (es:List MapEntry) (kv:List (Int × Value)) (x:Int) (i:Nat),es.map (fun e=>(e.key,e.val))=kv.map (fun x=>(Value.int .i64 x.1,x.2))→findNow (.int .i64) (.int .i64 x) es i=some (findKV kv x i)
 | [],[],_,_,_=>rfl
 | [],_::_,_,_,h=>by simp at h
 | _::_,[],_,_,h=>by simp at h
 | e::es,(k,v)::kv,x,i,h=>by
  simp only [List.map_cons,List.cons.injEq,Prod.mk.injEq] at h
  obtain ⟨⟨h1,h2⟩,h3⟩:=h
  unfold findNow findKV
  rw [h1,h2]
  by_cases hx:x=k
  ·simp [sameNow,hx]
  ·simp only [sameNow,if_true,beq_eq_false_iff_ne.2 hx,if_neg hx]
   exact findNow_kv es kv x (i+1) h3
theorem MapKV.below {W W':World} {b B:Nat} {kv:List (Int × Value)} (h:MapKV W b kv) (hb:Below B W W') (hB:b<B):MapKV W' b kv:=by
 obtain ⟨es,clock,h1,h2⟩:=h
 exact ⟨es,clock,(hb.block b hB).trans h1,h2⟩
theorem MapKV.lt {W:World} {b:Nat} {kv:List (Int × Value)} (h:MapKV W b kv):b<W.heap.size:=by
 obtain ⟨es,clock,h1,h2⟩:=h
 exact (Array.getElem?_eq_some_iff.1 h1).1
theorem MapKV.new (w:World):MapKV (w.alloc (.map #[] 0)) w.heap.size []:=⟨#[],0,World.alloc_heap_new w _,rfl⟩
theorem isMap_ops:Tryz.prog.underlying 125=some (.map 3 124):=Tryz.underlying125
/-- A look into such a map. -/
theorem MapKV.look {W:World} {b:Nat} {kv:List (Int × Value)} (h:MapKV W b kv) (x:Int) (ok:Bool):(Instr.lookup 125 (.map (some b)) (.int .i64 x) ok).run Tryz.prog W =
  .ok (match findKV kv x 0 with | some (_,v)=>if ok then .tuple #[v,.bool true] else v | none=>if ok then .tuple #[.agg #[.string ⟨#[]⟩,.int .i64 0,.int .i64 0,.int .i64 0,.nilFunc],.bool false] else .agg #[.string ⟨#[]⟩,.int .i64 0,.int .i64 0,.int .i64 0,.nilFunc]) W:=by
 obtain ⟨es,clock,h1,h2⟩:=h
 have hz:(zeroValue 124).run Tryz.prog W=.ok (.agg #[.string ⟨#[]⟩,.int .i64 0,.int .i64 0,.int .i64 0,.nilFunc]) W:=by kernel_rfl
 have hf:=findNow_kv es.toList kv x 0 h2
 have hck:(checkKey es.isEmpty 10000 3 (.int .i64 x)).run Tryz.prog W=.ok () W:=by
  exact MapKept.run_checkKey Tryz.underlying3 (by simp [MapKept.IsKey]) _ 9999
 simp only [Instr.lookup,Sem.run_bind,run_underlying isMap_ops,Result.andThen,getObj,Sem.run,h1,hck,findKey,run_underlying Tryz.underlying3,hf,Sem.run_pure]
 cases findKV kv x 0 with
 | none=>cases ok <;> simp [hz,Result.andThen]
 | some p=>obtain ⟨i,v⟩:=p; cases ok <;> simp [Sem.run_pure]
/-- A new key is put in. -/
theorem MapKV.put {W:World} {b:Nat} {kv:List (Int × Value)} (h:MapKV W b kv) (x:Int) (v:Value) (hn:findKV kv x 0=none) :
  ∃ W',(Instr.mapUpdate 125 (.map (some b)) (.int .i64 x) v).run Tryz.prog W=.ok () W'∧MapKV W' b (kv++[(x,v)])∧Turn b (b+1) W W'∧W'.heap.size=W.heap.size:=by
 obtain ⟨es,clock,h1,h2⟩:=h
 have hlt:=(Array.getElem?_eq_some_iff.1 h1).1
 have hf:=findNow_kv es.toList kv x 0 h2
 rw [hn] at hf
 have hck:(checkKey false 10000 3 (.int .i64 x)).run Tryz.prog W=.ok () W:=by
  exact MapKept.run_checkKey Tryz.underlying3 (by simp [MapKept.IsKey]) _ 9999
 refine ⟨W.putObj b (.map (es.push { key:=.int .i64 x,val:=v,born:=clock }) (clock+1)),?_,⟨_,_,World.putObj_heap_same hlt,by simp [h2]⟩,⟨rfl,rfl,rfl,by simp [World.putObj],fun k hk hr=>World.putObj_heap_other (by omega)⟩,by simp [World.putObj]⟩
 simp only [Instr.mapUpdate,Sem.run_bind,run_underlying isMap_ops,Result.andThen,getObj,Sem.run,h1,hck,findKey,run_underlying Tryz.underlying3,hf,Sem.run_pure,setObj]
 rfl
theorem upon_skip {P:Program} {o:Oper} {a:Act} {K:Act→World→Prop} {Q:Exit→Act→World→Prop} {r:Result Unit} {R:World→Prop} (h:∃ W',r=.ok () W'∧R W') (hK:∀ W',R W'→o.upon P a K Q (.ok .skip W')):o.upon P a K Q (r.andThen fun _ w'=>.ok .skip w'):=by
 obtain ⟨W',rfl,hR⟩:=h
 exact hK W' hR
/-- number and divide box their argument; truth boxes twice. -/
theorem number_any (g:Fn) (c1 c2:Array Value) (w:World):Calls Tryz.prog 116 #[.func g c1 c2] w fun e W=>e=.returned (.func (.func 154) #[] #[.pointer (some ⟨w.heap.size,0,none⟩)])∧W=w.alloc (.cells #[.func g c1 c2] 87):=by
 go_enter Tryz.func116,Tryz.ntmps116
 go_wp2_with fail
 go_ret
 exact ⟨rfl,rfl⟩
theorem divide_any (g:Fn) (c1 c2:Array Value) (w:World):Calls Tryz.prog 120 #[.func g c1 c2] w fun e W=>e=.returned (.func (.func 155) #[] #[.pointer (some ⟨w.heap.size,0,none⟩)])∧W=w.alloc (.cells #[.func g c1 c2] 87):=by
 go_enter Tryz.func120,Tryz.ntmps120
 go_wp2_with fail
 go_ret
 exact ⟨rfl,rfl⟩
theorem truth_any (g:Fn) (c1 c2:Array Value) (w:World):Calls Tryz.prog 123 #[.func g c1 c2] w fun e W=>e=.returned (.func (.func 154) #[] #[.pointer (some ⟨w.heap.size+1,0,none⟩)]) ∧
  W=(w.alloc (.cells #[.func g c1 c2] 173)).alloc (.cells #[.func (.func 156) #[] #[.pointer (some ⟨w.heap.size,0,none⟩)]] 87):=by
 go_enter Tryz.func123,Tryz.ntmps123
 go_wp2_with (go_at_call 116; refine (number_any _ _ _ _).mono ?_; rintro e w5 ⟨rfl,rfl⟩)
 go_ret
 exact ⟨rfl,rfl⟩
/-- The operators' entries; their closures' boxes lie behind block M. -/
def opsKV (M:Nat):List (Int × Value):=[(3,.agg #[.string ⟨#[43]⟩,.int .i64 4,.int .i64 1,.int .i64 1,.func (.func 154) #[] #[.pointer (some ⟨M+1,0,none⟩)]]),(4,.agg #[.string ⟨#[45]⟩,.int .i64 4,.int .i64 1,.int .i64 1,.func (.func 154) #[] #[.pointer (some ⟨M+2,0,none⟩)]]),(5,.agg #[.string ⟨#[42]⟩,.int .i64 5,.int .i64 1,.int .i64 1,.func (.func 119) #[] #[]]),(6,.agg #[.string ⟨#[47]⟩,.int .i64 5,.int .i64 1,.int .i64 1,.func (.func 155) #[] #[.pointer (some ⟨M+3,0,none⟩)]]),(7,.agg #[.string ⟨#[37]⟩,.int .i64 5,.int .i64 1,.int .i64 1,.func (.func 155) #[] #[.pointer (some ⟨M+4,0,none⟩)]]),(8,.agg #[.string ⟨#[61,61]⟩,.int .i64 3,.int .i64 0,.int .i64 2,.func (.func 154) #[] #[.pointer (some ⟨M+6,0,none⟩)]]),(9,.agg #[.string ⟨#[33,61]⟩,.int .i64 3,.int .i64 0,.int .i64 2,.func (.func 154) #[] #[.pointer (some ⟨M+8,0,none⟩)]]),(10,.agg #[.string ⟨#[60]⟩,.int .i64 3,.int .i64 1,.int .i64 2,.func (.func 154) #[] #[.pointer (some ⟨M+10,0,none⟩)]]),(11,.agg #[.string ⟨#[60,61]⟩,.int .i64 3,.int .i64 1,.int .i64 2,.func (.func 154) #[] #[.pointer (some ⟨M+12,0,none⟩)]]),(12,.agg #[.string ⟨#[62]⟩,.int .i64 3,.int .i64 1,.int .i64 2,.func (.func 154) #[] #[.pointer (some ⟨M+14,0,none⟩)]]),(13,.agg #[.string ⟨#[62,61]⟩,.int .i64 3,.int .i64 1,.int .i64 2,.func (.func 154) #[] #[.pointer (some ⟨M+16,0,none⟩)]]),(14,.agg #[.string ⟨#[38,38]⟩,.int .i64 2,.int .i64 2,.int .i64 2,.func (.func 154) #[] #[.pointer (some ⟨M+18,0,none⟩)]]),(15,.agg #[.string ⟨#[124,124]⟩,.int .i64 1,.int .i64 2,.int .i64 2,.func (.func 154) #[] #[.pointer (some ⟨M+20,0,none⟩)]])]
/-- A box of one cell. -/
def Bx1 (W:World) (b:Nat) (v:Value):Prop:=W.cell? ⟨b,0,none⟩=some v
theorem Bx1.new (w:World) (v:Value) (t:TypeId):Bx1 (w.alloc (.cells #[v] t)) w.heap.size v:=bx_new w #[v] t 0 _ rfl
theorem Bx1.below {W W':World} {b B:Nat} {v:Value} (h:Bx1 W b v) (hb:Below B W W') (hB:b<B):Bx1 W' b v:=(hb.cell (p:=⟨b,0,none⟩) hB).trans h
theorem Bx1.turn {lo hi b:Nat} {v:Value} {W W':World} (h:Bx1 W b v) (ht:Turn lo hi W W') (hb:hi≤b):Bx1 W' b v:=ht.cell h (.inr hb)
/-- The map under way: its entries, and the boxes laid behind it. -/
structure OpSt (w:World) (M:Nat) (kv:List (Int × Value)) (cs:List Value) (W:World):Prop where
 map:MapKV W M kv
 size:W.heap.size=M+1+cs.length
 below:Below M w W
 at_:∀ i v,cs[i]? = some v→Bx1 W (M+1+i) v
 lo:w.heap.size=M
theorem OpSt.box {w W:World} {M:Nat} {kv:List (Int × Value)} {cs:List Value} (h:OpSt w M kv cs W) (v:Value) (t:TypeId):OpSt w M kv (cs++[v]) (W.alloc (.cells #[v] t)):=by
 have hb:=below_alloc W (.cells #[v] t)
 have hs:=h.size
 refine ⟨h.map.below hb h.map.lt,by simp [hs]; omega,h.below.trans (hb.mono (by omega)),fun i u hu=>?_,h.lo⟩
 by_cases hi:i<cs.length
 ·rw [List.getElem?_append_left hi] at hu
  exact (h.at_ i u hu).below hb (by omega)
 ·have hi2:i=cs.length:=by
   have:=(List.getElem?_eq_some_iff.1 hu).1
   simp at this; omega
  subst hi2
  simp at hu
  subst hu
  rw [← hs]
  exact Bx1.new W v t
theorem OpSt.put {w W W':World} {M:Nat} {kv kv':List (Int × Value)} {cs:List Value} (h:OpSt w M kv cs W) (hm:MapKV W' M kv') (ht:Turn M (M+1) W W') (hz:W'.heap.size=W.heap.size):OpSt w M kv' cs W':=
 ⟨hm,hz.trans h.size,h.below.trans (ht.below (Nat.le_of_lt h.map.lt)),fun i v hv=>(h.at_ i v hv).turn ht (by omega),h.lo⟩
section
variable {w W:World} {M:Nat} {kv:List (Int × Value)} {cs:List Value}
theorem number_st (h:OpSt w M kv cs W) (g:Fn) (c1 c2:Array Value):Calls Tryz.prog 116 #[.func g c1 c2] W fun e W'=>e=.returned (.func (.func 154) #[] #[.pointer (some ⟨M+1+cs.length,0,none⟩)])∧OpSt w M kv (cs++[.func g c1 c2]) W':=
 (number_any g c1 c2 W).mono fun e W' ⟨h1,h2⟩=>by subst h2; exact ⟨by rw [h1,h.size],h.box _ _⟩
theorem divide_st (h:OpSt w M kv cs W) (g:Fn) (c1 c2:Array Value):Calls Tryz.prog 120 #[.func g c1 c2] W fun e W'=>e=.returned (.func (.func 155) #[] #[.pointer (some ⟨M+1+cs.length,0,none⟩)])∧OpSt w M kv (cs++[.func g c1 c2]) W':=
 (divide_any g c1 c2 W).mono fun e W' ⟨h1,h2⟩=>by subst h2; exact ⟨by rw [h1,h.size],h.box _ _⟩
theorem truth_st (h:OpSt w M kv cs W) (g:Fn) (c1 c2:Array Value):Calls Tryz.prog 123 #[.func g c1 c2] W fun e W'=>e=.returned (.func (.func 154) #[] #[.pointer (some ⟨M+1+(cs.length+1),0,none⟩)]) ∧
  OpSt w M kv (cs++[.func g c1 c2]++[.func (.func 156) #[] #[.pointer (some ⟨M+1+cs.length,0,none⟩)]]) W':=
 (truth_any g c1 c2 W).mono fun e W' ⟨h1,h2⟩=>by
  subst h2
  have h3:=(h.box (.func g c1 c2) 173).box (.func (.func 156) #[] #[.pointer (some ⟨W.heap.size,0,none⟩)]) 87
  rw [h.size] at h1 h3
  exact ⟨h1,by rw [h.size]; exact h3⟩
end
/-- The boxes, in order. -/
def opsCs (M:Nat):List Value:=[.func (.func 117) #[] #[],.func (.func 118) #[] #[],.func (.func 121) #[] #[],.func (.func 122) #[] #[],.func (.func 124) #[] #[],.func (.func 156) #[] #[.pointer (some ⟨M+5,0,none⟩)],.func (.func 125) #[] #[],.func (.func 156) #[] #[.pointer (some ⟨M+7,0,none⟩)],.func (.func 126) #[] #[],.func (.func 156) #[] #[.pointer (some ⟨M+9,0,none⟩)],.func (.func 127) #[] #[],.func (.func 156) #[] #[.pointer (some ⟨M+11,0,none⟩)],.func (.func 128) #[] #[],.func (.func 156) #[] #[.pointer (some ⟨M+13,0,none⟩)],.func (.func 129) #[] #[],.func (.func 156) #[] #[.pointer (some ⟨M+15,0,none⟩)],.func (.func 130) #[] #[],.func (.func 156) #[] #[.pointer (some ⟨M+17,0,none⟩)],.func (.func 131) #[] #[],.func (.func 156) #[] #[.pointer (some ⟨M+19,0,none⟩)]]
set_option maxRecDepth 100000 in
set_option maxHeartbeats 6400000 in
theorem operators_any (w:World):Calls Tryz.prog 71 #[] w fun e W=>e=.returned (.map (some w.heap.size))∧OpSt w w.heap.size (opsKV w.heap.size) (opsCs w.heap.size) W:=by
 obtain ⟨M,hM⟩:∃ M,M=w.heap.size:=⟨_,rfl⟩
 have HM:=Lib.hid hM
 rw [← hM]
 have hS:OpSt w M [] [] (w.alloc (.map #[] 0)):=⟨by rw [hM]; exact MapKV.new w,by simp [hM],by rw [hM]; exact below_alloc w _,fun i v hv=>by simp at hv,hM.symm⟩
 have hw:w.heap.size=M:=hM.symm
 have hmm:=@run_makeMap Tryz.prog
 clear hM
 go_enter Tryz.func71,Tryz.ntmps71
 iterate 13
  go_wp2_with (first
   | (go_at_call 116; refine (number_st hS _ _ _).mono ?_; clear hS; rintro e W5 ⟨rfl,hS⟩)
   | (go_at_call 120; refine (divide_st hS _ _ _).mono ?_; clear hS; rintro e W5 ⟨rfl,hS⟩)
   | (go_at_call 123; refine (truth_st hS _ _ _).mono ?_; clear hS; rintro e W5 ⟨rfl,hS⟩))
  refine upon_skip (hS.map.put _ _ (by rfl)) ?_
  rintro W6 ⟨hm5,ht5,hz5⟩
  replace hS:=hS.put hm5 ht5 hz5
  clear hm5 ht5 hz5
 go_wp2_with fail
 go_ret
 exact ⟨rfl,hS⟩
/-- Whether a number is that of an operator with two arguments. -/
def knownB (o:Int):Bool:=decide (3≤o) && decide (o≤15)
theorem known_cases {o:Int} (h:knownB o=true):o=3∨o=4∨o=5∨o=6∨o=7∨o=8∨o=9∨o=10∨o=11∨o=12∨o=13∨o=14∨o=15:=by
 unfold knownB at h
 simp only [Bool.and_eq_true,decide_eq_true_eq] at h
 omega
theorem find_none {M:Nat} {o:Int} (h:knownB o=false):findKV (opsKV M) o 0=none:=by
 have hno:¬ (3≤o∧o≤15):=by
  intro ⟨h1,h2⟩
  unfold knownB at h
  rw [decide_eq_true h1,decide_eq_true h2] at h; cases h
 simp only [opsKV,findKV]
 rw [if_neg (by omega),if_neg (by omega),if_neg (by omega),if_neg (by omega),if_neg (by omega),if_neg (by omega),if_neg (by omega),if_neg (by omega),if_neg (by omega),if_neg (by omega),if_neg (by omega),if_neg (by omega),if_neg (by omega)]
theorem find_some {M:Nat} {o:Int} (h:knownB o=true):∃ (i:Nat) (s:ByteArray) (p a r:Int) (g:Fn) (c:Array Value),findKV (opsKV M) o 0=some (i,.agg #[.string s,.int .i64 p,.int .i64 a,.int .i64 r,.func g #[] c]):=by
 rcases known_cases h with rfl | rfl | rfl | rfl | rfl | rfl | rfl | rfl | rfl | rfl | rfl | rfl | rfl <;> exact ⟨_,_,_,_,_,_,_,rfl⟩
theorem look_no {w W:World} {M:Nat} {cs:List Value} (h:OpSt w M (opsKV M) cs W) {o:Int} (hk:knownB o=false):∀ W',Below W.heap.size W W' →
  (Instr.lookup 125 (.map (some M)) (.int .i64 o) true).run Tryz.prog W'=.ok (.tuple #[.agg #[.string ⟨#[]⟩,.int .i64 0,.int .i64 0,.int .i64 0,.nilFunc],.bool false]) W':=
 fun W' hb=>by rw [(h.map.below hb h.map.lt).look o true,find_none hk]; rfl
theorem look_yes {w W:World} {M:Nat} {cs:List Value} (h:OpSt w M (opsKV M) cs W) {o:Int} (hk:knownB o=true):∃ (s:ByteArray) (p a r:Int) (g:Fn) (c:Array Value),∀ W',Below W.heap.size W W' →
  (Instr.lookup 125 (.map (some M)) (.int .i64 o) true).run Tryz.prog W'=.ok (.tuple #[.agg #[.string s,.int .i64 p,.int .i64 a,.int .i64 r,.func g #[] c],.bool true]) W':=by
 obtain ⟨i,s,p,a,r,g,c,hf⟩:=find_some (M:=M) hk
 exact ⟨s,p,a,r,g,c,fun W' hb=>by rw [(h.map.below hb h.map.lt).look o true,hf]; rfl⟩
/-- operators' contract for a region that looks an operator up beside it. -/
def OpsP (V:World) (b:Nat) (o:Int) (W:World) (M:Nat) (x:Value):Prop:=W.cell? ⟨b,1,none⟩=some (.int .i64 o)∧b<W.heap.size∧Below V.heap.size V W∧(Instr.lookup 125 (.map (some M)) (.int .i64 o) true).run Tryz.prog W=.ok x W ∧
  (∀ ob,(Instr.lookup 125 (.map (some M)) (.int .i64 o) true).run Tryz.prog (W.alloc ob)=.ok x (W.alloc ob))∧(∀ ob,(W.alloc ob).cell? ⟨b,1,none⟩=some (.int .i64 o))∧∀ ob:Obj,b<(W.alloc ob).heap.size
theorem OpsP.mk {V W:World} {b M:Nat} {o:Int} {x:Value} (h1:V.cell? ⟨b,1,none⟩=some (.int .i64 o)) (h2:b<V.heap.size) (hb:Below V.heap.size V W) (hl:∀ W',Below W.heap.size W W'→(Instr.lookup 125 (.map (some M)) (.int .i64 o) true).run Tryz.prog W'=.ok x W'):OpsP V b o W M x:=
 have q1:=(hb.cell (p:=⟨b,1,none⟩) h2).trans h1
 have q2:=Nat.lt_of_lt_of_le h2 hb.size
 ⟨q1,q2,hb,hl W (Below.refl _ _),fun _=>hl _ (below_alloc _ _),fun ob=>(World.cell?_alloc_lt W ob ⟨b,1,none⟩ q2).trans q1,fun ob=>Nat.lt_of_lt_of_le q2 (below_alloc W ob).size⟩
theorem ops_no (V:World) (b:Nat) (o:Int) (hk:knownB o=false) (h1:V.cell? ⟨b,1,none⟩=some (.int .i64 o)) (h2:b<V.heap.size):Calls Tryz.prog 71 #[] V fun e W=>∃ M:Nat,e=.returned (.map (some M))∧OpsP V b o W M (.tuple #[.agg #[.string ⟨#[]⟩,.int .i64 0,.int .i64 0,.int .i64 0,.nilFunc],.bool false]):=by
 refine (operators_any V).mono ?_
 rintro e W ⟨rfl,hS⟩
 exact ⟨_,rfl,OpsP.mk h1 h2 hS.below (look_no hS hk)⟩
theorem ops_yes (V:World) (b:Nat) (o:Int) (hk:knownB o=true) (h1:V.cell? ⟨b,1,none⟩=some (.int .i64 o)) (h2:b<V.heap.size):Calls Tryz.prog 71 #[] V fun e W=>∃ (M:Nat) (s:ByteArray) (p a r:Int) (g:Fn) (c:Array Value),e=.returned (.map (some M))∧OpsP V b o W M (.tuple #[.agg #[.string s,.int .i64 p,.int .i64 a,.int .i64 r,.func g #[] c],.bool true]):=by
 refine (operators_any V).mono ?_
 rintro e W ⟨rfl,hS⟩
 obtain ⟨s,p,a,r,g,c,hl⟩:=look_yes hS hk
 exact ⟨_,s,p,a,r,g,c,rfl,OpsP.mk h1 h2 hS.below hl⟩

end Go.Proofs.YtmbffkemfepekaaGreatDoor

namespace Go.Proofs.YtmbffkemfepekaaGreatDoor
open Go.RowKit
/-- All bytes ahead of a place may stand in a name. -/
def okTo (s:ByteArray) (pos:Nat):Prop:=∀ (j:Nat) (h:j<s.size),j<pos→inB s[j]=true∧(j=0→letB s[j]=true)
theorem get_list (s:ByteArray) (j:Nat) (h:j<s.size):s.data.toList[j]? = some s[j]:=by
 rw [Array.getElem?_toList,Array.getElem?_eq_getElem (by simpa using h)]; rfl
theorem nmB_yes {s:ByteArray} (h:okTo s s.size) (h1:1≤s.size) (h2:s.size≤30):nmB s=true:=by
 have hl:s.data.toList.length=s.size:=by simp
 unfold nmB nmL
 cases e:s.data.toList with
 | nil=>rw [e] at hl; simp at hl; omega
 | cons c r=>
  have h0:=h 0 (by omega) (by omega)
  have hc:s[0]=c:=by have:=get_list s 0 (by omega); rw [e] at this; simpa using this.symm
  have hl2:(c::r).length=s.size:=by rw [← e]; exact hl
  rw [hl2,decide_eq_true h1,decide_eq_true h2]
  simp only [Bool.true_and,Bool.and_eq_true]
  refine ⟨by rw [← hc]; exact h0.2 rfl,List.all_eq_true.2 fun x hx=>?_⟩
  rw [← e] at hx
  obtain ⟨j,hj,rfl⟩:=List.getElem_of_mem hx
  have hjs:j<s.size:=by rw [← hl]; exact hj
  have:=get_list s j hjs
  rw [List.getElem?_eq_getElem hj] at this
  injection this with this
  rw [this]
  exact (h j hjs hjs).1
theorem nmB_no {s:ByteArray} (j:Nat) (h:j<s.size) (hb:inB s[j]=false∨(j=0∧letB s[j]=false)):nmB s=false:=by
 cases hn:nmB s with
 | false=>rfl
 | true=>
  exfalso
  unfold nmB nmL at hn
  simp only [Bool.and_eq_true] at hn
  obtain ⟨⟨⟨-,-⟩,h3⟩,h4⟩:=hn
  have hg:=get_list s j h
  have hm:s[j]∈s.data.toList:=List.mem_of_getElem? hg
  have h5:=List.all_eq_true.1 h4 _ hm
  rcases hb with hb | ⟨rfl,hb⟩
  ·rw [h5] at hb; cases hb
  ·cases e:s.data.toList with
   | nil=>rw [e] at hg; simp at hg
   | cons c r=>
    rw [e] at hg h3
    simp at hg h3
    rw [← hg,h3] at hb; cases hb
theorem nmB_len {s:ByteArray} (h:s.size<1∨30<s.size):nmB s=false:=by
 have hl:s.data.toList.length=s.size:=by simp
 unfold nmB nmL
 rw [hl]
 rcases h with h | h
 ·rw [decide_eq_false (by omega:¬ 1≤s.size)]; simp
 ·rw [decide_eq_false (by omega:¬ s.size≤30)]; simp
set_option maxRecDepth 100000 in
theorem letter_any (n:Nat) (w:World):Calls Tryz.prog 146 #[.int .i32 (n:Nat)] w fun e W=>e=.returned (.bool (decide (97≤n) && decide (n≤122)))∧W=w:=by
 by_cases h1:97≤n
 ·have e1:decide ((97:Int)≤(n:Int))=true:=decide_eq_true (by omega)
  have e2:decide (97≤n)=true:=decide_eq_true h1
  by_cases h2:n≤122
  ·have e3:decide ((n:Int)≤(122:Int))=true:=decide_eq_true (by omega)
   have e4:decide (n≤122)=true:=decide_eq_true h2
   rw [e2,e4]
   go_enter Tryz.func146,Tryz.ntmps146
   go_wp2_with fail
   go_ret
   exact ⟨rfl,rfl⟩
  ·have e3:decide ((n:Int)≤(122:Int))=false:=decide_eq_false (by omega)
   have e4:decide (n≤122)=false:=decide_eq_false h2
   rw [e2,e4]
   go_enter Tryz.func146,Tryz.ntmps146
   go_wp2_with fail
   go_ret
   exact ⟨rfl,rfl⟩
 ·have e1:decide ((97:Int)≤(n:Int))=false:=decide_eq_false (by omega)
  have e2:decide (97≤n)=false:=decide_eq_false h1
  rw [e2]
  go_enter Tryz.func146,Tryz.ntmps146
  go_wp2_with fail
  go_ret
  exact ⟨rfl,rfl⟩
theorem letter_is (n:Nat) (b:Bool) (hb:(decide (97≤n) && decide (n≤122))=b) (w:World):Calls Tryz.prog 146 #[.int .i32 (n:Nat)] w fun e W=>e=.returned (.bool b)∧W=w:=by
 subst hb; exact letter_any n w
set_option maxRecDepth 100000 in
set_option maxHeartbeats 3200000 in
theorem isName_any (s:ByteArray) (hs:s.size≤9223372036854775807) (w:World):Calls Tryz.prog 104 #[.string s] w (Ret (.bool (nmB s)) w):=by
 unfold Ret
 go_enter Tryz.func104,Tryz.ntmps104
 go_wp2_with fail
 go_loopw [2] (fun r wr=>r=.bool false∧∃ pos:Nat,wr=w.iter s pos∧pos≤s.size∧Hid (okTo s pos)) (fun _ wr=>s.size - wr.iterPos w.heap.size)
 case atStart=>exact ⟨rfl,0,rfl,Nat.zero_le _,Lib.hid (fun j h hj=>by omega)⟩
 case round=>
  obtain ⟨rfl,pos,rfl,hp,HOK⟩:=hrel
  have hbw:∀ p:Nat,Below w.heap.size w (w.iter s p):=fun p=>below_alloc w _
  have HBW:=Lib.hid hbw
  clear hbw
  by_cases hlt:pos<s.size
  ·by_cases hc:(s[pos]'hlt).toNat<128
   ·have hnx:=fun ty=>run_next_ascii (P:=Tryz.prog) w s pos ty hlt hc
    have HC:Hid (inB s[pos]=(decide (97≤(s[pos]).toNat) && decide ((s[pos]).toNat≤122) || (decide (48≤(s[pos]).toNat) && decide ((s[pos]).toNat≤57)) || (s[pos]).toNat == 95)):=Lib.hid rfl
    have HL:Hid (letB s[pos]=(decide (97≤(s[pos]).toNat) && decide ((s[pos]).toNat≤122))):=Lib.hid rfl
    have HN:=Lib.hid (fun h=>nmB_no (s:=s) pos hlt h)
    have HS:Hid (inB s[pos]=true→(pos=0→letB s[pos]=true)→okTo s (pos+1)):=Lib.hid (fun h1 h2 j hj hj2=>by
     by_cases e:j=pos
     ·subst e; exact ⟨h1,h2⟩
     ·exact HOK.out j hj (by omega))
    generalize (s[pos]'hlt).toNat=c at hc hnx HC HL
    generalize inB s[pos]=ib at HC HN HS
    generalize letB s[pos]=lb at HL HN HS
    go_upto_region 5 with fail
    have HLT:=Lib.hid (fun (b:Bool) (hb:lb=b) (W:World)=>letter_is c b (HL.out.symm.trans hb) W)
    cases hlb:lb with
    | true=>
     have HF:=HLT.out true hlb
     have HOK2:Hid (okTo s (pos+1)):=Lib.hid (HS.out (by rw [HC.out,← HL.out,hlb]; rfl) (fun _=>hlb))
     clear hlb HLT HC HL HN HS hnx
     go_wp2_with (go_at_call 146; refine (HF _).mono ?_; rintro e W5 ⟨rfl,rfl⟩)
     exact ⟨⟨rfl,pos+1,rfl,by omega,HOK2⟩,by simp; omega⟩
    | false=>
     have HF:=HLT.out false hlb
     by_cases h0:pos=0
     ·have e0:((pos:Int) == 0)=true:=by simpa using h0
      have HNO:=Lib.hid (HN.out (.inr ⟨h0,hlb⟩))
      clear hlb HLT HC HL HN HS hnx h0
      go_wp2_with (go_at_call 146; refine (HF _).mono ?_; rintro e W5 ⟨rfl,rfl⟩)
      refine bodyPost_ret (results_tmp rfl _ _ _) rfl ?_
      exact ⟨by rw [HNO.out]; rfl,HBW.out _⟩
     ·have e0:((pos:Int) == 0)=false:=by simpa using h0
      have e9:(pos == 0)=false:=by simpa using h0
      by_cases h95:c=95
      ·have e1:((c:Int) != 95)=false:=by simpa using (by omega:(c:Int)=95)
       have e2:(c != 95)=false:=by simpa using h95
       have HOK2:Hid (okTo s (pos+1)):=Lib.hid (HS.out (by rw [HC.out,h95]; rfl) (fun h=>absurd h h0))
       clear hlb HLT HC HL HN HS hnx h0 h95
       go_wp2_with (go_at_call 146; refine (HF _).mono ?_; rintro e W5 ⟨rfl,rfl⟩)
       exact ⟨⟨rfl,pos+1,rfl,by omega,HOK2⟩,by simp; omega⟩
      ·have e1:((c:Int) != 95)=true:=by simpa using (by omega:¬ (c:Int)=95)
       have e2:(c != 95)=true:=by simpa using h95
       have e3:(c == 95)=false:=by simpa using h95
       by_cases h48:c<48
       ·have e4:decide ((c:Int)<48)=true:=decide_eq_true (by omega)
        have HNO:=Lib.hid (HN.out (.inl (by rw [HC.out,← HL.out,hlb,e3,decide_eq_false (by omega:¬ 48≤c)]; rfl)))
        clear hlb HLT HC HL HN HS hnx h0 h95 e3
        go_wp2_with (go_at_call 146; refine (HF _).mono ?_; rintro e W5 ⟨rfl,rfl⟩)
        refine bodyPost_ret (results_tmp rfl _ _ _) rfl ?_
        exact ⟨by rw [HNO.out]; rfl,HBW.out _⟩
       ·have e4:decide ((c:Int)<48)=false:=decide_eq_false (by omega)
        by_cases h57:57<c
        ·have e5:decide ((57:Int)<(c:Int))=true:=decide_eq_true (by omega)
         have HNO:=Lib.hid (HN.out (.inl (by rw [HC.out,← HL.out,hlb,e3,decide_eq_false (by omega:¬ c≤57)]; simp)))
         clear hlb HLT HC HL HN HS hnx h0 h95 e3
         go_wp2_with (go_at_call 146; refine (HF _).mono ?_; rintro e W5 ⟨rfl,rfl⟩)
         refine bodyPost_ret (results_tmp rfl _ _ _) rfl ?_
         exact ⟨by rw [HNO.out]; rfl,HBW.out _⟩
        ·have e5:decide ((57:Int)<(c:Int))=false:=decide_eq_false (by omega)
         have HOK2:Hid (okTo s (pos+1)):=Lib.hid (HS.out (by rw [HC.out,← HL.out,hlb,decide_eq_true (by omega:48≤c),decide_eq_true (by omega:c≤57)]; rfl) (fun h=>absurd h h0))
         clear hlb HLT HC HL HN HS hnx h0 h95 e3
         go_wp2_with (go_at_call 146; refine (HF _).mono ?_; rintro e W5 ⟨rfl,rfl⟩)
         exact ⟨⟨rfl,pos+1,rfl,by omega,HOK2⟩,by simp; omega⟩
   ·have hnx:=fun ty=>run_next_any (P:=Tryz.prog) w s pos ty hlt
    obtain ⟨hr,hw⟩:=decode_high s pos hlt (by omega)
    have HNO:=Lib.hid (nmB_no (s:=s) pos hlt (.inl (by unfold inB letB digB; rw [decide_eq_false (by omega:¬ (s[pos]).toNat≤122),decide_eq_false (by omega:¬ (s[pos]).toNat≤57),beq_eq_false_iff_ne.2 (by omega)]; simp)))
    generalize (Utf8.decode s pos).2=wd at hnx hw
    generalize (Utf8.decode s pos).1=c at hnx hr
    have HF:=letter_is c false (by rw [decide_eq_false (by omega:¬ c≤122)]; simp)
    have e1:((c:Int) != 95)=true:=by simp; omega
    have e2:(c != 95)=true:=by simp; omega
    have e4:decide ((c:Int)<48)=false:=decide_eq_false (by omega)
    have e5:decide ((57:Int)<(c:Int))=true:=decide_eq_true (by omega)
    clear HOK hc
    by_cases h0:pos=0
    ·have e0:((pos:Int) == 0)=true:=by simpa using h0
     have H0:=Lib.hid h0
     clear h0
     go_wp2_with (go_at_call 146; refine (HF _).mono ?_; rintro e W5 ⟨rfl,rfl⟩)
     refine bodyPost_ret (results_tmp rfl _ _ _) rfl ?_
     exact ⟨by rw [HNO.out]; rfl,HBW.out _⟩
    ·have e0:((pos:Int) == 0)=false:=by simpa using h0
     have H0:=Lib.hid h0
     clear h0
     go_wp2_with (go_at_call 146; refine (HF _).mono ?_; rintro e W5 ⟨rfl,rfl⟩)
     refine bodyPost_ret (results_tmp rfl _ _ _) rfl ?_
     exact ⟨by rw [HNO.out]; rfl,HBW.out _⟩
  ·have hnx:=fun ty=>run_next_end (P:=Tryz.prog) w s pos ty hlt
   have hps:pos=s.size:=by omega
   have HOK2:Hid (okTo s s.size):=Lib.hid (by rw [← hps]; exact HOK.out)
   clear HOK hps
   by_cases h1:1≤s.size
   ·have e1:decide ((1:Int)≤(s.size:Int))=true:=decide_eq_true (by omega)
    have e2:decide (1≤s.size)=true:=decide_eq_true h1
    by_cases h2:s.size≤30
    ·have e3:decide ((s.size:Int)≤30)=true:=decide_eq_true (by omega)
     have e4:decide (s.size≤30)=true:=decide_eq_true h2
     have HNO:=Lib.hid (nmB_yes HOK2.out h1 h2)
     go_wp2_with fail
     go_ret
     exact ⟨by rw [HNO.out]; rfl,HBW.out _⟩
    ·have e3:decide ((s.size:Int)≤30)=false:=decide_eq_false (by omega)
     have e4:decide (s.size≤30)=false:=decide_eq_false h2
     have HNO:=Lib.hid (nmB_len (s:=s) (.inr (by omega)))
     go_wp2_with fail
     go_ret
     exact ⟨by rw [HNO.out]; rfl,HBW.out _⟩
   ·have e1:decide ((1:Int)≤(s.size:Int))=false:=decide_eq_false (by omega)
    have e2:decide (1≤s.size)=false:=decide_eq_false h1
    have HNO:=Lib.hid (nmB_len (s:=s) (.inl (by omega)))
    clear h1
    go_wp2_with fail
    go_ret
    exact ⟨by rw [HNO.out]; rfl,HBW.out _⟩
end Go.Proofs.YtmbffkemfepekaaGreatDoor

namespace Go.Proofs.YtmbffkemfepekaaGreatDoor
open Go.RowKit
/-- chk1 of the parts. -/
def chkN (k o:Int) (n:ByteArray) (v:Int) (m:Nat):Nat:=
 if k<1∨4<k then 8
 else if (k≠1∧v≠0)∨(k≠2∧n.size≠0)∨((k=1∨k=2)∧o≠0)∨m≠argsN k then 1
 else if k=1∧(v<0∨1099511627776<v) then 2
 else if k=2∧nmB n=false then 5
 else if (k=3∧o≠1∧o≠2)∨(k=4∧(o<3∨15<o)) then 8
 else 0
theorem chk1_N (e:Ex):chk1 e=chkN e.kind e.op e.name e.val e.args.length:=rfl
set_option maxRecDepth 100000 in
set_option maxHeartbeats 3200000 in
theorem check_out (k o:Int) (n:ByteArray) (v:Int) (A:Option Addr) (m c:Nat) (h:k<1∨4<k) (w:World):Calls Tryz.prog 68 #[.agg (exC k o n v A m c).toArray] w (Ret (.int .i64 8) w):=by
 have hO:=one_new w #[.int .i64 k,.int .i64 o,.string n,.int .i64 v,.slice A m c] 38
 unfold exC Ret
 by_cases h1:k<1
 ·have e1:decide (k<1)=true:=decide_eq_true h1
  go_enter Tryz.func68,Tryz.ntmps68
  go_wp2_with fail
  go_ret
  exact ⟨rfl,hO.below⟩
 ·have e1:decide (k<1)=false:=decide_eq_false h1
  have e2:decide (4<k)=true:=decide_eq_true (by omega)
  go_enter Tryz.func68,Tryz.ntmps68
  go_wp2_with fail
  go_ret
  exact ⟨rfl,hO.below⟩
theorem bne_iff_ne_bytes (a b:ByteArray):(a != b)=true↔a≠b:=by
 unfold bne
 cases h:a == b with
 | true=>simp [(MapKept.bytes_beq a b).1 h]
 | false=>simp only [Bool.not_false,true_iff]; intro e; rw [(MapKept.bytes_beq a b).2 e] at h; cases h
theorem str_eq {n:ByteArray} (h:n.size=0):n=⟨#[]⟩:=by
 obtain ⟨a⟩:=n
 have:a=#[]:=Array.eq_empty_of_size_eq_zero h
 rw [this]
theorem str_ne {n:ByteArray} (h:¬ n.size=0):(n != ⟨#[]⟩)=true:=by
 rw [bne_iff_ne_bytes]
 intro e; rw [e] at h; exact h rfl
theorem str_nl {n:ByteArray} (h:¬ n.size=0):¬ n.toList=[]:=by
 rw [ByteArray.toList_eq]
 intro e
 apply h
 have:n.data.toList.length=n.size:=by simp
 rw [e] at this; exact this.symm
/-- Five cells of a block are set. -/
theorem set5_far (W:World) {B b:Nat} (hne:B≠b) (v0 v1 v2 v3 v4:Value) (j:Nat):(((((W.setCell ⟨B,0,none⟩ v0).setCell ⟨B,1,none⟩ v1).setCell ⟨B,2,none⟩ v2).setCell ⟨B,3,none⟩ v3).setCell ⟨B,4,none⟩ v4).cell? ⟨b,j,none⟩=W.cell? ⟨b,j,none⟩:=by
 rw [World.cell?_setCell_far _ _ _ _ hne,World.cell?_setCell_far _ _ _ _ hne,World.cell?_setCell_far _ _ _ _ hne,World.cell?_setCell_far _ _ _ _ hne,World.cell?_setCell_far _ _ _ _ hne]
theorem set5_size (W:World) (B:Nat) (v0 v1 v2 v3 v4:Value):(((((W.setCell ⟨B,0,none⟩ v0).setCell ⟨B,1,none⟩ v1).setCell ⟨B,2,none⟩ v2).setCell ⟨B,3,none⟩ v3).setCell ⟨B,4,none⟩ v4).heap.size=W.heap.size:=by simp
theorem set5_below {C:Nat} {w W:World} (h:Below C w W) {B:Nat} (hB:C≤B) (v0 v1 v2 v3 v4:Value):Below C w (((((W.setCell ⟨B,0,none⟩ v0).setCell ⟨B,1,none⟩ v1).setCell ⟨B,2,none⟩ v2).setCell ⟨B,3,none⟩ v3).setCell ⟨B,4,none⟩ v4):=
 ((((h.setCell (p:=⟨B,0,none⟩) hB _).setCell (p:=⟨B,1,none⟩) hB _).setCell (p:=⟨B,2,none⟩) hB _).setCell (p:=⟨B,3,none⟩) hB _).setCell (p:=⟨B,4,none⟩) hB _
end Go.Proofs.YtmbffkemfepekaaGreatDoor
