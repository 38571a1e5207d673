/- A law for a range over an iterator that writes cells of its own between two rounds. Conditions: what the iterator does keeps the caller's invariant and the loop's own records. -/
import Derived.Test.YtmbffkemfepekaaGreatDoorPtBase
import Derived.RangeFuncNested
import Derived.RangeFuncBound
import Derived.RangeFuncCalls
import Derived.RangeFuncLeaves
import Derived.RangeFuncBox
import Derived.Shelf.Abstract
import Derived.OwnWalkIn
import Derived.TacticsInMore
import Derived.LoopNIn
import Derived.LoopIn
import Derived.Sort.QuietTacIn
import Derived.Sort.BigQuietIn
import Derived.Sort.CutIn
import Derived.Sort.LoopGhostIn
import Derived.Deep.OwnRows
import Derived.Sort.Row
namespace Go.Proofs.YtmbffkemfepekaaGreatDoor
open Go.RowKit
variable {F:Fence} {n:Nat} {P:Program}

/-- The function value g, lb hands over elements one after the other; between two of them it changes the world by steps Ab, and it needs that a round keeps Kp. -/
def SeqAb {α:Type} (F:Fence) (n:Nat) (P:Program) (g:Nat) (lb:Array Value) (encs:α→Array Value) (Ab Kp:World→World→Prop) (S Sp:List α→Prop) (Ok:List α→α→Prop) (w:World):Prop:=
 ∀ (l:Nat) (J Jx:List α→World→Prop) (W:World),Below w.heap.size w W→(∀ s A B,J s A→Ab A B→J s B)→(∀ s A B,Jx s A→Ab A B→Jx s B) →
  (∀ pre x W1,J pre W1→Ok pre x→YieldAt F (n - 1) P l (encs x) W1 fun e W'=>
   (e=.returned (.bool true)∧J (pre++[x]) W'∧Kp W1 W')∨(e=.returned (.bool false)∧Jx (pre++[x]) W')) →
  J [] W →
  CallsIn F n P g (#[.func (.yield l) #[] #[]]++lb) W fun e W'=>(∃ v,e=.returned v)∧((∃ xs,S xs∧J xs W')∨(∃ pre,Sp pre∧Jx pre W'))

/-- The range over such a value. -/
theorem wpIn_rangeFunc_ab {α:Type} {g:Operand} {ps:Array Tmp} {assign body:Code} {Q:Exit→Act→World→Prop} {a:Act} {w:World}
  (hro:F.round=none) (h1:1≤n) {gf:Nat} {lb:Array Value} (hg:a.eval g=.func (.func gf) #[] lb) (hFg:F.fn gf) (eg:∀ args w,(callFunc gf args).run P w=.ok (.enter gf args) w)
  {encs:α→Array Value} {Ab Kp:World→World→Prop} {S Sp:List α→Prop} {Ok:List α→α→Prop} {w0:World} (hseq:SeqAb F (n - 1) P gf lb encs Ab Kp S Sp Ok w0)
  (hKt:∀ {A B C:World},Kp A B→Kp B C→Kp A C) (hKb:∀ (W:World) (l:Nat) (o o':Obj),w.heap.size≤l→W.heap[l]? = some o→o.isCells=false→o.isWalk=false→Kp W (W.putObj l o')) (hb0:Below w0.heap.size w0 w) (hps:∀ x,(encs x).size=ps.size)
  (hAb:∀ (A B:World) (k:Nat) (o:Obj),Ab A B→w.heap.size≤k→A.heap[k]? = some o→o.isCells=false→B.heap[k]? = some o)
  (I:List α→World→Prop) (Ix:Code→List α→World→Prop) (hI:OwnFrom w.heap.size I) (hIx:∀ c,OwnFrom w.heap.size (Ix c))
  (hIa:∀ s A B,I s A→Ab A B→I s B) (hIxa:∀ c s A B,Ix c s A→Ab A B→Ix c s B) (h0:I [] w) (Ax:α→Act→World→Prop) (hAx:∀ a',OwnFrom w.heap.size (fun x W=>Ax x a' W))
  (hassign:∀ (l:Nat) (pre:List α) (x:α) (W:World) (K:Act→World→Prop),I pre W →
   (∀ a' W',KeepsFrom w.heap.size W W'→Kp W W'→I pre W'→Ax x a' W'→K a' W') →
   assign.wpIn (F.inRound l) (n - 1 - 1) P (Exit.then K (fun _ _ _=>False)) { tmps:=(ps.zip (encs x)).foldl (fun t (p,v)=>t.setIfInBounds p v) a.tmps,defers:=[] } W)
  (hbody:∀ (l:Nat) (pre:List α) (x:α) (a':Act) (W:World),I pre W→Ax x a' W→Ok pre x→body.wpIn (F.inRound l) (n - 1 - 1) P (ownPostG w.heap.size Kp I Ix (pre++[x]) W) a' W)
  (hdone:∀ (D:Nat) (xs:List α) (W:World),w.heap.size≤D→S xs→I xs W→W.heap[D]? = some (.deferred (some []))→Q .normal { a with defers:={ target:=.collected D,args:=#[] }::a.defers } W)
  (hstop:∀ (D:Nat) (c:Code) (pre:List α) (W:World),w.heap.size≤D→Sp pre→Ix c pre W→W.heap[D]? = some (.deferred (some []))→c.wpIn F n P Q { a with defers:={ target:=.collected D,args:=#[] }::a.defers } W) :
  (Code.rangeFunc g ps assign body).wpIn F n P Q a w:=by
 refine wpIn_rangeFunc ?_
 intro fn hfn
 rw [hro]
 obtain ⟨rec,hrec⟩:∃ rec:LoopState→Option Code→Loop,rec=fun st pe=>{ state:=st,pending:=pe,fn,tmps:=a.tmps,params:=ps,assign,body,defers:=w.heap.size }:=⟨_,rfl⟩
 let R:LoopState→Option Code→World→Prop:=fun st pe W=>W.heap[w.heap.size+1]? = some (.loop (rec st pe))∧W.heap[w.heap.size]? = some (.deferred (some []))
 obtain ⟨W1,hW1⟩:∃ W1,(w.alloc (.deferred (some []))).alloc (.loop (rec .ready none))=W1:=⟨_,rfl⟩
 have hL1:R .ready none W1:=by
  rw [← hW1]
  refine ⟨?_,(Below.heap_alloc _ _ _ (by simp)).trans (World.alloc_heap_new w _)⟩
  have:=World.alloc_heap_new (w.alloc (.deferred (some []))) (.loop (rec .ready none)); rwa [World.size_alloc] at this
 have hI1:I [] W1:=by rw [← hW1]; exact hI.alloc _ (hI.alloc _ h0)
 have hb1:Below w0.heap.size w0 W1:=by
  rw [← hW1]; exact hb0.trans ((((Below.refl _ w).alloc (Nat.le_refl _) _).alloc (by simp) _).mono hb0.size)
 have hRa:∀ st pe A B,R st pe A→Ab A B→R st pe B:=fun st pe A B hR hab=>⟨hAb A B _ _ hab (by omega) hR.1 rfl,hAb A B _ _ hab (Nat.le_refl _) hR.2 rfl⟩
 refine ⟨w.heap.size+1,[{ target:=.collected w.heap.size,args:=#[] }],W1,{ target:=.fn (.func gf) lb,args:=#[.func (.yield (w.heap.size+1)) #[] #[]] },W1,gf,
  #[.func (.yield (w.heap.size+1)) #[] #[]]++lb,W1,?_,?_,?_,?_,fun _=>h1,?_⟩
 ·rw [← hW1,hrec]; exact run_enterLoop_outer _ _ _ _ _
 ·simp only [resolve,hg]
  simp [go_sem]
 ·intro f' hf'; simp [Target.leads] at hf'; subst hf'; exact hFg
 ·simp [invoke,go_sem,eg]
 ·refine (hseq (w.heap.size+1) (fun pre W=>I pre W∧R .ready none W) (fun pre W=>∃ c,Ix c pre W∧R .done (some c) W) W1 hb1
   (fun s A B hs hab=>⟨hIa s A B hs.1 hab,hRa _ _ A B hs.2 hab⟩) (fun s A B hs hab=>by obtain ⟨c,hc,hr⟩:=hs; exact ⟨c,hIxa c s A B hc hab,hRa _ _ A B hr hab⟩) ?_ ⟨hI1,hL1⟩).mono ?_
  ·rintro pre x W ⟨hi,hl,hk⟩ hlen
   have hlt:w.heap.size+1<W.heap.size:=(Array.getElem?_eq_some_iff.1 hl).1
   have hy:=run_yield (P:=P) (args:=encs x) hl (by rw [hrec]; exact hps x)
   rw [hrec] at hy
   refine ⟨fn,_,assign,body,hy,roundIn_of_wpIn hfn (hassign _ pre x W _ hi ?_)⟩
   intro a' W' hkf hkp0 hi hax
   have hl:=hkf.same _ _ (by omega) hl rfl
   have hk:=hkf.same _ _ (Nat.le_refl _) hk rfl
   refine ⟨_,run_beginRound hl (by rw [hrec]),?_⟩
   have hlt:w.heap.size+1<W'.heap.size:=(Array.getElem?_eq_some_iff.1 hl).1
   have hl2:(W'.putObj (w.heap.size+1) (.loop { rec .ready none with state:=.busy })).heap[w.heap.size+1]? = some (.loop { rec .ready none with state:=.busy }):=World.putObj_heap_same hlt
   have hk2:(W'.putObj (w.heap.size+1) (.loop { rec .ready none with state:=.busy })).heap[w.heap.size]? = some (.deferred (some [])):=(World.putObj_heap_other (by omega)).trans hk
   have hw2:Kp W' (W'.putObj (w.heap.size+1) (.loop { rec .ready none with state:=.busy })):=hKb _ _ _ _ (by omega) hl rfl rfl
   refine wpIn_mono (hbody _ pre x a' _ (hI.putObj _ hi (by omega) hl rfl) ((hAx a').putObj _ hax (by omega) hl rfl) hlen) ?_
   have fin:∀ (jump:Option Code) (W3:World),KeepsFrom w.heap.size (W'.putObj (w.heap.size+1) (.loop { rec .ready none with state:=.busy })) W3 →
     (Instr.endRound (w.heap.size+1) jump).run P W3=.ok (.bool jump.isNone) (W3.putObj (w.heap.size+1) (.loop (rec (if jump.isNone then .ready else .done) jump))) ∧
     W3.heap[w.heap.size+1]? = some (.loop { rec .ready none with state:=.busy }) ∧
     R (if jump.isNone then .ready else .done) jump (W3.putObj (w.heap.size+1) (.loop (rec (if jump.isNone then .ready else .done) jump))):=fun jump W3 hk3=>by
    have hl3:=hk3.same _ _ (by omega) hl2 rfl
    have:=run_endRound (P:=P) jump hl3
    rw [hrec] at this hl3 ⊢
    exact ⟨this,hl3,by rw [hrec]; exact World.putObj_heap_same (Array.getElem?_eq_some_iff.1 hl3).1,(World.putObj_heap_other (by omega)).trans (hk3.same _ _ (Nat.le_refl _) hk2 rfl)⟩
   rintro e a3 W3 hp
   cases e with
   | normal=>
    obtain ⟨hk3,hkp3,hi3⟩:=hp
    obtain ⟨hr,hl3,hR⟩:=fin none W3 hk3
    exact ⟨_,_,hr,.inl ⟨rfl,⟨hI.putObj _ hi3 (by omega) hl3 rfl,hR⟩,hKt (hKt (hKt hkp0 hw2) hkp3) (hKb _ _ _ _ (by omega) hl3 rfl rfl)⟩⟩
   | ret=>
    obtain ⟨hk3,hi3⟩:=hp
    obtain ⟨hr,hl3,hR⟩:=fin (some .ret) W3 hk3
    exact ⟨_,_,hr,.inr ⟨rfl,.ret,(hIx _).putObj _ hi3 (by omega) hl3 rfl,hR⟩⟩
   | exit id=>
    obtain ⟨hk3,hi3⟩:=hp
    obtain ⟨hr,hl3,hR⟩:=fin (some (.exit id)) W3 hk3
    exact ⟨_,_,hr,.inr ⟨rfl,.exit id,(hIx _).putObj _ hi3 (by omega) hl3 rfl,hR⟩⟩
   | goto t=>
    obtain ⟨hk3,hi3⟩:=hp
    obtain ⟨hr,hl3,hR⟩:=fin (some (.goto t)) W3 hk3
    exact ⟨_,_,hr,.inr ⟨rfl,.goto t,(hIx _).putObj _ hi3 (by omega) hl3 rfl,hR⟩⟩
   | panic ch=>exact hp.elim
   | outgrown=>exact hp.elim
  ·rintro e W2 ⟨⟨v,rfl⟩,(⟨xs,hS,hi,hl,hk⟩ | ⟨pre,hSp,c,hi,hl,hk⟩)⟩
   ·exact ⟨none,_,by have:=run_endLoop (P:=P) hl (by rw [hrec]; simp); rw [hrec] at this; exact this,hdone _ xs _ (Nat.le_refl _) hS (hI.putObj _ hi (by omega) hl rfl) ((World.putObj_heap_other (by omega)).trans hk)⟩
   ·exact ⟨some c,_,by have:=run_endLoop (P:=P) hl (by rw [hrec]; simp); rw [hrec] at this; exact this,hstop _ c pre _ (Nat.le_refl _) hSp ((hIx c).putObj _ hi (by omega) hl rfl) ((World.putObj_heap_other (by omega)).trans hk)⟩

#print axioms wpIn_rangeFunc_ab
end Go.Proofs.YtmbffkemfepekaaGreatDoor

namespace Go.Proofs.YtmbffkemfepekaaGreatDoor
open Go.RowKit
variable {F:Fence} {n:Nat} {P:Program}

/-- The function value g, lb hands over elements one after the other; between two of them it changes the world by steps Ab, and it needs that a round keeps Kp. -/
def SeqAc {α:Type} (F:Fence) (n:Nat) (P:Program) (g:Nat) (lb:Array Value) (encs:α→Array Value) (Ab Kp:World→World→Prop) (S Sp:List α→Prop) (Ok:List α→α→Prop) (w:World):Prop:=
 ∀ (l:Nat) (J Jx:List α→World→Prop) (W:World),Below w.heap.size w W→(∀ s A B,J s A→Ab A B→J s B) →
  (∀ pre x W1,J pre W1→Ok pre x→YieldAt F (n - 1) P l (encs x) W1 fun e W'=>
   (e=.returned (.bool true)∧J (pre++[x]) W'∧Kp W1 W')∨(e=.returned (.bool false)∧Jx (pre++[x]) W')) →
  J [] W →
  CallsIn F n P g (#[.func (.yield l) #[] #[]]++lb) W fun e W'=>(∃ v,e=.returned v)∧((∃ xs,S xs∧J xs W')∨(∃ pre,Sp pre∧Jx pre W'))

/-- The range over such a value. -/
theorem wpIn_rangeFunc_ac {α:Type} {g:Operand} {ps:Array Tmp} {assign body:Code} {Q:Exit→Act→World→Prop} {a:Act} {w:World}
  (hro:F.round=none) (h1:1≤n) {gf:Nat} {lb:Array Value} (hg:a.eval g=.func (.func gf) #[] lb) (hFg:F.fn gf) (eg:∀ args w,(callFunc gf args).run P w=.ok (.enter gf args) w)
  {encs:α→Array Value} {Ab Kp:World→World→Prop} {S Sp:List α→Prop} {Ok:List α→α→Prop} {w0:World} (hseq:SeqAc F (n - 1) P gf lb encs Ab Kp S Sp Ok w0)
  (hKt:∀ {A B C:World},Kp A B→Kp B C→Kp A C) (hKb:∀ (W:World) (l:Nat) (o o':Obj),w.heap.size≤l→W.heap[l]? = some o→o.isCells=false→o.isWalk=false→Kp W (W.putObj l o')) (hb0:Below w0.heap.size w0 w) (hps:∀ x,(encs x).size=ps.size)
  (hAb:∀ (A B:World) (k:Nat) (o:Obj),Ab A B→w.heap.size≤k→A.heap[k]? = some o→o.isCells=false→B.heap[k]? = some o)
  (I:List α→World→Prop) (Ix:Code→List α→World→Prop) (hI:OwnFrom w.heap.size I) (hIx:∀ c,OwnFrom w.heap.size (Ix c))
  (hIa:∀ s A B,I s A→Ab A B→I s B) (h0:I [] w) (Ax:α→Act→World→Prop) (hAx:∀ a',OwnFrom w.heap.size (fun x W=>Ax x a' W))
  (hassign:∀ (l:Nat) (pre:List α) (x:α) (W:World) (K:Act→World→Prop),I pre W →
   (∀ a' W',KeepsFrom w.heap.size W W'→Kp W W'→I pre W'→Ax x a' W'→K a' W') →
   assign.wpIn (F.inRound l) (n - 1 - 1) P (Exit.then K (fun _ _ _=>False)) { tmps:=(ps.zip (encs x)).foldl (fun t (p,v)=>t.setIfInBounds p v) a.tmps,defers:=[] } W)
  (hbody:∀ (l:Nat) (pre:List α) (x:α) (a':Act) (W:World),I pre W→Ax x a' W→Ok pre x→body.wpIn (F.inRound l) (n - 1 - 1) P (ownPostG w.heap.size Kp I Ix (pre++[x]) W) a' W)
  (hdone:∀ (D:Nat) (xs:List α) (W:World),w.heap.size≤D→S xs→I xs W→W.heap[D]? = some (.deferred (some []))→Q .normal { a with defers:={ target:=.collected D,args:=#[] }::a.defers } W)
  (hstop:∀ (D:Nat) (c:Code) (pre:List α) (W:World),w.heap.size≤D→Sp pre→Ix c pre W→W.heap[D]? = some (.deferred (some []))→c.wpIn F n P Q { a with defers:={ target:=.collected D,args:=#[] }::a.defers } W) :
  (Code.rangeFunc g ps assign body).wpIn F n P Q a w:=by
 refine wpIn_rangeFunc ?_
 intro fn hfn
 rw [hro]
 obtain ⟨rec,hrec⟩:∃ rec:LoopState→Option Code→Loop,rec=fun st pe=>{ state:=st,pending:=pe,fn,tmps:=a.tmps,params:=ps,assign,body,defers:=w.heap.size }:=⟨_,rfl⟩
 let R:LoopState→Option Code→World→Prop:=fun st pe W=>W.heap[w.heap.size+1]? = some (.loop (rec st pe))∧W.heap[w.heap.size]? = some (.deferred (some []))
 obtain ⟨W1,hW1⟩:∃ W1,(w.alloc (.deferred (some []))).alloc (.loop (rec .ready none))=W1:=⟨_,rfl⟩
 have hL1:R .ready none W1:=by
  rw [← hW1]
  refine ⟨?_,(Below.heap_alloc _ _ _ (by simp)).trans (World.alloc_heap_new w _)⟩
  have:=World.alloc_heap_new (w.alloc (.deferred (some []))) (.loop (rec .ready none)); rwa [World.size_alloc] at this
 have hI1:I [] W1:=by rw [← hW1]; exact hI.alloc _ (hI.alloc _ h0)
 have hb1:Below w0.heap.size w0 W1:=by
  rw [← hW1]; exact hb0.trans ((((Below.refl _ w).alloc (Nat.le_refl _) _).alloc (by simp) _).mono hb0.size)
 have hRa:∀ st pe A B,R st pe A→Ab A B→R st pe B:=fun st pe A B hR hab=>⟨hAb A B _ _ hab (by omega) hR.1 rfl,hAb A B _ _ hab (Nat.le_refl _) hR.2 rfl⟩
 refine ⟨w.heap.size+1,[{ target:=.collected w.heap.size,args:=#[] }],W1,{ target:=.fn (.func gf) lb,args:=#[.func (.yield (w.heap.size+1)) #[] #[]] },W1,gf,
  #[.func (.yield (w.heap.size+1)) #[] #[]]++lb,W1,?_,?_,?_,?_,fun _=>h1,?_⟩
 ·rw [← hW1,hrec]; exact run_enterLoop_outer _ _ _ _ _
 ·simp only [resolve,hg]
  simp [go_sem]
 ·intro f' hf'; simp [Target.leads] at hf'; subst hf'; exact hFg
 ·simp [invoke,go_sem,eg]
 ·refine (hseq (w.heap.size+1) (fun pre W=>I pre W∧R .ready none W) (fun pre W=>∃ c,Ix c pre W∧R .done (some c) W) W1 hb1
   (fun s A B hs hab=>⟨hIa s A B hs.1 hab,hRa _ _ A B hs.2 hab⟩) ?_ ⟨hI1,hL1⟩).mono ?_
  ·rintro pre x W ⟨hi,hl,hk⟩ hlen
   have hlt:w.heap.size+1<W.heap.size:=(Array.getElem?_eq_some_iff.1 hl).1
   have hy:=run_yield (P:=P) (args:=encs x) hl (by rw [hrec]; exact hps x)
   rw [hrec] at hy
   refine ⟨fn,_,assign,body,hy,roundIn_of_wpIn hfn (hassign _ pre x W _ hi ?_)⟩
   intro a' W' hkf hkp0 hi hax
   have hl:=hkf.same _ _ (by omega) hl rfl
   have hk:=hkf.same _ _ (Nat.le_refl _) hk rfl
   refine ⟨_,run_beginRound hl (by rw [hrec]),?_⟩
   have hlt:w.heap.size+1<W'.heap.size:=(Array.getElem?_eq_some_iff.1 hl).1
   have hl2:(W'.putObj (w.heap.size+1) (.loop { rec .ready none with state:=.busy })).heap[w.heap.size+1]? = some (.loop { rec .ready none with state:=.busy }):=World.putObj_heap_same hlt
   have hk2:(W'.putObj (w.heap.size+1) (.loop { rec .ready none with state:=.busy })).heap[w.heap.size]? = some (.deferred (some [])):=(World.putObj_heap_other (by omega)).trans hk
   have hw2:Kp W' (W'.putObj (w.heap.size+1) (.loop { rec .ready none with state:=.busy })):=hKb _ _ _ _ (by omega) hl rfl rfl
   refine wpIn_mono (hbody _ pre x a' _ (hI.putObj _ hi (by omega) hl rfl) ((hAx a').putObj _ hax (by omega) hl rfl) hlen) ?_
   have fin:∀ (jump:Option Code) (W3:World),KeepsFrom w.heap.size (W'.putObj (w.heap.size+1) (.loop { rec .ready none with state:=.busy })) W3 →
     (Instr.endRound (w.heap.size+1) jump).run P W3=.ok (.bool jump.isNone) (W3.putObj (w.heap.size+1) (.loop (rec (if jump.isNone then .ready else .done) jump))) ∧
     W3.heap[w.heap.size+1]? = some (.loop { rec .ready none with state:=.busy }) ∧
     R (if jump.isNone then .ready else .done) jump (W3.putObj (w.heap.size+1) (.loop (rec (if jump.isNone then .ready else .done) jump))):=fun jump W3 hk3=>by
    have hl3:=hk3.same _ _ (by omega) hl2 rfl
    have:=run_endRound (P:=P) jump hl3
    rw [hrec] at this hl3 ⊢
    exact ⟨this,hl3,by rw [hrec]; exact World.putObj_heap_same (Array.getElem?_eq_some_iff.1 hl3).1,(World.putObj_heap_other (by omega)).trans (hk3.same _ _ (Nat.le_refl _) hk2 rfl)⟩
   rintro e a3 W3 hp
   cases e with
   | normal=>
    obtain ⟨hk3,hkp3,hi3⟩:=hp
    obtain ⟨hr,hl3,hR⟩:=fin none W3 hk3
    exact ⟨_,_,hr,.inl ⟨rfl,⟨hI.putObj _ hi3 (by omega) hl3 rfl,hR⟩,hKt (hKt (hKt hkp0 hw2) hkp3) (hKb _ _ _ _ (by omega) hl3 rfl rfl)⟩⟩
   | ret=>
    obtain ⟨hk3,hi3⟩:=hp
    obtain ⟨hr,hl3,hR⟩:=fin (some .ret) W3 hk3
    exact ⟨_,_,hr,.inr ⟨rfl,.ret,(hIx _).putObj _ hi3 (by omega) hl3 rfl,hR⟩⟩
   | exit id=>
    obtain ⟨hk3,hi3⟩:=hp
    obtain ⟨hr,hl3,hR⟩:=fin (some (.exit id)) W3 hk3
    exact ⟨_,_,hr,.inr ⟨rfl,.exit id,(hIx _).putObj _ hi3 (by omega) hl3 rfl,hR⟩⟩
   | goto t=>
    obtain ⟨hk3,hi3⟩:=hp
    obtain ⟨hr,hl3,hR⟩:=fin (some (.goto t)) W3 hk3
    exact ⟨_,_,hr,.inr ⟨rfl,.goto t,(hIx _).putObj _ hi3 (by omega) hl3 rfl,hR⟩⟩
   | panic ch=>exact hp.elim
   | outgrown=>exact hp.elim
  ·rintro e W2 ⟨⟨v,rfl⟩,(⟨xs,hS,hi,hl,hk⟩ | ⟨pre,hSp,c,hi,hl,hk⟩)⟩
   ·exact ⟨none,_,by have:=run_endLoop (P:=P) hl (by rw [hrec]; simp); rw [hrec] at this; exact this,hdone _ xs _ (Nat.le_refl _) hS (hI.putObj _ hi (by omega) hl rfl) ((World.putObj_heap_other (by omega)).trans hk)⟩
   ·exact ⟨some c,_,by have:=run_endLoop (P:=P) hl (by rw [hrec]; simp); rw [hrec] at this; exact this,hstop _ c pre _ (Nat.le_refl _) hSp ((hIx c).putObj _ hi (by omega) hl rfl) ((World.putObj_heap_other (by omega)).trans hk)⟩

#print axioms wpIn_rangeFunc_ac
end Go.Proofs.YtmbffkemfepekaaGreatDoor

namespace Go.Proofs.YtmbffkemfepekaaGreatDoor
open Go.RowKit Go.Shelf
structure ItAb (B0:Nat) (A B:World):Prop where
 below:Below B0 A B
 rec_:∀ (k:Nat) (o:Obj),A.heap[k]? = some o→o.isCells=false→B.heap[k]? = some o
structure CellsKept (lo hi:Nat) (A B:World):Prop where
 size:A.heap.size≤B.heap.size
 cells:∀ (k:Nat) (c:Array Value) (e:TypeId) (fr:Nat × Nat),(k<lo∨hi≤k)→A.heap[k]? = some (.cells c e fr)→B.heap[k]? = some (.cells c e fr)
theorem ItAb.refl (B0:Nat) (A:World):ItAb B0 A A:=⟨Below.refl _ _,fun _ _ h _=>h⟩
theorem ItAb.trans {B0:Nat} {A B C:World} (h1:ItAb B0 A B) (h2:ItAb B0 B C):ItAb B0 A C:=⟨h1.below.trans h2.below,fun k o h hc=>h2.rec_ k o (h1.rec_ k o h hc) hc⟩
theorem ItAb.of_below {B0:Nat} {A B:World} (h:Below A.heap.size A B) (hB:B0≤A.heap.size):ItAb B0 A B:=⟨h.mono hB,fun k _ ho _=>(h.block k (Array.getElem?_eq_some_iff.1 ho).1).trans ho⟩
theorem CellsKept.cell {lo hi:Nat} {A B:World} (h:CellsKept lo hi A B) {b o:Nat} {v:Value} (ha:b<lo∨hi≤b) (hc:A.cell? ⟨b,o,none⟩=some v):B.cell? ⟨b,o,none⟩=some v:=by
 obtain ⟨c,e,fr,hb,_⟩:=Go.Sort.cells_of_cell? hc
 have hb':=h.cells b c e fr ha hb
 simp only [World.cell?,hb,hb'] at hc ⊢
 exact hc
theorem CellsKept.refl (lo hi:Nat) (A:World):CellsKept lo hi A A:=⟨Nat.le_refl _,fun _ _ _ _ _ h=>h⟩
theorem CellsKept.trans {lo hi:Nat} {A B C:World} (h1:CellsKept lo hi A B) (h2:CellsKept lo hi B C):CellsKept lo hi A C:=⟨Nat.le_trans h1.size h2.size,fun k c e fr hk h=>h2.cells k c e fr hk (h1.cells k c e fr hk h)⟩
theorem CellsKept.putObj {lo hi l:Nat} {W:World} {o:Obj} (o':Obj) (h:W.heap[l]? = some o) (hc:o.isCells=false):CellsKept lo hi W (W.putObj l o'):=by
 refine ⟨by simp,fun k c e fr _ hk=>?_⟩
 by_cases e1:k=l
 ·subst e1; rw [hk] at h; injection h with h; subst h; cases hc
 ·exact (World.putObj_heap_other e1).trans hk
theorem CellsKept.turn {lo hi:Nat} {W W':World} (h:Turn lo hi W W'):CellsKept lo hi W W':=⟨h.size,fun k _ _ _ hk hc=>(h.block k (Array.getElem?_eq_some_iff.1 hc).1 hk).trans hc⟩
theorem KeepsFrom.turn {lo hi B:Nat} {W W':World} (h:Turn lo hi W W') (hB:hi≤B):KeepsFrom B W W':=⟨h.size,fun k o hk ho _=>(h.block k (Array.getElem?_eq_some_iff.1 ho).1 (.inr (by omega))).trans ho⟩
theorem below_grownFrom {B:Nat} {W W':World} {row:Option Nat} (h:W.grownBy W' row) (hr:∀ r,row=some r→B≤r) (hB:B≤W.heap.size):Below B W W':=⟨h.os,h.tape,h.output,h.size,fun k hk=>h.block k (by omega) (fun e=>by have:=hr k e.symm; omega)⟩
structure Marks (B:Nat) (Ds:List Nat) (W:World):Prop where
 nodup:Ds.Nodup
 at_:∀ D,D∈Ds→B≤D∧W.heap[D]? = some (.deferred (some []))
theorem Marks.nil (B:Nat) (W:World):Marks B [] W:=⟨List.nodup_nil,fun _ h=>(by cases h)⟩
theorem Marks.keep {B:Nat} {Ds:List Nat} {W W':World} (h:Marks B Ds W) (hk:∀ (k:Nat) (o:Obj),W.heap[k]? = some o→o.isCells=false→W'.heap[k]? = some o):Marks B Ds W':=
 ⟨h.nodup,fun D hD=>⟨(h.at_ D hD).1,hk D _ (h.at_ D hD).2 rfl⟩⟩
theorem Marks.below {B:Nat} {Ds:List Nat} {W W':World} (h:Marks B Ds W) (hb:Below W.heap.size W W'):Marks B Ds W':=
 h.keep fun k _ ho _=>(hb.block k (Array.getElem?_eq_some_iff.1 ho).1).trans ho
theorem Marks.push {B D:Nat} {Ds:List Nat} {W:World} (h:Marks B Ds W) (hD:B≤D) (hn:D∉Ds) (hK:W.heap[D]? = some (.deferred (some []))):Marks B (D::Ds) W:=
 ⟨List.nodup_cons.2 ⟨hn,h.nodup⟩,fun x hx=>by
  rcases List.mem_cons.1 hx with e | e
  ·subst e; exact ⟨hD,hK⟩
  ·exact h.at_ x e⟩
def markD (D:Nat):Deferred:={ target:=.collected D,args:=#[] }
structure Taken (Ds:List Nat) (W W':World):Prop where
 os:W'.os=W.os
 tape:W'.tape=W.tape
 output:W'.output=W.output
 size:W'.heap.size=W.heap.size
 block:∀ k,k∉Ds→W'.heap[k]? = W.heap[k]?
theorem leaves_marks {F:Fence} {n B:Nat} {P:Program} {fn:Func} {tmps:Array Value} {R:Ending→World→Prop}:∀ (Ds:List Nat) (W:World),Marks B Ds W →
  (∀ W',Taken Ds W W'→∃ v,(results fn tmps).run P W'=.ok v W'∧R (.returned v) W')→LeavesInM F n P fn tmps R (Ds.map markD) .returning W:=by
 intro Ds
 induction Ds with
 | nil=>exact fun W _ h=>h W ⟨rfl,rfl,rfl,rfl,fun _ _=>rfl⟩
 | cons D Ds ih=>
  intro W hM h
  obtain ⟨-,hK⟩:=hM.at_ D (by simp)
  have hnd:=List.nodup_cons.1 hM.nodup
  refine ⟨by simp,.inl ⟨D,_,rfl,run_takeDeferred hK,ih _ ⟨hnd.2,fun x hx=>?_⟩ (fun W' hT=>h W' ⟨hT.os,hT.tape,hT.output,?_,fun k hk=>?_⟩)⟩⟩
  ·have hne:x≠D:=fun e=>by subst e; exact hnd.1 hx
   exact ⟨(hM.at_ x (by simp [hx])).1,(World.putObj_heap_other hne).trans (hM.at_ x (by simp [hx])).2⟩
  ·exact hT.size.trans (by simp)
  ·have hk2:k≠D∧k∉Ds:=by simpa using hk
   exact (hT.block k hk2.2).trans (World.putObj_heap_other hk2.1)
theorem Taken.below {B:Nat} {Ds:List Nat} {W W':World} (h:Taken Ds W W') (hM:Marks B Ds W):Below B W W':=
 ⟨h.os,h.tape,h.output,Nat.le_of_eq h.size.symm,fun k hk=>h.block k (fun hm=>by have:=(hM.at_ k hm).1; omega)⟩
theorem Taken.own {B base e size n:Nat} {Ds:List Nat} {W W':World} {v:Value} {xs:List Value} (h:Taken Ds W W') (hM:Marks B Ds W) (ho:W.ownsRow base e size v n xs):W'.ownsRow base e size v n xs:=by
 refine ⟨ho.1,?_⟩
 rcases ho.2 with h1 | ⟨g,cap,cur,e1,hb,hg,rest⟩
 ·exact .inl h1
 ·refine .inr ⟨g,cap,cur,e1,hb,(h.block g (fun hm=>?_)).trans hg,rest⟩
  rw [(hM.at_ g hm).2] at hg; cases hg
theorem room_of_none {F:Fence} (hd:F.depth=none) (k:Nat):F.room k:=fun d h=>by rw [hd] at h; cases h
theorem RoundIn.anyDepth {F:Fence} (hd:F.depth=none) {m m':Nat} {P:Program} {l:Nat} {f:FuncId} {tmps:Array Value} {assign body:Code} {w:World} {R:Ending→World→Prop}
  (h:RoundIn F m P l f tmps assign body w R):RoundIn F m' P l f tmps assign body w R:=⟨h.1,fun c cs _=>h.2 c cs (room_of_none hd _)⟩
theorem YieldAt.anyDepth {F:Fence} (hd:F.depth=none) {m:Nat} (m':Nat) {P:Program} {l:Nat} {args:Array Value} {W:World} {R:Ending→World→Prop} (h:YieldAt F m P l args W R):YieldAt F m' P l args W R:=by
 obtain ⟨fn,tmps,assign,body,hy,hR⟩:=h
 exact ⟨fn,tmps,assign,body,hy,RoundIn.anyDepth hd hR⟩
end Go.Proofs.YtmbffkemfepekaaGreatDoor

namespace Go.Proofs.YtmbffkemfepekaaGreatDoor
open Go.RowKit Go.Shelf
attribute [local go_sem] Oper.semAt_some
/-- A part with its cells. -/
structure PEx where
 k:Int
 o:Int
 nm:ByteArray
 v:Int
 A:Option Addr
 m:Nat
 c:Nat
 e:Ex
def PEx.vs (x:PEx):List Value:=exC x.k x.o x.nm x.v x.A x.m x.c
/-- Those cells read as that expression, somewhere. -/
def Read1 (x:PEx):Prop:=∃ (w:World) (B:Nat),LiesE w B x.vs x.e
theorem LiesE.kept {w w':World} {B:Nat} {vs:List Value} {e:Ex} (h:LiesE w B vs e) (hk:CellsKept 0 0 w w'):LiesE w' B vs e:=by
 induction h with
 | mk k o n v A c xs row bd hA hr ih=>
  refine .mk k o n v A c xs row bd ?_ ih
  rcases hA with h0 | ⟨b,off,e,hb,hc⟩
  ·exact .inl h0
  ·exact .inr ⟨b,off,e,hb,fun i hi j u hu=>hk.cell (.inr (Nat.zero_le _)) (hc i hi j u hu)⟩
set_option maxRecDepth 100000 in
set_option maxHeartbeats 3200000 in
theorem visit_in (l b lo:Nat) (J Jx:List PEx→World→Prop) (all:List Ex) (hJa:∀ s A B,J s A→ItAb b A B→J s B)
  (hY:∀ (m:Nat) (p:List PEx) (x:PEx) (W:World),J p W→Read1 x→(p++[x]).map PEx.e <+: all→YieldAt Fence.wide m Tryz.prog l #[.agg x.vs.toArray] W fun e W'=>
   (e=.returned (.bool true)∧J (p++[x]) W'∧CellsKept 0 0 W W')∨(e=.returned (.bool false)∧Jx (p++[x]) W')) :
  ∀ (e:Ex) (n:Nat) (vs:List Value) (p:List PEx) (W:World),LiesE W lo vs e→lo≤W.heap.size→b≤W.heap.size→J p W→p.map PEx.e++pre e <+: all →
   CallsIn Fence.wide n Tryz.prog 112 #[.agg vs.toArray,.func (.yield l) #[] #[]] W fun x W'=>
    (x=.returned (.bool true)∧(∃ ys:List PEx,ys.map PEx.e=pre e∧J (p++ys) W')∧CellsKept 0 0 W W')∨(x=.returned (.bool false)∧∃ q,Jx q W'):=by
 intro e
 induction e using Ex.ind with
 | h k o nm v xs ih=>
  intro n vs p W hL hlo hb hJ hpre
  have hL0:=hL
  obtain ⟨A,cap,rfl,bd,harg⟩:=hL.arg
  have hll:xs.length≤9223372036854775807:=bd.2.2.2.2.1
  have HARG:=Lib.hid harg
  have HIH:=Lib.hid ih
  have hO:=one_new W #[.int .i64 k,.int .i64 o,.string nm,.int .i64 v,.slice A xs.length cap] 38
  have hJ1:=hJa p W (W.alloc (.cells #[.int .i64 k,.int .i64 o,.string nm,.int .i64 v,.slice A xs.length cap] 38)) hJ (ItAb.of_below (below_alloc _ _) hb)
  simp only [Ex.kind,Ex.op,Ex.name,Ex.val,Ex.args] at HARG ⊢
  clear harg ih bd
  refine callsIn_of_wp Tryz.func112 rfl trivial ?_ rfl
  simp only [Tryz.ntmps112,exC,List.size_toArray,List.length_cons,List.length_nil,Nat.reduceAdd,Nat.reduceSub,Array.replicate_succ,Array.replicate_zero,List.push_toArray,List.append_toArray,List.nil_append,List.cons_append]
  gi_upto_region 1 with fail
  have hx1:(p++[(⟨k,o,nm,v,A,xs.length,cap,Ex.mk k o nm v xs⟩:PEx)]).map PEx.e <+: all:=by
   refine List.IsPrefix.trans ?_ hpre
   rw [List.map_append,pre]
   exact ⟨preL xs,by simp⟩
  have hq:=hY (n - 1) p (⟨k,o,nm,v,A,xs.length,cap,Ex.mk k o nm v xs⟩:PEx) _ hJ1 ⟨W,lo,hL0⟩ hx1
  have HK0:Hid (CellsKept 0 0 W (W.alloc (.cells #[.int .i64 k,.int .i64 o,.string nm,.int .i64 v,.slice A xs.length cap] 38))):=Lib.hid (CellsKept.turn (Turn.of_below hO.below))
  generalize W.alloc _=W1 at hO hJ1 hq HK0 ⊢
  obtain ⟨x0,x1,x2,x3,x4⟩:=bx5 hO.fst
  simp only [PEx.vs,exC] at hq
  obtain ⟨fn,tmps,assign,body,hy2,hR2⟩:=hq
  have HPRE:=Lib.hid hpre
  have HYY:=Lib.hid hY
  have HJA:=Lib.hid hJa
  have HL0:=Lib.hid hL0
  have HO:=Lib.hid hO
  clear hx1 hJ1 hJ hY hJa hpre hL hL0 hO
  gi_wp2
  refine ⟨fun h=>(by cases h),?_⟩
  refine hR2.mono ?_
  clear hR2 hy2
  rintro e W2 (⟨rfl,hJ2,hk2⟩ | ⟨rfl,hx2⟩)
  rotate_left
  ·gi_wp2
   refine bodyPost_ret (results_tmp rfl _ _ _) rfl ?_
   exact .inr ⟨rfl,_,hx2⟩
  have y4:=hk2.cell (.inr (Nat.zero_le _)) x4
  have HK2:=Lib.hid (HK0.out.trans hk2)
  have HJ2:=Lib.hid hJ2
  have hz2:W.heap.size≤W2.heap.size:=HK2.out.size
  clear x0 x1 x2 x3 x4 hk2 hJ2 HK0
  gi_wp2
  clear y4
  obtain ⟨me,hme⟩:∃ me:PEx,me=⟨k,o,nm,v,A,xs.length,cap,Ex.mk k o nm v xs⟩:=⟨_,rfl⟩
  rw [← hme] at HJ2
  have HME:Hid (me.e=Ex.mk k o nm v xs):=Lib.hid (by rw [hme])
  clear hme
  gi_loopw [4,14] (fun r i wr=>r=.bool false∧∃ (j:Nat) (ys:List PEx),i=.int .i64 (j:Nat)∧j≤xs.length∧Hid (ys.map PEx.e=preL (xs.take j))∧Hid (J (p++[me]++ys) wr)∧CellsKept 0 0 W wr) (fun _ i _=>xs.length - (intOf i).toNat)
  case atStart=>exact ⟨rfl,0,[],rfl,Nat.zero_le _,Lib.hid (by simp [preL]),Lib.hid (by simpa using HJ2.out),HK2.out⟩
  case round=>
   clear hz2
   obtain ⟨rfl,j,ys,rfl,hj,hys,hJ3,hk3⟩:=hrel
   have hj0:(0:Int)≤(j:Int):=by omega
   have hz3:W.heap.size≤wr.heap.size:=hk3.size
   by_cases hlt:j<xs.length
   ·have hd1:decide ((j:Int)<(xs.length:Int))=true:=decide_eq_true (by omega)
    have hwr1:IntKind.i64.wrap ((j:Int)+1)=(j:Int)+1:=by rw [IntKind.wrap_i64]; omega
    have hd3:decide (j<xs.length)=true:=decide_eq_true hlt
    have hjl:(j:Int)<(xs.length:Int):=by omega
    obtain ⟨b1,off,k1,o1,n1,v1,A1,m1,cap1,rfl,hb1,hL1,y0,y1,y2,y3,y4⟩:=HARG.out j hlt
    have z0:=hk3.cell (.inr (Nat.zero_le _)) y0
    have z1:=hk3.cell (.inr (Nat.zero_le _)) y1
    have z2:=hk3.cell (.inr (Nat.zero_le _)) y2
    have z3:=hk3.cell (.inr (Nat.zero_le _)) y3
    have z4:=hk3.cell (.inr (Nat.zero_le _)) y4
    have hO4:=one_new wr #[.int .i64 k1,.int .i64 o1,.string n1,.int .i64 v1,.slice A1 m1 cap1] 38
    have hJ4:=HJA.out _ wr (wr.alloc (.cells #[.int .i64 k1,.int .i64 o1,.string n1,.int .i64 v1,.slice A1 m1 cap1] 38)) hJ3.out (ItAb.of_below hO4.below (by omega))
    have hk4:=hk3.trans (CellsKept.turn (lo:=0) (hi:=0) (Turn.of_below hO4.below))
    have hz4:=hO4.size
    clear y0 y1 y2 y3 y4
    gi_upto_region 6 with fail
    generalize wr.alloc _=w4 at hO4 hJ4 hk4 hz4 ⊢
    obtain ⟨x0,x1,x2,x3,x4⟩:=bx5 hO4.fst
    have hpr:(p++[me]++ys).map PEx.e++pre xs[j] <+: all:=by
     refine List.IsPrefix.trans ?_ HPRE.out
     rw [List.map_append,List.map_append,hys.out,pre]
     simp only [List.map_cons,List.map_nil,HME.out,List.append_assoc,List.cons_append,List.nil_append]
     rw [← pre_take xs j hlt]
     refine (List.prefix_append_right_inj _).2 (List.prefix_cons_inj _ |>.2 ?_)
     have e1:xs=xs.take (j+1)++xs.drop (j+1):=(List.take_append_drop _ _).symm
     exact ⟨preL (xs.drop (j+1)),by rw [← preL_append,← e1]⟩
    have hs:=HIH.out xs[j] (List.getElem_mem _) (n - 1) (exC k1 o1 n1 v1 A1 m1 cap1) (p++[me]++ys) w4 (hL1.kept hk4) (by omega) (by omega) hJ4 hpr
    unfold exC at hs
    have HS:=Lib.hid hs
    have HK4:=Lib.hid hk4
    have HPT:=Lib.hid (pre_take xs j hlt)
    clear hO4 hJ4 hk3 hk4 hL1 hpr hs z0 z1 z2 z3 z4
    gi_wp2
    refine ⟨trivial,fun h=>(by cases h),?_⟩
    refine HS.out.mono ?_
    clear HS
    rintro e W5 (⟨rfl,⟨ys5,hy5,hJ5⟩,hk5⟩ | ⟨rfl,q,hx5⟩)
    ·have HY5:=Lib.hid hy5
     have HJ5:=Lib.hid hJ5
     have HK5:=Lib.hid (HK4.out.trans hk5)
     clear hy5 hJ5 hk5 x0 x1 x2 x3 x4
     gi_wp2
     exact ⟨⟨rfl,j+1,ys++ys5,by go_num,by omega,Lib.hid (by rw [List.map_append,hys.out,HY5.out,HPT.out]),Lib.hid (by rw [← List.append_assoc]; exact HJ5.out),HK5.out⟩,by simp [intOf]; omega⟩
    ·gi_wp2
     refine bodyPost_ret (results_tmp rfl _ _ _) rfl ?_
     exact .inr ⟨rfl,q,hx5⟩
   ·have hd1:decide ((j:Int)<(xs.length:Int))=false:=decide_eq_false (by omega)
    have hd3:decide (j<xs.length)=false:=decide_eq_false hlt
    have HF:Hid ((me::ys).map PEx.e=pre (Ex.mk k o nm v xs)):=Lib.hid (by
     have:=hys.out
     rw [List.take_of_length_le (by omega)] at this
     rw [List.map_cons,this,HME.out,pre])
    clear hys
    gi_wp2
    refine bodyPost_ret (results_tmp rfl _ _ _) rfl ?_
    exact .inl ⟨rfl,⟨me::ys,HF.out,by have:=hJ3.out; rwa [List.append_assoc] at this⟩,hk3⟩
end Go.Proofs.YtmbffkemfepekaaGreatDoor

namespace Go.Proofs.YtmbffkemfepekaaGreatDoor
open Go.RowKit Go.Shelf
attribute [local go_sem] Oper.semAt_some
set_option maxRecDepth 100000 in
set_option maxHeartbeats 3200000 in
theorem parts1_in (m:Nat) (lY b0 lo:Nat) (e:Ex) (k o:Int) (nm:ByteArray) (v:Int) (A:Option Addr) (q c:Nat) (J Jx:List PEx→World→Prop) (hJa:∀ s A B,J s A→ItAb (b0+1) A B→J s B)
  (hY:∀ (p:List PEx) (x:PEx) (W:World),J p W→(Read1 x∧(p++[x]).map PEx.e <+: pre e)→YieldAt Fence.wide (m - 1) Tryz.prog lY #[.agg x.vs.toArray] W fun e W'=>
   (e=.returned (.bool true)∧J (p++[x]) W'∧CellsKept 0 0 W W')∨(e=.returned (.bool false)∧Jx (p++[x]) W'))
  (W:World) (hL:LiesE W lo (exC k o nm v A q c) e) (hlo:lo≤W.heap.size) (hb0:b0<W.heap.size) (hB:Bx W b0 (exC k o nm v A q c)) (h0:J [] W) :
  CallsIn Fence.wide m Tryz.prog 111 #[.func (.yield lY) #[] #[],.pointer (some ⟨b0,0,none⟩)] W fun x W'=>(∃ v,x=.returned v) ∧
   ((∃ ys:List PEx,ys.map PEx.e=pre e∧J ys W')∨(∃ p:List PEx,True∧Jx p W')):=by
 have hp:=visit_in lY (b0+1) lo J Jx (pre e) hJa (fun m' p x W hj hr hpr=>YieldAt.anyDepth rfl m' (hY p x W hj ⟨hr,hpr⟩)) e (m - 1) (exC k o nm v A q c) [] W hL hlo hb0 h0 (by simp)
 obtain ⟨x0,x1,x2,x3,x4⟩:=bx5 hB
 unfold exC at hp
 have HP:=Lib.hid hp
 clear hp hY hJa h0 hL hB
 refine callsIn_of_wp Tryz.func111 rfl trivial ?_ rfl
 simp only [Tryz.ntmps111,List.size_toArray,List.length_cons,List.length_nil,Nat.reduceAdd,Nat.reduceSub,Array.replicate_succ,Array.replicate_zero,List.push_toArray,List.append_toArray,List.nil_append,List.cons_append]
 gi_wp2
 refine ⟨trivial,fun h=>(by cases h),?_⟩
 refine HP.out.mono ?_
 clear HP
 rintro x W5 (⟨rfl,⟨ys,hy,hJ⟩,-⟩ | ⟨rfl,p,hx⟩)
 ·have HJ:=Lib.hid hJ
  have HY:=Lib.hid hy
  clear hJ hy
  gi_wp2
  go_end0
  exact ⟨⟨_,rfl⟩,.inl ⟨ys,HY.out,by simpa using HJ.out⟩⟩
 ·gi_wp2
  go_end0
  exact ⟨⟨_,rfl⟩,.inr ⟨p,trivial,hx⟩⟩
theorem parts_stops (m:Nat) (b0 lo:Nat) (e:Ex) (k o:Int) (nm:ByteArray) (v:Int) (A:Option Addr) (q c:Nat) (w:World) (hL:LiesE w lo (exC k o nm v A q c) e) (hlo:lo≤b0) (hb0:b0<w.heap.size) (hB:Bx w b0 (exC k o nm v A q c)) :
  SeqAc Fence.wide m Tryz.prog 111 #[.pointer (some ⟨b0,0,none⟩)] (fun x:PEx=>#[.agg x.vs.toArray]) (ItAb (b0+1)) (CellsKept 0 0) (fun ys=>ys.map PEx.e=pre e) (fun _=>True) (fun p x=>Read1 x∧(p++[x]).map PEx.e <+: pre e) w:=
 fun lY J Jx W hW hJa hY h0=>parts1_in m lY b0 lo e k o nm v A q c J Jx hJa hY W (hL.below' hW (by omega)) (by have:=hW.size; omega) (Nat.lt_of_lt_of_le hb0 hW.size) (hB.below hW hb0) h0
set_option maxRecDepth 100000 in
theorem parts_any (k o:Int) (nm:ByteArray) (v:Int) (A:Option Addr) (q c:Nat) (w:World) :
  Calls Tryz.prog 67 #[.agg (exC k o nm v A q c).toArray] w fun e W=>e=.returned (.func (.func 111) #[] #[.pointer (some ⟨w.heap.size,0,none⟩)])∧W=w.alloc (.cells (exC k o nm v A q c).toArray 38):=by
 unfold exC
 go_enter Tryz.func67,Tryz.ntmps67
 go_wp2_with fail
 go_ret
 exact ⟨rfl,rfl⟩
end Go.Proofs.YtmbffkemfepekaaGreatDoor
