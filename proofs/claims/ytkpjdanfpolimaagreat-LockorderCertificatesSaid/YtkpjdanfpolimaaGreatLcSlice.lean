/- Slicing a slice, as a rule for the walk. Conditions: the bounds fit. · slices.ContainsFunc with the closures that compare names, walked. Conditions: none. · checkObject, walked. Conditions: the program lies in memory. -/
import Derived.Test.YtkpjdanfpolimaaGreatLcBase
import Derived.Test.YtkpjdanfpolimaaGreatLcNm
set_option maxRecDepth 100000
set_option maxHeartbeats 3200000
namespace Go.Proofs.YtkpjdanfpolimaaGreat
section
open Go.RowKit

def cutAddr (A:Option Addr) (cap l size:Nat):Option Addr:=if cap=l then A else A.map (·.add (l * size))
theorem run_slice_from {P:Program} {t e:TypeId} {size:Nat} (ht:P.underlying t=some (.slice e)) (hs:∀ w,(sizeOf e).run P w=.ok size w) (A:Option Addr) {n cap l:Nat} (hl:l≤n) (k:IntKind) (w:World) :
  (Instr.slice t (.slice A n cap) (some (.int k (l:Int))) none none).run P w=.ok (.slice (cutAddr A cap l size) (n - l) (cap - l)) w:=by
 have hb:(Instr.sliceBound (.int k (l:Int)) n .sliceB).run P w=.ok l w:=by
  rw [run_sliceBound w k (l:Int) n .sliceB (by omega) (by omega)]; simp
 simp [Instr.slice,Instr.sliceBounds,Sem.run_bind,run_underlying ht,hb,hs,Result.andThen,cutAddr]
theorem run_slice_full {P:Program} {t e:TypeId} {size:Nat} (ht:P.underlying t=some (.slice e)) (hs:∀ w,(sizeOf e).run P w=.ok size w) (A:Option Addr) {n cap l h m:Nat} (hl:l≤h) (hh:h≤m) (hm:m≤cap) (k k' k'':IntKind) (w:World) :
  (Instr.slice t (.slice A n cap) (some (.int k (l:Int))) (some (.int k' (h:Int))) (some (.int k'' (m:Int)))).run P w=.ok (.slice (cutAddr A m l size) (h - l) (m - l)) w:=by
 have hb:(Instr.sliceBound (.int k (l:Int)) h .slice3C).run P w=.ok l w:=by
  rw [run_sliceBound w k (l:Int) h .slice3C (by omega) (by omega)]; simp
 have hc:(Instr.sliceBound (.int k' (h:Int)) m .slice3B).run P w=.ok h w:=by
  rw [run_sliceBound w k' (h:Int) m .slice3B (by omega) (by omega)]; simp
 have hd:(Instr.sliceBound (.int k'' (m:Int)) cap .slice3Acap).run P w=.ok m w:=by
  rw [run_sliceBound w k'' (m:Int) cap .slice3Acap (by omega) (by omega)]; simp
 simp [Instr.slice,Instr.sliceBounds,Sem.run_bind,run_underlying ht,hb,hc,hd,hs,Result.andThen,cutAddr]
end
section
open Go.RowKit
def RetIdx (p:Bool) (w:World):Ending→World→Prop:=fun e w'=>∃ i:Int,e=.returned (.int .i64 i)∧decide (0≤i)=p∧Below w.heap.size w w'
theorem any_take {α:Type} {f:α→Bool} (l:List α) {k:Nat} (hk:k<l.length) (h:(l.take k).any f=false):(l.take (k+1)).any f=f l[k]:=by
 rw [List.take_succ_eq_append_getElem hk,List.any_append,h];simp
theorem any_of_take' {α:Type} {f:α→Bool} {l:List α} {k:Nat} (h:(l.take (k+1)).any f=true):l.any f=true:=by
 rw [List.any_eq_true] at h ⊢;obtain ⟨x,hx,h1⟩:=h;exact ⟨x,List.mem_of_mem_take hx,h1⟩

/-! ### nursery/program.checkObject$1 -/
theorem cloOb1 (nm':ByteArray) (kd sz ot:Int) (nm:ByteArray) (g:Nat) (w:World) (hg:g<w.heap.size) (hc:w.cell? ⟨g,0,none⟩=some (.string nm)) :
  Calls Tryz.prog 104 #[.agg #[.string nm',.int .i64 kd,.int .i64 sz,.int .i64 ot],.pointer (some ⟨g,0,none⟩)] w (Ret (.bool (nm' == nm)) w):=by
 have hb:Below w.heap.size w (w.alloc (.cells #[.string nm',.int .i64 kd,.int .i64 sz,.int .i64 ot] 65)):=below_alloc _ _;have hc1:(w.alloc (.cells #[.string nm',.int .i64 kd,.int .i64 sz,.int .i64 ot] 65)).cell? ⟨g,0,none⟩=some (.string nm):=(World.cell?_alloc_lt _ _ _ hg).trans hc;have hbt:=beq_toListBytes nm' nm;obtain ⟨q,hq⟩:∃ q,(nm' == nm)=q:=⟨_,rfl⟩
 rw [hq] at hbt ⊢;have hbt2:(nm'.toList == nm.toList)=q:=hbt.symm;clear hbt hq;go_enter Tryz.func104,Tryz.ntmps104;go_wp2_with fail;go_ret;exact ⟨rfl,hb⟩
theorem idxOb1 (A:Option Addr) (c:Nat) (l:List Ob) (nm:ByteArray) (g:Nat) (w:World) (h:RdL w w.heap.size 4 Ob.cells A l) (hm:l.length≤maxLen) (hg:g<w.heap.size) (hc:w.cell? ⟨g,0,none⟩=some (.string nm)) :
  Calls Tryz.prog 121 #[.slice A l.length c,.func (.func 104) #[] #[.pointer (some ⟨g,0,none⟩)]] w (RetIdx (l.any fun x=>x.name == nm) w):=by
 unfold maxLen at hm;go_enter Tryz.func121,Tryz.ntmps121;go_wp2_with fail;go_loopw [5,8] (fun _ i wr=>∃ k:Nat,i=.int .i64 k∧k≤l.length∧Hid ((l.take k).any (fun x=>x.name == nm)=false)∧Below w.heap.size w wr) (fun _ i _=>l.length - (intOf i).toNat)
 case atStart=>exact ⟨0,rfl,by omega,hid (by simp),Below.refl _ _⟩
 case round=>
  obtain ⟨k,rfl,hk,hnone,hb⟩:=hrel;by_cases hlt:k<l.length
  ·have hd1:=Dt (show (k:Int)<l.length by omega)
   have hd2:=Dt hlt;obtain ⟨b,off,rfl,hbb,hcl⟩:=RdL.at_ (Rd.below h hb) (fun _=>rfl) hlt;have hs:=any_take l hlt hnone.out;obtain ⟨x,hx⟩:∃ x,l[k]=x:=⟨_,rfl⟩
   rw [hx] at hcl hs;obtain ⟨nm',kd,sz,ot⟩:=x;dsimp only at hs;have q0:=hcl 0 _ rfl;have q1:=hcl 1 _ rfl;have q2:=hcl 2 _ rfl;have q3:=hcl 3 _ rfl;rw [Nat.add_zero] at q0;have hwr1:=Wi k (by omega);have hcg:=(hb.cell (p:=⟨g,0,none⟩) hg).trans hc;have hgr:g<wr.heap.size:=by have:=hb.size; omega
   have HS:=hid hs;clear hs hx hcl hnone
   cases hq:(nm' == nm) with
   | true=>
    rw [hq] at HS;go_wp2_with fail;refine (cloOb1 nm' kd sz ot nm g _ hgr hcg).mono ?_;rw [hq];rintro e w1 ⟨rfl,hb1⟩;go_wp2_with fail;go_ret;exact ⟨_,rfl,by rw [any_of_take' HS.out]; simp,hb.trans (hb1.mono hb.size)⟩
   | false=>
    rw [hq] at HS;go_wp2_with fail;refine (cloOb1 nm' kd sz ot nm g _ hgr hcg).mono ?_;rw [hq];rintro e w1 ⟨rfl,hb1⟩;go_wp2_with fail;exact ⟨⟨k+1,by go_num,by omega,hid HS.out,hb.trans (hb1.mono hb.size)⟩,by simp [intOf]; omega⟩
  ·have hd1:=Df (show ¬ (k:Int)<l.length by omega)
   have hd2:=Df hlt;obtain rfl:k=l.length:=by omega
   have hr:(l.any fun x=>x.name == nm)=false:=by have:=hnone.out; rwa [List.take_length] at this
   have HR:=hid hr;clear hr;go_wp2_with fail;go_ret;exact ⟨_,rfl,by rw [HR.out]; rfl,hb⟩
theorem hasOb1 (A:Option Addr) (c:Nat) (l:List Ob) (nm:ByteArray) (g:Nat) (w:World) (h:RdL w w.heap.size 4 Ob.cells A l) (hm:l.length≤maxLen) (hg:g<w.heap.size) (hc:w.cell? ⟨g,0,none⟩=some (.string nm)) :
  Calls Tryz.prog 103 #[.slice A l.length c,.func (.func 104) #[] #[.pointer (some ⟨g,0,none⟩)]] w (Ret (.bool (l.any fun x=>x.name == nm)) w):=by
 go_enter Tryz.func103,Tryz.ntmps103;go_wp2_with fail;refine (idxOb1 A c l nm g _ h hm hg hc).mono ?_;rintro e w1 ⟨i,rfl,hi,hb1⟩;have HI:=hid hi;clear hi;go_wp2_with fail;go_ret;exact ⟨by rw [← HI.out]; rfl,hb1⟩

/-! ### nursery/program.checkVar$1 -/
theorem cloOb2 (nm':ByteArray) (kd sz ot:Int) (nm:ByteArray) (g:Nat) (w:World) (hg:g<w.heap.size) (hc:w.cell? ⟨g,0,none⟩=some (.string nm)) :
  Calls Tryz.prog 105 #[.agg #[.string nm',.int .i64 kd,.int .i64 sz,.int .i64 ot],.pointer (some ⟨g,0,none⟩)] w (Ret (.bool (nm' == nm)) w):=by
 have hb:Below w.heap.size w (w.alloc (.cells #[.string nm',.int .i64 kd,.int .i64 sz,.int .i64 ot] 65)):=below_alloc _ _;have hc1:(w.alloc (.cells #[.string nm',.int .i64 kd,.int .i64 sz,.int .i64 ot] 65)).cell? ⟨g,0,none⟩=some (.string nm):=(World.cell?_alloc_lt _ _ _ hg).trans hc;have hbt:=beq_toListBytes nm' nm;obtain ⟨q,hq⟩:∃ q,(nm' == nm)=q:=⟨_,rfl⟩
 rw [hq] at hbt ⊢;have hbt2:(nm'.toList == nm.toList)=q:=hbt.symm;clear hbt hq;go_enter Tryz.func105,Tryz.ntmps105;go_wp2_with fail;go_ret;exact ⟨rfl,hb⟩
theorem idxOb2 (A:Option Addr) (c:Nat) (l:List Ob) (nm:ByteArray) (g:Nat) (w:World) (h:RdL w w.heap.size 4 Ob.cells A l) (hm:l.length≤maxLen) (hg:g<w.heap.size) (hc:w.cell? ⟨g,0,none⟩=some (.string nm)) :
  Calls Tryz.prog 121 #[.slice A l.length c,.func (.func 105) #[] #[.pointer (some ⟨g,0,none⟩)]] w (RetIdx (l.any fun x=>x.name == nm) w):=by
 unfold maxLen at hm;go_enter Tryz.func121,Tryz.ntmps121;go_wp2_with fail;go_loopw [5,8] (fun _ i wr=>∃ k:Nat,i=.int .i64 k∧k≤l.length∧Hid ((l.take k).any (fun x=>x.name == nm)=false)∧Below w.heap.size w wr) (fun _ i _=>l.length - (intOf i).toNat)
 case atStart=>exact ⟨0,rfl,by omega,hid (by simp),Below.refl _ _⟩
 case round=>
  obtain ⟨k,rfl,hk,hnone,hb⟩:=hrel;by_cases hlt:k<l.length
  ·have hd1:=Dt (show (k:Int)<l.length by omega)
   have hd2:=Dt hlt;obtain ⟨b,off,rfl,hbb,hcl⟩:=RdL.at_ (Rd.below h hb) (fun _=>rfl) hlt;have hs:=any_take l hlt hnone.out;obtain ⟨x,hx⟩:∃ x,l[k]=x:=⟨_,rfl⟩
   rw [hx] at hcl hs;obtain ⟨nm',kd,sz,ot⟩:=x;dsimp only at hs;have q0:=hcl 0 _ rfl;have q1:=hcl 1 _ rfl;have q2:=hcl 2 _ rfl;have q3:=hcl 3 _ rfl;rw [Nat.add_zero] at q0;have hwr1:=Wi k (by omega);have hcg:=(hb.cell (p:=⟨g,0,none⟩) hg).trans hc;have hgr:g<wr.heap.size:=by have:=hb.size; omega
   have HS:=hid hs;clear hs hx hcl hnone
   cases hq:(nm' == nm) with
   | true=>
    rw [hq] at HS;go_wp2_with fail;refine (cloOb2 nm' kd sz ot nm g _ hgr hcg).mono ?_;rw [hq];rintro e w1 ⟨rfl,hb1⟩;go_wp2_with fail;go_ret;exact ⟨_,rfl,by rw [any_of_take' HS.out]; simp,hb.trans (hb1.mono hb.size)⟩
   | false=>
    rw [hq] at HS;go_wp2_with fail;refine (cloOb2 nm' kd sz ot nm g _ hgr hcg).mono ?_;rw [hq];rintro e w1 ⟨rfl,hb1⟩;go_wp2_with fail;exact ⟨⟨k+1,by go_num,by omega,hid HS.out,hb.trans (hb1.mono hb.size)⟩,by simp [intOf]; omega⟩
  ·have hd1:=Df (show ¬ (k:Int)<l.length by omega)
   have hd2:=Df hlt;obtain rfl:k=l.length:=by omega
   have hr:(l.any fun x=>x.name == nm)=false:=by have:=hnone.out; rwa [List.take_length] at this
   have HR:=hid hr;clear hr;go_wp2_with fail;go_ret;exact ⟨_,rfl,by rw [HR.out]; rfl,hb⟩
theorem hasOb2 (A:Option Addr) (c:Nat) (l:List Ob) (nm:ByteArray) (g:Nat) (w:World) (h:RdL w w.heap.size 4 Ob.cells A l) (hm:l.length≤maxLen) (hg:g<w.heap.size) (hc:w.cell? ⟨g,0,none⟩=some (.string nm)) :
  Calls Tryz.prog 103 #[.slice A l.length c,.func (.func 105) #[] #[.pointer (some ⟨g,0,none⟩)]] w (Ret (.bool (l.any fun x=>x.name == nm)) w):=by
 go_enter Tryz.func103,Tryz.ntmps103;go_wp2_with fail;refine (idxOb2 A c l nm g _ h hm hg hc).mono ?_;rintro e w1 ⟨i,rfl,hi,hb1⟩;have HI:=hid hi;clear hi;go_wp2_with fail;go_ret;exact ⟨by rw [← HI.out]; rfl,hb1⟩

/-! ### nursery/program.checkVar$2 -/
theorem cloVr1 (nm':ByteArray) (ini:Int) (at':Bool) (nm:ByteArray) (g:Nat) (w:World) (hg:g<w.heap.size) (hc:w.cell? ⟨g,0,none⟩=some (.string nm)) :
  Calls Tryz.prog 107 #[.agg #[.string nm',.int .i64 ini,.bool at'],.pointer (some ⟨g,0,none⟩)] w (Ret (.bool (nm' == nm)) w):=by
 have hb:Below w.heap.size w (w.alloc (.cells #[.string nm',.int .i64 ini,.bool at'] 67)):=below_alloc _ _;have hc1:(w.alloc (.cells #[.string nm',.int .i64 ini,.bool at'] 67)).cell? ⟨g,0,none⟩=some (.string nm):=(World.cell?_alloc_lt _ _ _ hg).trans hc;have hbt:=beq_toListBytes nm' nm;obtain ⟨q,hq⟩:∃ q,(nm' == nm)=q:=⟨_,rfl⟩
 rw [hq] at hbt ⊢;have hbt2:(nm'.toList == nm.toList)=q:=hbt.symm;clear hbt hq;go_enter Tryz.func107,Tryz.ntmps107;go_wp2_with fail;go_ret;exact ⟨rfl,hb⟩
theorem idxVr1 (A:Option Addr) (c:Nat) (l:List Vr) (nm:ByteArray) (g:Nat) (w:World) (h:RdL w w.heap.size 3 Vr.cells A l) (hm:l.length≤maxLen) (hg:g<w.heap.size) (hc:w.cell? ⟨g,0,none⟩=some (.string nm)) :
  Calls Tryz.prog 122 #[.slice A l.length c,.func (.func 107) #[] #[.pointer (some ⟨g,0,none⟩)]] w (RetIdx (l.any fun x=>x.name == nm) w):=by
 unfold maxLen at hm;go_enter Tryz.func122,Tryz.ntmps122;go_wp2_with fail;go_loopw [5,8] (fun _ i wr=>∃ k:Nat,i=.int .i64 k∧k≤l.length∧Hid ((l.take k).any (fun x=>x.name == nm)=false)∧Below w.heap.size w wr) (fun _ i _=>l.length - (intOf i).toNat)
 case atStart=>exact ⟨0,rfl,by omega,hid (by simp),Below.refl _ _⟩
 case round=>
  obtain ⟨k,rfl,hk,hnone,hb⟩:=hrel;by_cases hlt:k<l.length
  ·have hd1:=Dt (show (k:Int)<l.length by omega)
   have hd2:=Dt hlt;obtain ⟨b,off,rfl,hbb,hcl⟩:=RdL.at_ (Rd.below h hb) (fun _=>rfl) hlt;have hs:=any_take l hlt hnone.out;obtain ⟨x,hx⟩:∃ x,l[k]=x:=⟨_,rfl⟩
   rw [hx] at hcl hs;obtain ⟨nm',ini,at'⟩:=x;dsimp only at hs;have q0:=hcl 0 _ rfl;have q1:=hcl 1 _ rfl;have q2:=hcl 2 _ rfl;rw [Nat.add_zero] at q0;have hwr1:=Wi k (by omega);have hcg:=(hb.cell (p:=⟨g,0,none⟩) hg).trans hc;have hgr:g<wr.heap.size:=by have:=hb.size; omega
   have HS:=hid hs;clear hs hx hcl hnone
   cases hq:(nm' == nm) with
   | true=>
    rw [hq] at HS;go_wp2_with fail;refine (cloVr1 nm' ini at' nm g _ hgr hcg).mono ?_;rw [hq];rintro e w1 ⟨rfl,hb1⟩;go_wp2_with fail;go_ret;exact ⟨_,rfl,by rw [any_of_take' HS.out]; simp,hb.trans (hb1.mono hb.size)⟩
   | false=>
    rw [hq] at HS;go_wp2_with fail;refine (cloVr1 nm' ini at' nm g _ hgr hcg).mono ?_;rw [hq];rintro e w1 ⟨rfl,hb1⟩;go_wp2_with fail;exact ⟨⟨k+1,by go_num,by omega,hid HS.out,hb.trans (hb1.mono hb.size)⟩,by simp [intOf]; omega⟩
  ·have hd1:=Df (show ¬ (k:Int)<l.length by omega)
   have hd2:=Df hlt;obtain rfl:k=l.length:=by omega
   have hr:(l.any fun x=>x.name == nm)=false:=by have:=hnone.out; rwa [List.take_length] at this
   have HR:=hid hr;clear hr;go_wp2_with fail;go_ret;exact ⟨_,rfl,by rw [HR.out]; rfl,hb⟩
theorem hasVr1 (A:Option Addr) (c:Nat) (l:List Vr) (nm:ByteArray) (g:Nat) (w:World) (h:RdL w w.heap.size 3 Vr.cells A l) (hm:l.length≤maxLen) (hg:g<w.heap.size) (hc:w.cell? ⟨g,0,none⟩=some (.string nm)) :
  Calls Tryz.prog 106 #[.slice A l.length c,.func (.func 107) #[] #[.pointer (some ⟨g,0,none⟩)]] w (Ret (.bool (l.any fun x=>x.name == nm)) w):=by
 go_enter Tryz.func106,Tryz.ntmps106;go_wp2_with fail;refine (idxVr1 A c l nm g _ h hm hg hc).mono ?_;rintro e w1 ⟨i,rfl,hi,hb1⟩;have HI:=hid hi;clear hi;go_wp2_with fail;go_ret;exact ⟨by rw [← HI.out]; rfl,hb1⟩

/-! ### nursery/program.checkFunc$1 -/
theorem cloFn1 (nm':ByteArray) (pa rg pr:Int) (cl:Bool) (code:List Ins) (ca:Option Addr) (cc:Nat) (nm:ByteArray) (g:Nat) (w:World) (hg:g<w.heap.size) (hc:w.cell? ⟨g,0,none⟩=some (.string nm)) :
  Calls Tryz.prog 109 #[.agg #[.string nm',.int .i64 pa,.int .i64 rg,.int .i64 pr,.bool cl,.slice ca code.length cc],.pointer (some ⟨g,0,none⟩)] w (Ret (.bool (nm' == nm)) w):=by
 have hb:Below w.heap.size w (w.alloc (.cells #[.string nm',.int .i64 pa,.int .i64 rg,.int .i64 pr,.bool cl,.slice ca code.length cc] 60)):=below_alloc _ _;have hc1:(w.alloc (.cells #[.string nm',.int .i64 pa,.int .i64 rg,.int .i64 pr,.bool cl,.slice ca code.length cc] 60)).cell? ⟨g,0,none⟩=some (.string nm):=(World.cell?_alloc_lt _ _ _ hg).trans hc;have hbt:=beq_toListBytes nm' nm;obtain ⟨q,hq⟩:∃ q,(nm' == nm)=q:=⟨_,rfl⟩
 rw [hq] at hbt ⊢;have hbt2:(nm'.toList == nm.toList)=q:=hbt.symm;clear hbt hq;go_enter Tryz.func109,Tryz.ntmps109;go_wp2_with fail;go_ret;exact ⟨rfl,hb⟩
theorem idxFn1 (A:Option Addr) (c:Nat) (l:List Fn) (nm:ByteArray) (g:Nat) (w:World) (h:RdL w w.heap.size 6 Fn.cells A l) (hm:l.length≤maxLen) (hg:g<w.heap.size) (hc:w.cell? ⟨g,0,none⟩=some (.string nm)) :
  Calls Tryz.prog 123 #[.slice A l.length c,.func (.func 109) #[] #[.pointer (some ⟨g,0,none⟩)]] w (RetIdx (l.any fun x=>x.name == nm) w):=by
 unfold maxLen at hm;go_enter Tryz.func123,Tryz.ntmps123;go_wp2_with fail;go_loopw [5,8] (fun _ i wr=>∃ k:Nat,i=.int .i64 k∧k≤l.length∧Hid ((l.take k).any (fun x=>x.name == nm)=false)∧Below w.heap.size w wr) (fun _ i _=>l.length - (intOf i).toNat)
 case atStart=>exact ⟨0,rfl,by omega,hid (by simp),Below.refl _ _⟩
 case round=>
  obtain ⟨k,rfl,hk,hnone,hb⟩:=hrel;by_cases hlt:k<l.length
  ·have hd1:=Dt (show (k:Int)<l.length by omega)
   have hd2:=Dt hlt;obtain ⟨b,off,rfl,hbb,hcl⟩:=RdL.at_ (Rd.below h hb) (fun _=>rfl) hlt;have hs:=any_take l hlt hnone.out;obtain ⟨x,hx⟩:∃ x,l[k]=x:=⟨_,rfl⟩
   rw [hx] at hcl hs;obtain ⟨nm',pa,rg,pr,cl,code,ca,cc⟩:=x;dsimp only at hs;have q0:=hcl 0 _ rfl;have q1:=hcl 1 _ rfl;have q2:=hcl 2 _ rfl;have q3:=hcl 3 _ rfl;have q4:=hcl 4 _ rfl;have q5:=hcl 5 _ rfl;rw [Nat.add_zero] at q0;have hwr1:=Wi k (by omega);have hcg:=(hb.cell (p:=⟨g,0,none⟩) hg).trans hc;have hgr:g<wr.heap.size:=by have:=hb.size; omega
   have HS:=hid hs;clear hs hx hcl hnone
   cases hq:(nm' == nm) with
   | true=>
    rw [hq] at HS;go_wp2_with fail;refine (cloFn1 nm' pa rg pr cl code ca cc nm g _ hgr hcg).mono ?_;rw [hq];rintro e w1 ⟨rfl,hb1⟩;go_wp2_with fail;go_ret;exact ⟨_,rfl,by rw [any_of_take' HS.out]; simp,hb.trans (hb1.mono hb.size)⟩
   | false=>
    rw [hq] at HS;go_wp2_with fail;refine (cloFn1 nm' pa rg pr cl code ca cc nm g _ hgr hcg).mono ?_;rw [hq];rintro e w1 ⟨rfl,hb1⟩;go_wp2_with fail;exact ⟨⟨k+1,by go_num,by omega,hid HS.out,hb.trans (hb1.mono hb.size)⟩,by simp [intOf]; omega⟩
  ·have hd1:=Df (show ¬ (k:Int)<l.length by omega)
   have hd2:=Df hlt;obtain rfl:k=l.length:=by omega
   have hr:(l.any fun x=>x.name == nm)=false:=by have:=hnone.out; rwa [List.take_length] at this
   have HR:=hid hr;clear hr;go_wp2_with fail;go_ret;exact ⟨_,rfl,by rw [HR.out]; rfl,hb⟩
theorem hasFn1 (A:Option Addr) (c:Nat) (l:List Fn) (nm:ByteArray) (g:Nat) (w:World) (h:RdL w w.heap.size 6 Fn.cells A l) (hm:l.length≤maxLen) (hg:g<w.heap.size) (hc:w.cell? ⟨g,0,none⟩=some (.string nm)) :
  Calls Tryz.prog 108 #[.slice A l.length c,.func (.func 109) #[] #[.pointer (some ⟨g,0,none⟩)]] w (Ret (.bool (l.any fun x=>x.name == nm)) w):=by
 go_enter Tryz.func108,Tryz.ntmps108;go_wp2_with fail;refine (idxFn1 A c l nm g _ h hm hg hc).mono ?_;rintro e w1 ⟨i,rfl,hi,hb1⟩;have HI:=hid hi;clear hi;go_wp2_with fail;go_ret;exact ⟨by rw [← HI.out]; rfl,hb1⟩
end
section
open Go.RowKit
def RetE (V:Prop) (w:World):Ending→World→Prop:=fun e w'=>∃ n:Int,e=.returned (.int .i64 n)∧(n=0↔V)∧Below w.heap.size w w'
theorem retE_no {V:Prop} {w w':World} {n:Int} (hn:n≠0) (h:¬ V) (hb:Below w.heap.size w w'):RetE V w (.returned (.int .i64 n)) w':=⟨n,rfl,⟨fun e=>absurd e hn,fun v=>absurd v h⟩,hb⟩
theorem retE_ok {V:Prop} {w w':World} (h:V) (hb:Below w.heap.size w w'):RetE V w (.returned (.int .i64 0)) w':=⟨0,rfl,⟨fun _=>h,fun _=>rfl⟩,hb⟩
def Bx (W:World) (g:Nat) (cs:List Value):Prop:=∀ j v,cs[j]? = some v→W.cell? ⟨g,j,none⟩=some v
theorem Bx.below {W W':World} {g B:Nat} {cs:List Value} (h:Bx W g cs) (hb:Below B W W') (hg:g<B):Bx W' g cs:=fun j v hv=>(hb.cell (p:=⟨g,j,none⟩) hg).trans (h j v hv)
theorem bx_new (W:World) (cs:Array Value) (t:Nat):Bx (W.alloc (.cells cs t)) W.heap.size cs.toList:=fun j v hv=>by
 rw [cell_of_row _ W.heap.size j cs t (0,0) (heap_alloc_new W _)]; simpa using hv
theorem Bx.alloc {W:World} {g:Nat} {cs:List Value} (h:Bx W g cs) (hg:g<W.heap.size) (o:Obj):Bx (W.alloc o) g cs:=fun j v hv=>(World.cell?_alloc_lt W o ⟨g,j,none⟩ hg).trans (h j v hv)

theorem flat_take {α:Type} {f:α→List Value} {s:Nat} (hs:∀ x,(f x).length=s):∀ (l:List α) (k:Nat),(l.flatMap f).take (k * s)=(l.take k).flatMap f
 | [],k=>by simp
 | x::r,0=>by simp
 | x::r,k+1=>by
  rw [List.flatMap_cons,List.take_succ_cons,List.flatMap_cons,Nat.add_mul,Nat.one_mul,Nat.add_comm (k * s) s,List.take_append,hs,show s+k * s - s=k * s from by omega,List.take_of_length_le (by rw [hs]; omega),flat_take hs r k]
theorem RdL.take {α:Type} {w:World} {B s:Nat} {f:α→List Value} {A:Option Addr} {l:List α} (h:RdL w B s f A l) (hs:∀ x,(f x).length=s) {k:Nat} (hk:k≤l.length):RdL w B s f A (l.take k):=by
 have h1:=Rd.take h hk;rw [flat_take hs l k] at h1;unfold RdL;rw [List.length_take,Nat.min_eq_left hk];exact h1
theorem names_iff {α:Type} {nmOf:α→ByteArray} (l:List α) (nm:ByteArray):(l.any fun x=>nmOf x == nm)=false↔∀ q∈l,nmOf q≠nm:=by
 rw [List.any_eq_false];constructor
 ·intro h q hq e
  exact h q hq (by rw [e,beq_toListBytes]; simp)
 ·intro h q hq e
  rw [beq_toListBytes] at e;have e2:=eq_of_beq e;rw [ByteArray.toList_eq,ByteArray.toList_eq] at e2;exact h q hq (ByteArray.ext (Array.toList_inj.1 e2))
theorem run_slice_to {P:Program} {t e:TypeId} {size:Nat} (ht:P.underlying t=some (.slice e)) (hs:∀ w,(sizeOf e).run P w=.ok size w) (A:Option Addr) {n cap h:Nat} (hh:h≤cap) (k:IntKind) (w:World) :
  (Instr.slice t (.slice A n cap) none (some (.int k (h:Int))) none).run P w=.ok (.slice A h cap) w:=by
 have hc:(Instr.sliceBound (.int k (h:Int)) cap .sliceAcap).run P w=.ok h w:=by
  rw [run_sliceBound w k (h:Int) cap .sliceAcap (by omega) (by omega)]; simp
 cases A <;> simp [Instr.slice,Instr.sliceBounds,Sem.run_bind,run_underlying ht,hc,hs,Result.andThen,Addr.add]
theorem RdL_next {α:Type} {w w':World} {s:Nat} {f:α→List Value} {A:Option Addr} {l:List α} (h:RdL w w.heap.size s f A l) (hb:Below w.heap.size w w'):RdL w' w'.heap.size s f A l:=Rd.more (Rd.below h hb) hb.size
structure Two (w W:World) (a b:List Value):Prop where
 fst:Bx W w.heap.size a
 snd:Bx W (w.heap.size+1) b
 below:Below w.heap.size w W
 size:w.heap.size+2≤W.heap.size
theorem Two.next {w W W':World} {a b:List Value} (h:Two w W a b) (hb:Below W.heap.size W W'):Two w W' a b:=
 ⟨h.fst.below hb (by have:=h.size; omega),h.snd.below hb (by have:=h.size; omega),h.below.trans (hb.mono h.below.size),by have:=h.size; have:=hb.size; omega⟩
theorem two_new (w:World) (a b:Array Value) (s t:Nat):Two w ((w.alloc (.cells a s)).alloc (.cells b t)) a.toList b.toList:=by
 refine ⟨(bx_new w a s).alloc (by simp) _,?_,(below_alloc _ _).trans (below_alloc2 (by simp) _),by simp⟩;have:=bx_new (w.alloc (.cells a s)) b t
 rwa [show (w.alloc (.cells a s)).heap.size=w.heap.size+1 from by simp] at this
theorem bx3 {W:World} {g:Nat} {a b c:Value} (h:Bx W g [a,b,c]):W.cell? ⟨g,0,none⟩=some a∧W.cell? ⟨g,1,none⟩=some b∧W.cell? ⟨g,2,none⟩=some c:=⟨h 0 _ rfl,h 1 _ rfl,h 2 _ rfl⟩
theorem bx4 {W:World} {g:Nat} {a b c d:Value} (h:Bx W g [a,b,c,d]):W.cell? ⟨g,0,none⟩=some a∧W.cell? ⟨g,1,none⟩=some b∧W.cell? ⟨g,2,none⟩=some c∧W.cell? ⟨g,3,none⟩=some d:=⟨h 0 _ rfl,h 1 _ rfl,h 2 _ rfl,h 3 _ rfl⟩

def obOk (p:Prg) (k:Nat) (o:Ob):Prop:=
 nameOk o.name.data.toList=true∧inR2 o.kind 1 9=true∧inR2 o.size (sizesF o.kind).1 (sizesF o.kind).2=true∧inR2 o.other (othersF p.obs.length o.kind).1 (othersF p.obs.length o.kind).2=true ∧
  (o.kind=3→∃ q,p.obs[o.other.toNat]? = some q∧q.kind=1)∧∀ q∈p.obs.take k,q.name≠o.name

theorem chkOb_any (p:Prg) (k:Nat) (hk:k<p.obs.length) (w:World) (h:Lies w w.heap.size p):Calls Tryz.prog 81 #[p.val,.int .i64 k] w (RetE (obOk p k p.obs[k]) w):=by
 have hn:=h.obN;unfold maxLen at hn;obtain ⟨b,off,hA,hb,c0,c1,c2,c3⟩:=h.ob hk;have hnm:=h.obNm p.obs[k] (List.getElem_mem _);obtain ⟨o,ho⟩:∃ o,p.obs[k]=o:=⟨_,rfl⟩
 rw [ho] at c0 c1 c2 c3 hnm ⊢;obtain ⟨nm,kd,sz,ot⟩:=o;dsimp only at c0 c1 c2 c3 hnm;obtain ⟨V,hV⟩:∃ V,V=obOk p k ⟨nm,kd,sz,ot⟩:=⟨_,rfl⟩
 rw [← hV];have HV:=hid (show V↔obOk p k ⟨nm,kd,sz,ot⟩ from by rw [hV]);clear hV;have hk0:=zi k;have hk1:(k:Int)<(p.obs.length:Int):=by omega
 have hval:p.val=.agg #[.slice p.funA p.funs.length p.funC,.slice (some ⟨b,off,none⟩) p.obs.length p.obC,.slice p.vrA p.vrs.length p.vrC]:=by rw [Prg.val,hA]
 rw [hval];have hoth:=fun w=>others_any p kd h.obN w
 rw [hval] at hoth;have hT:=two_new w #[.slice p.funA p.funs.length p.funC,.slice (some ⟨b,off,none⟩) p.obs.length p.obC,.slice p.vrA p.vrs.length p.vrC] #[.string nm,.int .i64 kd,.int .i64 sz,.int .i64 ot] 26 65;have HO:=hid hoth;clear hoth;have hsl:=fun w=>run_slice_to (P:=Tryz.prog) (size:=4) Tryz.underlying23 (fun w=>by kernel_rfl) (some ⟨b,off,none⟩) (n:=p.obs.length) (cap:=p.obC) (h:=k) (by have:=h.caps.2.1; omega) .i64 w
 go_enter Tryz.func81,Tryz.ntmps81;go_wp2_with fail;generalize World.alloc (World.alloc w _) _=W1 at hT ⊢;refine (sizes_any kd _).mono ?_;rintro e W2 ⟨rfl,hb2⟩;have hT2:=hT.next hb2;obtain ⟨x20,x21,x22⟩:=bx3 hT2.fst;obtain ⟨y20,y21,y22,y23⟩:=bx4 hT2.snd;obtain ⟨⟨s0,s1⟩,hsz⟩:∃ s,sizesF kd=s:=⟨_,rfl⟩
 obtain ⟨⟨r0,r1⟩,hot⟩:∃ s,othersF p.obs.length kd=s:=⟨_,rfl⟩
 rw [hsz];rw [hot] at HO;have HV2:=hid (show V↔nameOk nm.data.toList=true∧inR2 kd 1 9=true∧inR2 sz s0 s1=true∧inR2 ot r0 r1=true∧(kd=3→∃ q,p.obs[ot.toNat]? = some q∧q.kind=1)∧∀ q∈p.obs.take k,q.name≠nm from by rw [HV.out,obOk,hsz,hot]);clear hsz HV;go_wp2_with fail;refine (HO.out _).mono ?_;rintro e W3 ⟨rfl,hb3⟩;have hT3:=hT2.next hb3;obtain ⟨x30,x31,x32⟩:=bx3 hT3.fst;obtain ⟨y30,y31,y32,y33⟩:=bx4 hT3.snd;clear x20 x21 x22 y20 y21 y22 y23 HO;go_wp2_with fail;refine (isName_any nm hnm _).mono ?_
 cases hq1:nameOk nm.data.toList with
 | false=>
  rintro e W4 ⟨rfl,hb4⟩;have hT4:=hT3.next hb4;have hno:¬ V:=fun v=>by rw [HV2.out,hq1] at v; exact absurd v.1 (by decide)
  clear HV2 hq1;go_wp2_with fail;go_ret;exact retE_no (by decide) hno hT4.below
 | true=>
  rintro e W4 ⟨rfl,hb4⟩;have hT4:=hT3.next hb4;obtain ⟨x40,x41,x42⟩:=bx3 hT4.fst;obtain ⟨y40,y41,y42,y43⟩:=bx4 hT4.snd;have HQ1:=hid hq1;clear hq1 x30 x31 x32 y30 y31 y32 y33;go_wp2_with fail;refine (within_any _ _ _ _).mono ?_
  cases hq2:inR2 kd 1 9 with
  | false=>
   rintro e W5 ⟨rfl,hb5⟩;have hT5:=hT4.next hb5;have hno:¬ V:=fun v=>by rw [HV2.out,hq2] at v; exact absurd v.2.1 (by decide)
   clear HV2 hq2;go_wp2_with fail;go_ret;exact retE_no (by decide) hno hT5.below
  | true=>
   rintro e W5 ⟨rfl,hb5⟩;have hT5:=hT4.next hb5;obtain ⟨x50,x51,x52⟩:=bx3 hT5.fst;obtain ⟨y50,y51,y52,y53⟩:=bx4 hT5.snd;have HQ2:=hid hq2;clear hq2 x40 x41 x42 y40 y41 y42 y43;go_wp2_with fail;refine (within_any _ _ _ _).mono ?_
   cases hq3:inR2 sz s0 s1 with
   | false=>
    rintro e W6 ⟨rfl,hb6⟩;have hT6:=hT5.next hb6;have hno:¬ V:=fun v=>by rw [HV2.out,hq3] at v; exact absurd v.2.2.1 (by decide)
    clear HV2 hq3;go_wp2_with fail;go_ret;exact retE_no (by decide) hno hT6.below
   | true=>
    rintro e W6 ⟨rfl,hb6⟩;have hT6:=hT5.next hb6;obtain ⟨x60,x61,x62⟩:=bx3 hT6.fst;obtain ⟨y60,y61,y62,y63⟩:=bx4 hT6.snd;have HQ3:=hid hq3;clear hq3 x50 x51 x52 y50 y51 y52 y53;go_wp2_with fail;refine (within_any _ _ _ _).mono ?_
    cases hq4:inR2 ot r0 r1 with
    | false=>
     rintro e W7 ⟨rfl,hb7⟩;have hT7:=hT6.next hb7;have hno:¬ V:=fun v=>by rw [HV2.out,hq4] at v; exact absurd v.2.2.2.1 (by decide)
     clear HV2 hq4;go_wp2_with fail;go_ret;exact retE_no (by decide) hno hT7.below
    | true=>
     rintro e W7 ⟨rfl,hb7⟩;have hT7:=hT6.next hb7;obtain ⟨x70,x71,x72⟩:=bx3 hT7.fst;obtain ⟨y70,y71,y72,y73⟩:=bx4 hT7.snd;clear x60 x61 x62 y60 y61 y62 y63;by_cases hk3:kd=3
     ·subst hk3
      have hrng:0≤ot∧ot≤(p.obs.length:Int) - 1:=by
       have h9:(r0,r1)=((0:Int),(p.obs.length:Int) - 1):=by rw [← hot,othersF,if_pos rfl]
       injection h9 with h10 h11;subst h10; subst h11;unfold inR2 at hq4;simpa using hq4
      obtain ⟨u,hu⟩:∃ u:Nat,ot=(u:Int):=⟨ot.toNat,by omega⟩
      subst hu;have hul:u<p.obs.length:=by omega
      obtain ⟨b',off',hA',hb',d0,d1,d2,d3⟩:=h.ob hul;obtain ⟨rfl,rfl⟩:b'=b∧off'=off:=by rw [hA] at hA'; injection hA' with e; injection e with e1 e2; exact ⟨e1.symm,e2.symm⟩
      have d1':=(hT7.below.cell (p:=⟨b',off'+u * 4+1,none⟩) hb').trans d1;clear d0 d1 d2 d3 hA';have hul2:(u:Int)<(p.obs.length:Int):=by omega
      by_cases hm1:p.obs[u].kind=1
      ·have e1:(p.obs[u].kind != 1)=false:=by simpa using hm1
       have hlk:(p.obs.take k).length=k:=by rw [List.length_take]; omega
       have hcall:=hasOb1 (some ⟨b',off',none⟩) p.obC (p.obs.take k) nm (w.heap.size+1) W7 (by have h9:=RdL.take (RdL_next h.obs hT7.below) (fun _=>rfl) (k:=k) (by omega); rw [hA] at h9; exact h9) (by rw [hlk]; unfold maxLen; omega) (by have:=hT7.size; omega) y70;rw [hlk] at hcall;have HC:=hid hcall;clear hcall hlk;go_wp2_with fail;refine (HC.out).mono ?_
       cases hq5:(p.obs.take k).any (fun x=>x.name == nm) with
       | true=>
        rintro e W8 ⟨rfl,hb8⟩;have hT8:=hT7.next hb8
        have hno:¬ V:=fun v=>by
         rw [HV2.out] at v;rw [(names_iff (nmOf:=Ob.name) _ _).2 v.2.2.2.2.2] at hq5;cases hq5
        clear HV2 hq5;go_wp2_with fail;go_ret;exact retE_no (by decide) hno hT8.below
       | false=>
        rintro e W8 ⟨rfl,hb8⟩;have hT8:=hT7.next hb8
        have hyes:V:=by
         rw [HV2.out];exact ⟨HQ1.out,HQ2.out,HQ3.out,hq4,fun _=>⟨p.obs[u],by rw [show ((u:Nat):Int).toNat=u from by simp]; exact List.getElem?_eq_getElem hul,hm1⟩,(names_iff (nmOf:=Ob.name) _ _).1 hq5⟩
        clear HV2 hq5;go_wp2_with fail;go_ret;exact retE_ok hyes hT8.below
      ·have e1:(p.obs[u].kind != 1)=true:=by simpa using hm1
       have hno:¬ V:=fun v=>by
        rw [HV2.out] at v;obtain ⟨q,hq,hq1⟩:=v.2.2.2.2.1 rfl;rw [show ((u:Nat):Int).toNat=u from by simp,List.getElem?_eq_getElem hul] at hq;injection hq with hq;exact hm1 (by rw [hq]; exact hq1)
       clear HV2;go_wp2_with fail;go_ret;exact retE_no (by decide) hno hT7.below
     ·have e1:(kd == 3)=false:=by simpa using hk3
      have hlk:(p.obs.take k).length=k:=by rw [List.length_take]; omega
      have hcall:=hasOb1 (some ⟨b,off,none⟩) p.obC (p.obs.take k) nm (w.heap.size+1) W7 (by have h9:=RdL.take (RdL_next h.obs hT7.below) (fun _=>rfl) (k:=k) (by omega); rw [hA] at h9; exact h9) (by rw [hlk]; unfold maxLen; omega) (by have:=hT7.size; omega) y70;rw [hlk] at hcall;have HC:=hid hcall;clear hcall hlk;go_wp2_with fail;refine (HC.out).mono ?_
      cases hq5:(p.obs.take k).any (fun x=>x.name == nm) with
      | true=>
       rintro e W8 ⟨rfl,hb8⟩;have hT8:=hT7.next hb8
       have hno:¬ V:=fun v=>by
        rw [HV2.out] at v;rw [(names_iff (nmOf:=Ob.name) _ _).2 v.2.2.2.2.2] at hq5;cases hq5
       clear HV2 hq5;go_wp2_with fail;go_ret;exact retE_no (by decide) hno hT8.below
      | false=>
       rintro e W8 ⟨rfl,hb8⟩;have hT8:=hT7.next hb8
       have hyes:V:=by
        rw [HV2.out];exact ⟨HQ1.out,HQ2.out,HQ3.out,hq4,fun e=>absurd e hk3,(names_iff (nmOf:=Ob.name) _ _).1 hq5⟩
       clear HV2 hq5;go_wp2_with fail;go_ret;exact retE_ok hyes hT8.below
end
end Go.Proofs.YtkpjdanfpolimaaGreat
