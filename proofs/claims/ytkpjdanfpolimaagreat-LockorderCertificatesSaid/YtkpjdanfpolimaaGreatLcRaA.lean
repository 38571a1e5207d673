/- The reference's analyze, walked from a contract of start. Conditions: the program is valid · Rows that lie in blocks of their own beside a header, as the reference's start builds them · The reference's start: what three appends in a row hav -/
import Derived.Test.YtkpjdanfpolimaaGreatLcRa8
import Derived.Deep.LoopGhost
import Derived.Test.YtkpjdanfpolimaaGreatLcRaW
import Derived.Test.YtkpjdanfpolimaaGreatLcBeg
import Derived.Laws.OwnMore
import Derived.Maps.AppendAt
import Derived.Test.YtkpjdanfpolimaaGreatLcBase
import Derived.Deep.RegionHeld
import Derived.Test.YtkpjdanfpolimaaGreatLcLoC
set_option maxRecDepth 100000
set_option maxHeartbeats 12800000
namespace Go.Proofs.YtkpjdanfpolimaaGreat
section
open Go.RowKit Go.Shelf
def RBegun (p:Prg) (w:World):Ending→World→Prop:=fun e W=>∃ L:RLay,e=.returned (.pointer (some ⟨L.A,0,none⟩))∧RMem p L W ((startM p).grow (.ent 0) 0)∧w.heap.size≤L.lo∧Below w.heap.size w W
def RAnalyzed (p:Prg) (w:World):Ending→World→Prop:=fun e W=>∃ L:RLay,e=.returned (.pointer (some ⟨L.A,0,none⟩))∧RMem p L W (analysisR p)∧w.heap.size≤L.lo∧Below w.heap.size w W
def S.rcodeTo (p:Prg) (s:S) (f j:Nat):S:=(List.range j).foldl (fun s k=>if (s.get (.at_ f k)).1 then s.rinstr p f k else s) s
theorem S.rcodeTo_succ (p:Prg) (s:S) (f j:Nat):s.rcodeTo p f (j+1)=if ((s.rcodeTo p f j).get (.at_ f j)).1 then (s.rcodeTo p f j).rinstr p f j else s.rcodeTo p f j:=by
 unfold S.rcodeTo; rw [List.range_succ,List.foldl_append]; rfl
def S.rroundTo (p:Prg) (s:S) (j:Nat):S:=(List.range j).foldl (S.rroundF p) s
theorem S.rroundTo_succ (p:Prg) (s:S) (j:Nat):s.rroundTo p (j+1)=(s.rroundTo p j).rroundF p j:=by
 unfold S.rroundTo; rw [List.range_succ,List.foldl_append]; rfl
theorem ranalyze_of (p:Prg) (hv:prgOk p) (hst:∀ W,Lies W W.heap.size p→Calls Tryz.prog 71 #[p.val] W (RBegun p W)) (w:World) (h:Lies w w.heap.size p) :
  Calls Tryz.prog 49 #[p.val] w (RAnalyzed p w):=by
 have hW:=wf_of hv;have HST:=hid (fun (W:World) (hb:Below w.heap.size w W)=>hst W (h.next hb));obtain ⟨b,off,hA,hb,-,-⟩:=h.codeAt hW.funs.1;have hval:p.val=.agg #[.slice (some ⟨b,off,none⟩) p.funs.length p.funC,.slice p.obA p.obs.length p.obC,.slice p.vrA p.vrs.length p.vrC]:=by rw [Prg.val,hA]
 rw [hval] at HST ⊢;have HIA:Hid (∀ (L:RLay) (W:World) (s:S) (_:RMem p L W s) (f k:Nat) (_:f<p.funs.length) (_:k<p.len f) (_:(s.get (.at_ f k)).1=true),Calls Tryz.prog 73 #[.pointer (some ⟨L.A,0,none⟩),.int .i64 f,.int .i64 k] W (RLeft p L W (s.rinstr p f k) (.tuple #[]))):=hid (fun L W s hm f k hf hk hkn=>rinstr_any p hv L s f k hf hk hkn W hm);have hfn:=hW.funs;have HWF:=hid hW;clear h hst hval;go_enter Tryz.func49,Tryz.ntmps49;go_upto_region 1 with fail;have hT:=one_new w #[.slice (some ⟨b,off,none⟩) p.funs.length p.funC,.slice p.obA p.obs.length p.obC,.slice p.vrA p.vrs.length p.vrC] 26;have hz1:w.heap.size+1≤(w.alloc (.cells #[.slice (some ⟨b,off,none⟩) p.funs.length p.funC,.slice p.obA p.obs.length p.obC,.slice p.vrA p.vrs.length p.vrC] 26)).heap.size:=by simp
 generalize World.alloc w _=W1 at hT hz1 ⊢;obtain ⟨x0,x1,x2⟩:=bx3 hT.fst;have HS1:=hid (HST.out W1 hT.below);clear HST;go_wp2_with fail;refine HS1.out.mono ?_;rintro e W2 ⟨L,rfl,hm,hlo,hb12⟩;have hT2:=hT.next hb12;have hlo1:w.heap.size+1≤L.lo:=Nat.le_trans hz1 hlo;have hh2:=hm.hi;have HA:=hid hA;have HOK:=hid hm.ok;have HPB:Hid (∀ W,Turn L.lo L.hi W2 W→Bx W w.heap.size [.slice (some ⟨b,off,none⟩) p.funs.length p.funC,.slice p.obA p.obs.length p.obC,.slice p.vrA p.vrs.length p.vrC]):=hid (fun W ht j v hv=>ht.cell (hT2.fst j v hv) (.inl (by show w.heap.size<L.lo; omega)));have HBW:Hid (∀ W,Turn L.lo L.hi W2 W→Below w.heap.size w W):=hid (fun W ht=>hT2.below.trans ((ht.below (Nat.le_trans hh2.1 hh2.2)).mono (by omega)));clear x0 x1 x2 hT hT2 HS1 hz1 hb12 hA;go_upto_region 2 with fail
 go_loopg [] p.fuel (fun g wr=>∃ cur:S,GoingR p g cur∧RMem p L wr cur∧Turn L.lo L.hi W2 wr)
 case atStart=>exact ⟨_,GoingR.start hW,hm,Turn.refl _ _ _⟩
 case round=>
  clear hm;obtain ⟨cur,hG,hm,ht⟩:=hrel;have c8:=hm.c8
  cases hch:cur.ch with
  | false=>
   rw [hch] at c8;have HD:=hid (hG.done hch);clear hch;go_wp2_with fail;go_ret;exact ⟨L,rfl,by rw [← HD.out]; exact hm,by omega,HBW.out _ ht⟩
  | true=>
   obtain ⟨g',hg',hGo⟩:=hG.next hW hch;have HGO:=hid hGo;rw [hch] at c8;have hfz:=hm.hdF 8;clear hch hG hGo;go_upto_region 4 with fail;have hm6:=hm.flag false;have ht6:=ht.setCell (a:=⟨L.A,8,none⟩) (HOK.out.rng L.A (by simp)) (.bool false);generalize World.setCell wr _ _=w6 at hm6 ht6 ⊢;clear c8 hfz hm ht;go_upto_region 5 with fail;go_loopw [4] (fun i wr=>∃ j:Nat,i=.int .i64 j∧j≤p.funs.length∧RMem p L wr (S.rroundTo p { cur with ch:=false } j)∧Turn L.lo L.hi W2 wr) (fun i _=>p.funs.length - (intOf i).toNat)
   case atStart=>exact ⟨0,rfl,by omega,hm6,ht6⟩
   case round=>
    clear hm6 ht6;obtain ⟨f,rfl,hf,hm,ht⟩:=hrel;have hf0:=zi f;have hwr1:=Wi f (by omega);obtain ⟨x0,x1,x2⟩:=bx3 (HPB.out _ ht);have HSU:=hid (S.rroundTo_succ p { cur with ch:=false } f);by_cases hlt:f<p.funs.length
    ·have hd1:=Dt (show (f:Int)<p.funs.length by omega)
     have hd2:=Dt hlt;have hfl:(f:Int)<(p.funs.length:Int):=by omega
     generalize S.rroundTo p { cur with ch:=false } f=sf at hm HSU;have hlen:=HWF.out.len f hlt;have c4:=hm.c4;have ce:=(hm.slot (.ent f) hlt).1;replace ce:wr.cell? ⟨L.E,f,none⟩=_:=ce
     cases hen:(sf.get (.ent f)).1 with
     | false=>
      have hrv:rv (sf.get (.ent f)) = -1:=by unfold rv; rw [hen]; rfl
      rw [hrv] at ce;have HE:=hid (show S.rroundTo p { cur with ch:=false } (f+1)=sf from by rw [HSU.out]; unfold S.rroundF; rw [hen]; rfl);clear hrv hen;go_wp2_with fail;go_round
      case rel=>exact ⟨f+1,rfl,by omega,by rw [HE.out]; exact hm,ht⟩
      case measure=>exact ms (by omega)
     | true=>
      have hrv:rv (sf.get (.ent f))=((sf.get (.ent f)).2.toNat:Int):=by unfold rv; rw [hen]; rfl
      rw [hrv] at ce;have hx0:=Df (show ¬ (((sf.get (.ent f)).2.toNat:Int)<0) by omega);have HE:=hid (show S.rroundTo p { cur with ch:=false } (f+1)=(sf.rhead p f).rcodeTo p f (p.len f) from by rw [HSU.out]; unfold S.rroundF; rw [hen]; rfl);have c3:=hm.c3;have ob:=hm.outB f hlt;clear hrv hen HSU;by_cases hl0:p.len f=0
      ·have HH:=hid (show (sf.rhead p f).rcodeTo p f (p.len f)=sf.grow (.fin f) (sf.get (.ent f)).2 from by rw [hl0]; show sf.rhead p f=_; unfold S.rhead; rw [if_pos hl0])
       have c5:=hm.c5;have g0:((p.len f:Int) == 0)=true:=by simp [hl0]
       have hdl:=Df (show ¬ (0:Int)<p.len f by omega);go_upto_region 9 with fail;go_still_tail 14,(by kernel_rfl)
       change wpList _ _ _ _ _ wr.drew;have hmd:RMem p L wr.drew sf:=hm.drewN 1;have htd:Turn L.lo L.hi W2 wr.drew:=ht.drewN 1;generalize wr.drew=wd at hmd htd ⊢;go_wp2_with fail;refine (radd_any p L wd sf hmd (.fin f) hlt (sf.get (.ent f)).2).mono ?_;rintro e W6 ⟨rfl,hm6,ht6⟩;have ht7:=htd.trans ht6;clear c3 c4 c5 ob ce hm ht hmd htd ht6;have c3:=hm6.c3;have ob:=hm6.outB f hlt;go_upto_region 12 with fail;go_loopw [5] (fun v wr=>v=.int .i64 0∧wr=W6) (fun _ _=>0)
       case atStart=>exact ⟨rfl,rfl⟩
       case round=>
        obtain ⟨rfl,rfl⟩:=hrel;go_wp2_with fail;go_round
        case rel=>exact ⟨f+1,rfl,by omega,by rw [HE.out,HH.out]; exact hm6,ht7⟩
        case measure=>exact ms (by omega)
      ·have HH:=hid (show sf.rhead p f=sf.grow (.at_ f 0) (sf.get (.ent f)).2 from by unfold S.rhead; rw [if_neg hl0])
       have g0:((p.len f:Int) == 0)=false:=by simp [hl0]
       have hl1:(0:Int)<(p.len f:Int):=by omega
       have hl2:0<p.len f:=by omega
       have hin:(Slot.at_ f 0).In p:=⟨hlt,by omega⟩
       go_upto_region 10 with fail;go_still_tail 16,(by kernel_rfl)
       change wpList _ _ _ _ _ wr.drew;have hmd:RMem p L wr.drew sf:=hm.drewN 1;have htd:Turn L.lo L.hi W2 wr.drew:=ht.drewN 1;generalize wr.drew=wd at hmd htd ⊢;go_wp2_with fail;refine (radd_any p L wd sf hmd (.at_ f 0) hin (sf.get (.ent f)).2).mono ?_;rintro e W6 ⟨rfl,hm6,ht6⟩;have ht7:=htd.trans ht6;rw [← HH.out] at hm6;clear c3 c4 ob ce hm ht hmd htd ht6;go_upto_region 12 with fail;have HC0:Hid (∀ s:S,s.rcodeTo p f 0=s):=hid (fun _=>rfl);have HCS:Hid (∀ (s:S) k,_):=hid (fun (s:S) k=>s.rcodeTo_succ p f k);go_loopw [5] (fun i wr=>∃ k:Nat,i=.int .i64 k∧k≤p.len f∧RMem p L wr ((sf.rhead p f).rcodeTo p f k)∧Turn L.lo L.hi W2 wr) (fun i _=>p.len f - (intOf i).toNat)
       case atStart=>exact ⟨0,rfl,by omega,hm6,ht7⟩
       case round=>
        clear hm6 ht7;obtain ⟨k,rfl,hk,hm,ht⟩:=hrel;have hk0:=zi k;have hwr2:=Wi k (by omega);have c3:=hm.c3;have ob:=hm.outB f hlt;by_cases hltk:k<p.len f
        ·have hd3:=Dt (show (k:Int)<p.len f by omega)
         have hd4:=Dt hltk;have hkl:(k:Int)<(p.len f:Int):=by omega
         have cs:=(hm.slot (.at_ f k) ⟨hlt,hltk⟩).1;replace cs:wr.cell? ⟨L.bb f,k,none⟩=_:=cs;have HC9:=hid (HCS.out (sf.rhead p f) k);generalize hsk:(sf.rhead p f).rcodeTo p f k=sk at hm cs HC9;clear hsk
         cases hg:(sk.get (.at_ f k)).1 with
         | false=>
          have hrv:rv (sk.get (.at_ f k)) = -1:=by unfold rv; rw [hg]; rfl
          rw [hrv] at cs;have HE9:=hid (show (sf.rhead p f).rcodeTo p f (k+1)=sk from by rw [HC9.out,hg]; rfl);clear hrv hg;go_wp2_with fail;go_round
          case rel=>exact ⟨k+1,rfl,by omega,by rw [HE9.out]; exact hm,ht⟩
          case measure=>exact ms (by omega)
         | true=>
          have hrv:rv (sk.get (.at_ f k))=((sk.get (.at_ f k)).2.toNat:Int):=by unfold rv; rw [hg]; rfl
          rw [hrv] at cs;have hx9:=Dt (show (0:Int)≤((sk.get (.at_ f k)).2.toNat:Int) by omega);have HE9:=hid (show (sf.rhead p f).rcodeTo p f (k+1)=sk.rinstr p f k from by rw [HC9.out,hg]; rfl);have HI9:=hid (HIA.out L wr sk hm f k hlt hltk hg);clear hrv hg;go_wp2_with fail;refine HI9.out.mono ?_;rintro e wi ⟨rfl,hmi,hti⟩;have hti:=ht.trans hti;clear c3 cs ob hm ht HI9;go_wp2_with fail;go_round
          case rel=>exact ⟨k+1,rfl,by omega,by rw [HE9.out]; exact hmi,hti⟩
          case measure=>exact ms (by omega)
        ·have hd3:=Df (show ¬ (k:Int)<p.len f by omega)
         have hd4:=Df hltk;have hke:k=p.len f:=by omega
         have HKE:=hid hke;clear hke;go_wp2_with fail;go_round
         case rel=>exact ⟨f+1,rfl,by omega,by rw [HE.out,← HKE.out]; exact hm,ht⟩
         case measure=>exact ms (by omega)
    ·have hd1:=Df (show ¬ (f:Int)<p.funs.length by omega)
     have hd2:=Df hlt;have hfe:f=p.funs.length:=by omega
     have HFE:=hid hfe;clear hfe;go_wp2_with fail;go_roundg g'
     case measure=>omega
     case rel=>exact ⟨_,HGO.out,by rw [HFE.out] at hm; exact hm,ht⟩
end
section
open Go.RowKit Go.Shelf
abbrev RowD:=Value × Nat × List Value
def upd (R:Nat→Option RowD) (t:Nat) (r:Option RowD):Nat→Option RowD:=fun u=>if u=t then r else R u
theorem upd_same (R:Nat→Option RowD) (t:Nat) (r:Option RowD):upd R t r t=r:=by simp [upd]
theorem upd_ne (R:Nat→Option RowD) {t u:Nat} (r:Option RowD) (h:u≠t):upd R t r u=R u:=by simp [upd,h]
structure Rows (lo A:Nat) (W:World) (R:Nat→Option RowD):Prop where
 own:∀ t r,R t=some r→W.ownsRow lo r.2.1 1 r.1 r.2.2.length r.2.2
 far:∀ t r t' r',R t=some r→R t'=some r'→t≠t'→∀ g,r.1.ownBlock=some g→r'.1.ownBlock≠some g
 hdr:∀ t r,R t=some r→r.1.ownBlock≠some A
theorem ne_none_or {v:Value} {row:Option Nat} (h:∀ g,row=some g→v.ownBlock≠some g):v.ownBlock=none∨v.ownBlock≠row:=by
 cases e:v.ownBlock with
 | none=>exact .inl rfl
 | some g=>exact .inr (fun z=>h g z.symm e)
theorem Rows.kept {lo A:Nat} {W W':World} {R:Nat→Option RowD} (h:Rows lo A W R) {row:Option Nat} (hg:W.grownBy W' row) (hr:∀ t r,R t=some r→∀ g,row=some g→r.1.ownBlock≠some g):Rows lo A W' R:=
 ⟨fun t r e=>(h.own t r e).kept hg (ne_none_or (hr t r e)),h.far,h.hdr⟩
theorem Rows.below {lo A:Nat} {W W':World} {R:Nat→Option RowD} (h:Rows lo A W R) (hb:Below W.heap.size W W'):Rows lo A W' R:=
 h.kept (row:=none) ⟨hb.os,hb.tape,hb.output,hb.size,fun k hk _=>hb.block k hk⟩ (fun _ _ _ _ e=>by cases e)
theorem Rows.stored {lo A:Nat} {W:World} {R:Nat→Option RowD} (h:Rows lo A W R) (k:Nat) (v:Value):Rows lo A (W.setCell ⟨A,k,none⟩ v) R:=
 h.kept (row:=some A) ⟨rfl,rfl,rfl,by simp,fun b _ hb=>heap_setCell_other _ _ _ _ (fun e=>hb (by rw [e]))⟩ (fun t r e g eg=>by injection eg with eg; subst eg; exact h.hdr t r e)
theorem Rows.lt {lo A:Nat} {W:World} {R:Nat→Option RowD} (h:Rows lo A W R) {t:Nat} {r:RowD} (e:R t=some r) {g:Nat} (eg:r.1.ownBlock=some g):lo≤g∧g<W.heap.size:=World.ownsRow.lt (h.own t r e) g eg
theorem Rows.drop {lo A:Nat} {W:World} {R:Nat→Option RowD} (h:Rows lo A W R) (t:Nat):Rows lo A W (upd R t none):=by
 have key:∀ u r,upd R t none u=some r→R u=some r:=fun u r e=>by
  unfold upd at e;split at e
  ·cases e
  ·exact e
 exact ⟨fun u r e=>h.own u r (key u r e),fun u r u' r' e e'=>h.far u r u' r' (key u r e) (key u' r' e'),fun u r e=>h.hdr u r (key u r e)⟩
theorem Rows.lit {lo A:Nat} {W:World} {R:Nat→Option RowD} (h:Rows lo A W R) (t e:Nat) (cs:Array Value) (hA:A<W.heap.size) (hlo:lo≤W.heap.size) (hm:cs.size≤maxLen) :
  Rows lo A (W.alloc (.cells cs e)) (upd R t (some (.slice (some ⟨W.heap.size,0,none⟩) cs.size cs.size,e,cs.toList))):=by
 have key:∀ u r,upd R t (some (.slice (some ⟨W.heap.size,0,none⟩) cs.size cs.size,e,cs.toList)) u=some r→(u=t∧r=(.slice (some ⟨W.heap.size,0,none⟩) cs.size cs.size,e,cs.toList))∨(u≠t∧R u=some r):=fun u r hu=>by
  unfold upd at hu;split at hu
  ·rename_i eu; injection hu with hu; exact .inl ⟨eu,hu.symm⟩
  ·rename_i eu; exact .inr ⟨eu,hu⟩
 refine ⟨fun u r hu=>?_,fun u r u' r' hu hu' hne g hg=>?_,fun u r hu=>?_⟩
 ·rcases key u r hu with ⟨-,rfl⟩ | ⟨-,hr⟩
  ·have:=World.ownsRow_lit (base:=lo) (e:=e) (size:=1) W cs cs.size hlo hm (by simp)
   simpa using this
  ·exact World.ownsRow.alloc (h.own u r hr) _
 ·rcases key u r hu with ⟨rfl,rfl⟩ | ⟨h1,hr⟩
  ·rcases key u' r' hu' with ⟨rfl,rfl⟩ | ⟨h2,hr'⟩
   ·exact absurd rfl hne
   ·intro e2
    have e1:W.heap.size=g:=by injection hg
    have:=(h.lt hr' e2).2;omega
  ·rcases key u' r' hu' with ⟨rfl,rfl⟩ | ⟨h2,hr'⟩
   ·intro e2
    have e1:W.heap.size=g:=by injection e2
    have:=(h.lt hr hg).2;omega
   ·exact h.far u r u' r' hr hr' hne g hg
 ·rcases key u r hu with ⟨-,rfl⟩ | ⟨-,hr⟩
  ·intro e2
   have e1:W.heap.size=A:=by injection e2
   omega
  ·exact h.hdr u r hr
theorem Rows.app {lo A:Nat} {W W':World} {R:Nat→Option RowD} (h:Rows lo A W R) {t e:Nat} {v v':Value} {xs xs':List Value} (ht:R t=some (v,e,xs)) (hg:W.grownBy W' v.ownBlock) (ho:W'.ownsRow lo e 1 v' xs'.length xs') (hb:v'.ownBlock=v.ownBlock∨v'.ownBlock=some W.heap.size) (hA:A<W.heap.size) :
  Rows lo A W' (upd R t (some (v',e,xs'))):=by
 have key:∀ u r,upd R t (some (v',e,xs')) u=some r→(u=t∧r=(v',e,xs'))∨(u≠t∧R u=some r):=fun u r hu=>by
  unfold upd at hu;split at hu
  ·rename_i eu; injection hu with hu; exact .inl ⟨eu,hu.symm⟩
  ·rename_i eu; exact .inr ⟨eu,hu⟩
 have hnew:∀ u r,u≠t→R u=some r→∀ g,r.1.ownBlock=some g→v'.ownBlock≠some g:=fun u r hu hr g hg2 e2=>by
  rcases hb with e3 | e3
  ·exact h.far u r t _ hr ht hu g hg2 (by rw [← e3]; exact e2)
  ·rw [e3] at e2; injection e2 with e2; have:=(h.lt hr hg2).2; omega
 refine ⟨fun u r hu=>?_,fun u r u' r' hu hu' hne g hg2=>?_,fun u r hu=>?_⟩
 ·rcases key u r hu with ⟨-,rfl⟩ | ⟨hne,hr⟩
  ·exact ho
  ·exact (h.own u r hr).kept hg (ne_none_or (fun g hv=>h.far t _ u r ht hr (fun z=>hne z.symm) g hv))
 ·rcases key u r hu with ⟨rfl,rfl⟩ | ⟨h1,hr⟩
  ·rcases key u' r' hu' with ⟨rfl,rfl⟩ | ⟨h2,hr'⟩
   ·exact absurd rfl hne
   ·exact fun e2=>hnew u' r' h2 hr' g e2 hg2
  ·rcases key u' r' hu' with ⟨rfl,rfl⟩ | ⟨h2,hr'⟩
   ·exact hnew u r h1 hr g hg2
   ·exact h.far u r u' r' hr hr' hne g hg2
 ·rcases key u r hu with ⟨-,rfl⟩ | ⟨-,hr⟩
  ·intro e2
   rcases hb with e3 | e3
   ·exact h.hdr t _ ht (by rw [← e3]; exact e2)
   ·have e2:v'.ownBlock=some A:=e2
    rw [e3] at e2; injection e2 with e2; omega
  ·exact h.hdr u r hr
end
section
open Go.RowKit Go.Shelf
def sCells (p:Prg) (vB vE vF:Value) (al cl:BS):Array Value:=
 #[.slice p.funA p.funs.length p.funC,.slice p.obA p.obs.length p.obC,.slice p.vrA p.vrs.length p.vrC,vB,vE,vF,.int .i64 (al.toNat:Int),.int .i64 (cl.toNat:Int),.bool false]
structure StM (p:Prg) (w:World) (vB vE vF:Value) (al cl:BS) (R:Nat→Option RowD) (W:World):Prop where
 bx:Bx W w.heap.size [.slice p.funA p.funs.length p.funC,.slice p.obA p.obs.length p.obC,.slice p.vrA p.vrs.length p.vrC]
 hdr:W.heap[w.heap.size+1]? = some (.cells (sCells p vB vE vF al cl) 92 (0,0))
 rows:Rows (w.heap.size+1) (w.heap.size+1) W R
 below:Below w.heap.size w W
 size:w.heap.size+2≤W.heap.size
section
variable {p:Prg} {w W W':World} {vB vE vF:Value} {al cl:BS} {R:Nat→Option RowD}
theorem StM.next (h:StM p w vB vE vF al cl R W) (hb:Below W.heap.size W W'):StM p w vB vE vF al cl R W':=by
 have:=h.size;have:=hb.size;exact ⟨h.bx.below hb (by omega),(hb.block _ (by omega)).trans h.hdr,h.rows.below hb,h.below.trans (hb.mono h.below.size),by omega⟩
theorem StM.cell (h:StM p w vB vE vF al cl R W) {k:Nat} {v:Value} (hv:(sCells p vB vE vF al cl)[k]? = some v):W.cell? ⟨w.heap.size+1,k,none⟩=some v:=by
 have:=h.hdr;simp only [World.cell?,this];simpa using hv
theorem StM.fz (h:StM p w vB vE vF al cl R W) (k:Nat):W.frozen? ⟨w.heap.size+1,k,none⟩=false:=by
 have:=h.hdr;simp [World.frozen?,this]
theorem StM.store (h:StM p w vB vE vF al cl R W) (k:Nat) (v:Value) {vB' vE' vF':Value} {al' cl':BS} (hc:(sCells p vB vE vF al cl).setIfInBounds k v=sCells p vB' vE' vF' al' cl'):StM p w vB' vE' vF' al' cl' R (W.setCell ⟨w.heap.size+1,k,none⟩ v):=by
 refine ⟨fun j u hu=>(World.cell?_setCell_far _ _ _ _ (by show w.heap.size+1≠w.heap.size; omega)).trans (h.bx j u hu),?_,h.rows.stored k v,h.below.setCell (p:=⟨w.heap.size+1,k,none⟩) (by show w.heap.size≤w.heap.size+1; omega) _,by simpa using h.size⟩;rw [heap_setCell_same W (w.heap.size+1) k _ _ _ h.hdr,hc]
theorem StM.lit (h:StM p w vB vE vF al cl R W) (t e:Nat) (cs:Array Value) (hm:cs.size≤maxLen):StM p w vB vE vF al cl (upd R t (some (.slice (some ⟨W.heap.size,0,none⟩) cs.size cs.size,e,cs.toList))) (W.alloc (.cells cs e)):=by
 have hs:=h.size;have hn:=h.next (below_alloc W (.cells cs e));exact ⟨hn.bx,hn.hdr,h.rows.lit t e cs (by omega) (by omega) hm,hn.below,hn.size⟩
theorem StM.app (h:StM p w vB vE vF al cl R W) {t e:Nat} {v v':Value} {xs xs':List Value} (ht:R t=some (v,e,xs)) (hg:W.grownBy W' v.ownBlock) (ho:W'.ownsRow (w.heap.size+1) e 1 v' xs'.length xs') (hb:v'.ownBlock=v.ownBlock∨v'.ownBlock=some W.heap.size):StM p w vB vE vF al cl (upd R t (some (v',e,xs'))) W':=by
 have hs:=h.size;have hz:=hg.size;have hne:∀ g,v.ownBlock=some g→w.heap.size+1≤g:=fun g e2=>(h.rows.lt ht e2).1
 refine ⟨fun j u hu=>hg.cell (h.bx j u hu) (fun e2=>by have:=hne _ e2.symm; dsimp only at this; omega),(hg.block _ (by omega) (fun e2=>h.rows.hdr _ _ ht e2.symm)).trans h.hdr,h.rows.app ht hg ho hb (by omega),h.below.grown hg (by omega) (fun g e2=>by have:=hne g e2; omega),by omega⟩
theorem StM.sub (h:StM p w vB vE vF al cl R W) {R':Nat→Option RowD} (hR:∀ t r,R' t=some r→R t=some r):StM p w vB vE vF al cl R' W:=
 ⟨h.bx,h.hdr,⟨fun t r e=>h.rows.own t r (hR t r e),fun t r t' r' e e'=>h.rows.far t r t' r' (hR t r e) (hR t' r' e'),fun t r e=>h.rows.hdr t r (hR t r e)⟩,h.below,h.size⟩
end
def negs (n:Nat):List Value:=List.replicate n (.int .i64 (-1))
def rowVals (p:Prg) (bb cb:Nat→Nat) (f:Nat):List Value:=(List.range f).map fun g=>.slice (some ⟨bb g,0,none⟩) (p.len g) (cb g)
def stR (p:Prg) (bb cb:Nat→Nat) (vB vE vF:Value) (f:Nat):Nat→Option RowD
 | 0=>some (vB,27,rowVals p bb cb f)
 | 1=>some (vE,3,negs f)
 | 2=>some (vF,3,negs f)
 | t+3=>if t<f then some (.slice (some ⟨bb t,0,none⟩) (p.len t) (cb t),3,negs (p.len t)) else none
def stR1 (p:Prg) (bb cb:Nat→Nat) (vB vE vF:Value) (f:Nat) (v5:Value) (n:Nat):Nat→Option RowD:=upd (stR p bb cb vB vE vF f) (f+3) (some (v5,3,negs n))
theorem negs_succ (n:Nat):negs (n+1)=negs n++[.int .i64 (-1)]:=by unfold negs; rw [List.replicate_succ']
theorem negs_len (n:Nat):(negs n).length=n:=by simp [negs]
theorem intsInfo:(Tryz.prog.info? 27).map (fun i=>(i.zero,i.size,i.bytes))=some (some (.slice none 0 0),1,24):=by kernel_rfl
theorem stR1_upd (p:Prg) (bb cb:Nat→Nat) (vB vE vF:Value) (f:Nat) (v v':Value) (n m:Nat):upd (stR1 p bb cb vB vE vF f v n) (f+3) (some (v',3,negs m))=stR1 p bb cb vB vE vF f v' m:=by
 funext u;unfold stR1 upd;split <;> simp_all
def Pst (p:Prg) (w:World) (f:Nat) (bb cb:Nat→Nat) (vB vE vF:Value) (al cl:BS) (v5:Value) (e0 e1 e2 l0 l1 l2:Option RowD) (W:World):Prop:=
 ∃ R,StM p w vB vE vF al cl R W∧R 0=e0∧R 1=e1∧R 2=e2∧R 1000=l0∧R 1001=l1∧R 1002=l2∧R (f+3)=some (v5,3,negs (p.len f))∧∀ t,t<f→R (t+3)=some (.slice (some ⟨bb t,0,none⟩) (p.len t) (cb t),3,negs (p.len t))
section
variable {p:Prg} {w W:World} {f:Nat} {bb cb:Nat→Nat} {vB vE vF v5:Value} {al cl:BS} {e0 e1 e2 l0 l1 l2:Option RowD}
theorem Pst.lit0 (h:Pst p w f bb cb vB vE vF al cl v5 e0 e1 e2 l0 l1 l2 W) (hf:f≤32) (x:Value):Pst p w f bb cb vB vE vF al cl v5 e0 e1 e2 (some (.slice (some ⟨W.heap.size,0,none⟩) 1 1,27,[x])) l1 l2 (W.alloc (.cells #[x] 27)):=by
 obtain ⟨R,hM,h0,h1,h2,h3,h4,h5,h6,h7⟩:=h;exact ⟨_,hM.lit 1000 27 #[x] (by show 1≤maxLen; decide),by rw [upd_ne _ _ (by decide)]; exact h0,by rw [upd_ne _ _ (by decide)]; exact h1,by rw [upd_ne _ _ (by decide)]; exact h2,upd_same _ _ _,by rw [upd_ne _ _ (by decide)]; exact h4,by rw [upd_ne _ _ (by decide)]; exact h5,by rw [upd_ne _ _ (by omega)]; exact h6,fun t ht=>by rw [upd_ne _ _ (by omega)]; exact h7 t ht⟩
theorem Pst.lit1 (h:Pst p w f bb cb vB vE vF al cl v5 e0 e1 e2 l0 l1 l2 W) (hf:f≤32) (x:Value):Pst p w f bb cb vB vE vF al cl v5 e0 e1 e2 l0 (some (.slice (some ⟨W.heap.size,0,none⟩) 1 1,3,[x])) l2 (W.alloc (.cells #[x] 3)):=by
 obtain ⟨R,hM,h0,h1,h2,h3,h4,h5,h6,h7⟩:=h;exact ⟨_,hM.lit 1001 3 #[x] (by show 1≤maxLen; decide),by rw [upd_ne _ _ (by decide)]; exact h0,by rw [upd_ne _ _ (by decide)]; exact h1,by rw [upd_ne _ _ (by decide)]; exact h2,by rw [upd_ne _ _ (by decide)]; exact h3,upd_same _ _ _,by rw [upd_ne _ _ (by decide)]; exact h5,by rw [upd_ne _ _ (by omega)]; exact h6,fun t ht=>by rw [upd_ne _ _ (by omega)]; exact h7 t ht⟩
theorem Pst.lit2 (h:Pst p w f bb cb vB vE vF al cl v5 e0 e1 e2 l0 l1 l2 W) (hf:f≤32) (x:Value):Pst p w f bb cb vB vE vF al cl v5 e0 e1 e2 l0 l1 (some (.slice (some ⟨W.heap.size,0,none⟩) 1 1,3,[x])) (W.alloc (.cells #[x] 3)):=by
 obtain ⟨R,hM,h0,h1,h2,h3,h4,h5,h6,h7⟩:=h;exact ⟨_,hM.lit 1002 3 #[x] (by show 1≤maxLen; decide),by rw [upd_ne _ _ (by decide)]; exact h0,by rw [upd_ne _ _ (by decide)]; exact h1,by rw [upd_ne _ _ (by decide)]; exact h2,by rw [upd_ne _ _ (by decide)]; exact h3,by rw [upd_ne _ _ (by decide)]; exact h4,upd_same _ _ _,by rw [upd_ne _ _ (by omega)]; exact h6,fun t ht=>by rw [upd_ne _ _ (by omega)]; exact h7 t ht⟩
theorem StM.push {R:Nat→Option RowD} (hM:StM p w vB vE vF al cl R W) {t u e s:Nat} {v x:Value} {xs:List Value} {g:Nat} {z:Value} {bytes:Nat} (ht:R t=some (v,e,xs)) (hu:R u=some (.slice (some ⟨g,0,none⟩) 1 1,e,[x]))
  (hs:Tryz.prog.underlying s=some (.slice e)) {i:TypeInfo} (hi:Tryz.prog.info? e=some i) (hz0:i.zero=some z) (hz1:i.size=1) (hz2:i.bytes=bytes) (hzc:z.cells.size=1) (hx:x.oneCell'=true) (hn:xs.length≤1000) (hb:bytes≤100) :
  ∃ v' W',(Builtin.append_ #[s,s] s #[v,.slice (some ⟨g,0,none⟩) 1 1]).run Tryz.prog W=.ok v' W'∧StM p w vB vE vF al cl (upd R t (some (v',e,xs++[x]))) W':=by
 have hnew:∀ j y,[x][j]? = some y→W.cell? ((⟨g,0,none⟩:Addr).add j)=some y:=fun j y hy=>World.ownsRow.cells (hM.rows.own u _ hu) rfl j y hy
 obtain ⟨v',W',hr,ho,hg,-,hob⟩:=run_append_own_at (P:=Tryz.prog) (w:=W) (w.heap.size+1) s s e i z 1 bytes hs hi hz0 hz1 hz2 hzc (by decide) v xs.length xs (hM.rows.own t _ ht) ⟨g,0,none⟩ 1 1 [x] rfl hnew (fun y hy=>by rw [List.mem_singleton.1 hy]; exact hx) (by unfold maxLen; omega) (by
  have:(xs.length+1) * bytes≤1001 * 100:=Nat.mul_le_mul (by omega) hb;omega) (by have:=hM.size; omega)
 exact ⟨v',W',hr,hM.app ht hg (by rw [List.length_append]; exact ho) hob⟩
end
end
section
open Go.RowKit
def comesB (md:Region.Mode) (ops:Array Oper) (i d:Nat):Bool:=((ops[i]?).map (fun o=>o.after.any fun e=>Region.binds md e && e.on == d)).getD false
theorem ready_un {md:Region.Mode} {ops:Array Oper} {l:Array Bool} {i:Nat} (h:i∈Region.ready md ops l):i<ops.size∧l.getD i true=false:=by
 unfold Region.ready at h;obtain ⟨h1,h2⟩:=List.mem_filter.1 h;rw [Bool.and_eq_true] at h2;exact ⟨List.mem_range.1 h1,by simpa using h2.1⟩
theorem ready_dep {md:Region.Mode} {ops:Array Oper} {l:Array Bool} {i d:Nat} (h:i∈Region.ready md ops l) (hd:comesB md ops i d=true):l.getD d false=true:=by
 unfold Region.ready at h;obtain ⟨-,h2⟩:=List.mem_filter.1 h;rw [Bool.and_eq_true] at h2;unfold comesB at hd
 cases ho:ops[i]? with
 | none=>rw [ho] at hd; cases hd
 | some o=>
  rw [ho] at hd h2;simp only [Option.map_some,Option.getD_some] at hd h2;obtain ⟨e,he,hb⟩:=Array.any_eq_true'.1 hd;rw [Bool.and_eq_true] at hb;have h3:=Array.all_eq_true'.1 h2.2 e he;rw [hb.1] at h3;have h4:e.on=d:=by simpa using hb.2
  rw [h4] at h3;simpa using h3
theorem count_set_true {l:List Bool} {i:Nat} (h:i<l.length) (hf:l[i]=false):(l.set i true).count false+1=l.count false:=by
 induction l generalizing i with
 | nil=>simp at h
 | cons x r ih=>
  cases i with
  | zero=>
   have:x=false:=hf;subst this;simp
  | succ i=>
   have:=ih (i:=i) (by simpa using h) hf;simp only [List.set_cons_succ,List.count_cons];omega
theorem wpAnyH_inv {P:Program} {md:Region.Mode} {ops:Array Oper} {Q:Exit→Act→World→Prop} {S:World→Prop} {Inv:Array Bool→Act→World→Prop}
  (hstep:∀ l a w,Inv l a w→∀ i,i∈Region.ready md ops l→wpOp P ops Q i (fun a' w'=>S w'∧Inv (l.setIfInBounds i true) a' w') a w)
  (hdone:∀ l a w,Inv l a w→Region.ready md ops l=[]→Q .normal a w):∀ (n:Nat) (l:Array Bool) (a:Act) (w:World),l.toList.count false≤n→Inv l a w→wpAnyH P md ops Q S n l a w
 | 0,l,a,w,hc,hI=>by
  have hr:Region.ready md ops l=[]:=List.eq_nil_iff_forall_not_mem.2 fun i hi=>by
   obtain ⟨-,h2⟩:=ready_un hi
   have hil:i<l.size:=Classical.byContradiction fun e=>by
    rw [Array.getD_eq_getD_getElem?,Array.getElem?_eq_none (by omega)] at h2;cases h2
   have hm:false∈l.toList:=by
    rw [Array.getD_eq_getD_getElem?,Array.getElem?_eq_getElem hil] at h2;have h2:l[i]=false:=h2;rw [← h2];exact Array.getElem_mem_toList hil
   have:=List.count_pos_iff.2 hm;omega
  exact ⟨hr,hdone l a w hI hr⟩
 | n+1,l,a,w,hc,hI=>by
  refine ⟨hdone l a w hI,fun i hi=>?_⟩;refine wpOp_mono (fun a' w' h=>⟨h.1,wpAnyH_inv hstep hdone n _ a' w' ?_ h.2⟩) (hstep l a w hI i hi);obtain ⟨-,h2⟩:=ready_un hi
  have hil:i<l.size:=Classical.byContradiction fun e=>by
   rw [Array.getD_eq_getD_getElem?,Array.getElem?_eq_none (by omega)] at h2;cases h2
  have h3:l[i]=false:=by
   rw [Array.getD_eq_getD_getElem?,Array.getElem?_eq_getElem hil] at h2;exact h2
  have:=count_set_true (l:=l.toList) (i:=i) (by simpa using hil) (by simpa using h3);rw [Array.toList_setIfInBounds];omega
def backB (md:Region.Mode) (ops:Array Oper):Bool:=(List.range ops.size).all fun i=>((ops[i]?).map (fun o=>o.after.all fun e=>!Region.binds md e || decide (e.on<i))).getD true
theorem ready_nil {md:Region.Mode} {ops:Array Oper} {l:Array Bool} (hb:backB md ops=true) (hr:Region.ready md ops l=[]):∀ i,i<ops.size→l.getD i true=true:=by
 intro i
 induction i using Nat.strongRecOn with
 | ind i ih=>
  intro hi;refine Classical.byContradiction fun hn=>?_
  have hn:l.getD i true=false:=by simpa using hn
  have hm:i∈Region.ready md ops l:=by
   unfold Region.ready;refine List.mem_filter.2 ⟨List.mem_range.2 hi,?_⟩;rw [hn];have ho:ops[i]? = some ops[i]:=Array.getElem?_eq_getElem hi;rw [ho];simp only [Bool.not_false,Bool.true_and,Option.map_some,Option.getD_some];unfold backB at hb;have h1:=List.all_eq_true.1 hb i (List.mem_range.2 hi);rw [ho] at h1;simp only [Option.map_some,Option.getD_some] at h1;refine Array.all_eq_true'.2 fun e he=>?_
   have h2:=Array.all_eq_true'.1 h1 e he;rw [Bool.or_eq_true] at h2 ⊢;rcases h2 with h2 | h2
   ·exact .inl h2
   ·have h3:=ih e.on (by simpa using h2) (by have:e.on<i:=(by simpa using h2); omega)
    right;rw [Array.getD_eq_getD_getElem?] at h3 ⊢
    cases hg:l[e.on]? with
    | none=>
     have h4:e.on<i:=by simpa using h2
     have:l.size≤e.on:=Array.getElem?_eq_none_iff.1 hg;rw [Array.getD_eq_getD_getElem?,Array.getElem?_eq_none (by omega)] at hn;cases hn
    | some x=>rw [hg] at h3; exact h3
  rw [hr] at hm;cases hm
theorem getD_listed (l:Array Bool) {i k:Nat} (hi:i<l.size):(l.setIfInBounds i true).getD k false=if k=i then true else l.getD k false:=by
 rw [Array.getD_eq_getD_getElem?,Array.getD_eq_getD_getElem?,Array.getElem?_setIfInBounds];by_cases h:i=k
 ·subst h; simp [hi]
 ·have h2:k≠i:=fun e=>h e.symm
  simp [h,h2]
end
section
open Go.RowKit Go.Shelf
structure Chn (br bb bc bs:Bool) (T:Nat) (v:Value) (xs:List Value) (d:Value) (y z u h e:Value) (x:List Value) (k:Option RowD):Prop where
 load:br=true→y=v
 lit:bb=true→∃ g:Nat,z=.slice (some ⟨g,0,none⟩) 1 1∧k=some (z,T,[d])
 old:bc=false→e=v∧x=xs
 new:bc=true→e=u∧x=xs++[d]
 h0:bs=false→h=v
 h1:bs=true→h=u
 ord:bc=true→br=true
 or2:bs=true→bc=true
section
variable {br bb bc bs:Bool} {T:Nat} {v d y z u h e:Value} {xs x:List Value} {k:Option RowD}
theorem Chn.start (T:Nat) (v:Value) (xs:List Value) (d y z u:Value):Chn false false false false T v xs d y z u v v xs none:=
 ⟨(nomatch ·),(nomatch ·),fun _=>⟨rfl,rfl⟩,(nomatch ·),fun _=>rfl,(nomatch ·),(nomatch ·),(nomatch ·)⟩
theorem Chn.no2 (c:Chn br bb false bs T v xs d y z u h e x k):bs=false:=by
 cases bs with
 | false=>rfl
 | true=>exact absurd (c.or2 rfl) (by simp)
theorem Chn.no (c:Chn false bb bc bs T v xs d y z u h e x k):bs=false:=by
 cases bs with
 | false=>rfl
 | true=>exact absurd (c.ord (c.or2 rfl)) (by simp)
theorem Chn.read (c:Chn false bb bc bs T v xs d y z u h e x k):Chn true bb bc bs T v xs d v z u h e x k:=⟨fun _=>rfl,c.lit,c.old,c.new,c.h0,c.h1,fun _=>rfl,c.or2⟩
theorem Chn.lay (c:Chn br bb bc bs T v xs d y z u h e x k) (g:Nat):Chn br true bc bs T v xs d y (.slice (some ⟨g,0,none⟩) 1 1) u h e x (some (.slice (some ⟨g,0,none⟩) 1 1,T,[d])):=
 ⟨c.load,fun _=>⟨g,rfl,rfl⟩,c.old,c.new,c.h0,c.h1,c.ord,c.or2⟩
theorem Chn.app (c:Chn br bb false bs T v xs d y z u h e x k) (hr:br=true) (hs:bs=false) (u':Value):Chn br bb true bs T v xs d y z u' h u' (xs++[d]) k:=
 ⟨c.load,c.lit,(nomatch ·),fun _=>⟨rfl,rfl⟩,c.h0,fun e=>(by rw [hs] at e; cases e),fun _=>hr,fun _=>rfl⟩
theorem Chn.put (c:Chn br bb bc bs T v xs d y z u h e x k) (hc:bc=true):Chn br bb bc true T v xs d y z u u e x k:=
 ⟨c.load,c.lit,c.old,c.new,(nomatch ·),fun _=>rfl,c.ord,fun _=>hc⟩
end
theorem getD_flip {l:Array Bool} {i:Nat} (h:i<l.size):l.getD i false=l.getD i true:=by
 rw [Array.getD_eq_getD_getElem?,Array.getD_eq_getD_getElem?,Array.getElem?_eq_getElem h]; rfl
section
variable {p:Prg} {w W:World} {f:Nat} {bb cb:Nat→Nat} {vB vE vF v5:Value} {al cl:BS} {e0 e1 e2 l0 l1 l2:Option RowD}
theorem Pst.hd (h:Pst p w f bb cb vB vE vF al cl v5 e0 e1 e2 l0 l1 l2 W):W.cell? ⟨w.heap.size+1,3,none⟩=some vB∧W.cell? ⟨w.heap.size+1,4,none⟩=some vE∧W.cell? ⟨w.heap.size+1,5,none⟩=some vF∧∀ k,W.frozen? ⟨w.heap.size+1,k,none⟩=false:=by
 obtain ⟨R,hM,-⟩:=h;exact ⟨hM.cell rfl,hM.cell rfl,hM.cell rfl,hM.fz⟩
theorem Pst.put3 (h:Pst p w f bb cb vB vE vF al cl v5 e0 e1 e2 l0 l1 l2 W) (v:Value):Pst p w f bb cb v vE vF al cl v5 e0 e1 e2 l0 l1 l2 (W.setCell ⟨w.heap.size+1,3,none⟩ v):=by
 obtain ⟨R,hM,h9⟩:=h;exact ⟨R,hM.store 3 v (by simp [sCells]),h9⟩
theorem Pst.put4 (h:Pst p w f bb cb vB vE vF al cl v5 e0 e1 e2 l0 l1 l2 W) (v:Value):Pst p w f bb cb vB v vF al cl v5 e0 e1 e2 l0 l1 l2 (W.setCell ⟨w.heap.size+1,4,none⟩ v):=by
 obtain ⟨R,hM,h9⟩:=h;exact ⟨R,hM.store 4 v (by simp [sCells]),h9⟩
theorem Pst.put5 (h:Pst p w f bb cb vB vE vF al cl v5 e0 e1 e2 l0 l1 l2 W) (v:Value):Pst p w f bb cb vB vE v al cl v5 e0 e1 e2 l0 l1 l2 (W.setCell ⟨w.heap.size+1,5,none⟩ v):=by
 obtain ⟨R,hM,h9⟩:=h;exact ⟨R,hM.store 5 v (by simp [sCells]),h9⟩
theorem Pst.app0 {v x:Value} {xs:List Value} {g:Nat} (h:Pst p w f bb cb vB vE vF al cl v5 (some (v,27,xs)) e1 e2 (some (.slice (some ⟨g,0,none⟩) 1 1,27,[x])) l1 l2 W) (hx:x.oneCell'=true) (hn:xs.length≤1000) :
  ∃ v' W',(Builtin.append_ #[35,35] 35 #[v,.slice (some ⟨g,0,none⟩) 1 1]).run Tryz.prog W=.ok v' W'∧Pst p w f bb cb vB vE vF al cl v5 (some (v',27,xs++[x])) e1 e2 (some (.slice (some ⟨g,0,none⟩) 1 1,27,[x])) l1 l2 W':=by
 obtain ⟨R,hM,h0,h1,h2,h3,h4,h5,h6,h7⟩:=h;obtain ⟨i1,hi',hz'⟩:=Option.map_eq_some_iff.1 intsInfo;obtain ⟨v',W',hr,hM'⟩:=hM.push (t:=0) (u:=1000) h0 h3 Tryz.underlying35 hi' (congrArg (fun t=>t.1) hz') (congrArg (fun t=>t.2.1) hz') (congrArg (fun t=>t.2.2) hz') rfl hx hn (by decide);exact ⟨v',W',hr,_,hM',upd_same _ _ _,by rw [upd_ne _ _ (by decide)]; exact h1,by rw [upd_ne _ _ (by decide)]; exact h2,by rw [upd_ne _ _ (by decide)]; exact h3,by rw [upd_ne _ _ (by decide)]; exact h4,by rw [upd_ne _ _ (by decide)]; exact h5,by rw [upd_ne _ _ (by omega)]; exact h6,fun t ht=>by rw [upd_ne _ _ (by omega)]; exact h7 t ht⟩
theorem Pst.app1 {v x:Value} {xs:List Value} {g:Nat} (h:Pst p w f bb cb vB vE vF al cl v5 e0 (some (v,3,xs)) e2 l0 (some (.slice (some ⟨g,0,none⟩) 1 1,3,[x])) l2 W) (hx:x.oneCell'=true) (hn:xs.length≤1000) :
  ∃ v' W',(Builtin.append_ #[27,27] 27 #[v,.slice (some ⟨g,0,none⟩) 1 1]).run Tryz.prog W=.ok v' W'∧Pst p w f bb cb vB vE vF al cl v5 e0 (some (v',3,xs++[x])) e2 l0 (some (.slice (some ⟨g,0,none⟩) 1 1,3,[x])) l2 W':=by
 obtain ⟨R,hM,h0,h1,h2,h3,h4,h5,h6,h7⟩:=h;obtain ⟨i1,hi',hz'⟩:=Option.map_eq_some_iff.1 i64info;obtain ⟨v',W',hr,hM'⟩:=hM.push (t:=1) (u:=1001) h1 h4 Tryz.underlying27 hi' (congrArg (fun t=>t.1) hz') (congrArg (fun t=>t.2.1) hz') (congrArg (fun t=>t.2.2) hz') rfl hx hn (by decide);exact ⟨v',W',hr,_,hM',by rw [upd_ne _ _ (by decide)]; exact h0,upd_same _ _ _,by rw [upd_ne _ _ (by decide)]; exact h2,by rw [upd_ne _ _ (by decide)]; exact h3,by rw [upd_ne _ _ (by decide)]; exact h4,by rw [upd_ne _ _ (by decide)]; exact h5,by rw [upd_ne _ _ (by omega)]; exact h6,fun t ht=>by rw [upd_ne _ _ (by omega)]; exact h7 t ht⟩
theorem Pst.app2 {v x:Value} {xs:List Value} {g:Nat} (h:Pst p w f bb cb vB vE vF al cl v5 e0 e1 (some (v,3,xs)) l0 l1 (some (.slice (some ⟨g,0,none⟩) 1 1,3,[x])) W) (hx:x.oneCell'=true) (hn:xs.length≤1000) :
  ∃ v' W',(Builtin.append_ #[27,27] 27 #[v,.slice (some ⟨g,0,none⟩) 1 1]).run Tryz.prog W=.ok v' W'∧Pst p w f bb cb vB vE vF al cl v5 e0 e1 (some (v',3,xs++[x])) l0 l1 (some (.slice (some ⟨g,0,none⟩) 1 1,3,[x])) W':=by
 obtain ⟨R,hM,h0,h1,h2,h3,h4,h5,h6,h7⟩:=h;obtain ⟨i1,hi',hz'⟩:=Option.map_eq_some_iff.1 i64info;obtain ⟨v',W',hr,hM'⟩:=hM.push (t:=2) (u:=1002) h2 h5 Tryz.underlying27 hi' (congrArg (fun t=>t.1) hz') (congrArg (fun t=>t.2.1) hz') (congrArg (fun t=>t.2.2) hz') rfl hx hn (by decide);exact ⟨v',W',hr,_,hM',by rw [upd_ne _ _ (by decide)]; exact h0,by rw [upd_ne _ _ (by decide)]; exact h1,upd_same _ _ _,by rw [upd_ne _ _ (by decide)]; exact h3,by rw [upd_ne _ _ (by decide)]; exact h4,by rw [upd_ne _ _ (by decide)]; exact h5,by rw [upd_ne _ _ (by omega)]; exact h6,fun t ht=>by rw [upd_ne _ _ (by omega)]; exact h7 t ht⟩
end
theorem Pst.form0 {p:Prg} {w W:World} {f:Nat} {bb cb:Nat→Nat} {vB vE vF v5 v:Value} {al cl:BS} {xs:List Value} {e:Nat} {e1 e2 l0 l1 l2:Option RowD} (h:Pst p w f bb cb vB vE vF al cl v5 (some (v,e,xs)) e1 e2 l0 l1 l2 W):∃ A n c,v=.slice A n c:=by
 obtain ⟨R,hM,h0,-⟩:=h;obtain ⟨A,c,e⟩:=own_form (hM.rows.own 0 _ h0);exact ⟨A,_,c,e⟩
theorem Pst.form1 {p:Prg} {w W:World} {f:Nat} {bb cb:Nat→Nat} {vB vE vF v5 v:Value} {al cl:BS} {xs:List Value} {e:Nat} {e0 e2 l0 l1 l2:Option RowD} (h:Pst p w f bb cb vB vE vF al cl v5 e0 (some (v,e,xs)) e2 l0 l1 l2 W):∃ A n c,v=.slice A n c:=by
 obtain ⟨R,hM,-,h0,-⟩:=h;obtain ⟨A,c,e⟩:=own_form (hM.rows.own 1 _ h0);exact ⟨A,_,c,e⟩
theorem Pst.form2 {p:Prg} {w W:World} {f:Nat} {bb cb:Nat→Nat} {vB vE vF v5 v:Value} {al cl:BS} {xs:List Value} {e:Nat} {e0 e1 l0 l1 l2:Option RowD} (h:Pst p w f bb cb vB vE vF al cl v5 e0 e1 (some (v,e,xs)) l0 l1 l2 W):∃ A n c,v=.slice A n c:=by
 obtain ⟨R,hM,-,-,h0,-⟩:=h;obtain ⟨A,c,e⟩:=own_form (hM.rows.own 2 _ h0);exact ⟨A,_,c,e⟩
theorem row_form {lo e n:Nat} {v:Value} {xs:List Value} {W:World} (h:W.ownsRow lo e 1 v xs.length xs) (hn:v≠.slice none 0 0) (hl:xs.length=n):∃ g c,v=.slice (some ⟨g,0,none⟩) n c:=by
 rcases h.2 with ⟨rfl,-⟩ | ⟨g,cap,-,rfl,-⟩
 ·exact absurd rfl hn
 ·exact ⟨g,cap,by rw [hl]⟩
theorem upd_far (p:Prg) (bb cb:Nat→Nat) (f k:Nat) (vB vE vF v5:Value) (n:Nat) (hf:f≤32∧100≤k):stR1 p bb cb vB vE vF f v5 n (k+3)=none:=by
 unfold stR1;rw [upd_ne _ _ (by omega)];show (if k<f then _ else none)=none;rw [if_neg (by omega)]
def at1 (f g:Nat) (bb:Nat→Nat):Nat→Nat:=fun u=>if u=f then g else bb u
theorem at1_same (f g:Nat) (bb:Nat→Nat):at1 f g bb f=g:=by simp [at1]
theorem at1_ne {f u:Nat} (g:Nat) (bb:Nat→Nat) (h:u≠f):at1 f g bb u=bb u:=by simp [at1,h]
theorem rowVals_succ (p:Prg) (bb cb:Nat→Nat) (f g c:Nat):rowVals p (at1 f g bb) (at1 f c cb) (f+1)=rowVals p bb cb f++[.slice (some ⟨g,0,none⟩) (p.len f) c]:=by
 unfold rowVals;rw [List.range_succ,List.map_append,List.map_singleton,at1_same,at1_same];congr 1;refine List.map_congr_left fun u hu=>?_
 have:u≠f:=by have:=List.mem_range.1 hu; omega
 rw [at1_ne _ _ this,at1_ne _ _ this]
theorem Pst.close {p:Prg} {w W:World} {f:Nat} {bb cb:Nat→Nat} {vB vE vF v5:Value} {al cl:BS} {l0 l1 l2:Option RowD} (h:Pst p w f bb cb vB vE vF al cl v5 (some (vB,27,rowVals p bb cb f++[v5])) (some (vE,3,negs f++[.int .i64 (-1)])) (some (vF,3,negs f++[.int .i64 (-1)])) l0 l1 l2 W) {g c:Nat} (h5:v5=.slice (some ⟨g,0,none⟩) (p.len f) c) :
  StM p w vB vE vF al cl (stR p (at1 f g bb) (at1 f c cb) vB vE vF (f+1)) W:=by
 obtain ⟨R,hM,h0,h1,h2,-,-,-,h6,h7⟩:=h;subst h5;refine hM.sub fun t r e=>?_
 rcases t with _ | _ | _ | t
 ·rw [h0,← rowVals_succ]; exact e
 ·rw [h1,← negs_succ]; exact e
 ·rw [h2,← negs_succ]; exact e
 ·have e:(if t<f+1 then some (Value.slice (some ⟨at1 f g bb t,0,none⟩) (p.len t) (at1 f c cb t),3,negs (p.len t)) else none)=some r:=e
  split at e
  ·rename_i ht
   by_cases hf:t=f
   ·subst hf
    rw [at1_same,at1_same] at e;rw [h6]; exact e
   ·rw [at1_ne _ _ hf,at1_ne _ _ hf] at e
    rw [h7 t (by omega)]; exact e
  ·cases e
end
section
open Go.RowKit Go.Shelf
theorem add_at (g j:Nat):(⟨g,0,none⟩:Addr).add j=⟨g,j,none⟩:=by unfold Addr.add; split <;> simp_all
theorem allTo_all (p:Prg):allTo p p.funs.length=allM p:=by unfold allTo allM; rw [List.take_length]; rfl
theorem cleTo_all (p:Prg):cleTo p p.funs.length=cleanM p:=by unfold cleTo cleanM; rw [List.take_length]; rfl
theorem pos_form {lo e:Nat} {v:Value} {xs:List Value} {W:World} (h:W.ownsRow lo e 1 v xs.length xs) (hl:0<xs.length):∃ g c,v=.slice (some ⟨g,0,none⟩) xs.length c:=by
 rcases h.2 with ⟨-,e0⟩ | ⟨g,cap,-,rfl,-⟩
 ·omega
 ·exact ⟨g,cap,rfl⟩
open Classical in
theorem StM.toR {p:Prg} {w W:World} {vB vE vF:Value} {bb cb:Nat→Nat} (hn:0<p.funs.length) (hL:Lies W w.heap.size p) (h:StM p w vB vE vF (allTo p p.funs.length) (cleTo p p.funs.length) (stR p bb cb vB vE vF p.funs.length) W) :
  ∃ L:RLay,L.A=w.heap.size+1∧L.lo=w.heap.size∧RMem p L W (startM p)∧vE=.slice (some ⟨L.E,0,none⟩) p.funs.length L.cE:=by
 have lenB:(rowVals p bb cb p.funs.length).length=p.funs.length:=by simp [rowVals]
 have oB:=h.rows.own 0 _ rfl;have oE:=h.rows.own 1 _ rfl;have oF:=h.rows.own 2 _ rfl;dsimp only at oB oE oF;obtain ⟨B,cB,eB⟩:=pos_form oB (by rw [lenB]; exact hn);obtain ⟨E,cE,eE⟩:=pos_form oE (by rw [negs_len]; exact hn);obtain ⟨F,cF,eF⟩:=pos_form oF (by rw [negs_len]; exact hn);rw [lenB] at eB;rw [negs_len] at eE eF;subst eB; subst eE; subst eF
 have r3:∀ f,f<p.funs.length→stR p bb cb (.slice (some ⟨B,0,none⟩) p.funs.length cB) (.slice (some ⟨E,0,none⟩) p.funs.length cE) (.slice (some ⟨F,0,none⟩) p.funs.length cF) p.funs.length (f+3)=some (.slice (some ⟨bb f,0,none⟩) (p.len f) (cb f),3,negs (p.len f)):=fun f hf=>by
  show (if f<p.funs.length then _ else none)=_;rw [if_pos hf]
 have far:=h.rows.far;have nEB:E≠B:=fun e=>far 1 _ 0 _ rfl rfl (by decide) E rfl (by rw [e]; rfl)
 have nFB:F≠B:=fun e=>far 2 _ 0 _ rfl rfl (by decide) F rfl (by rw [e]; rfl)
 have nFE:F≠E:=fun e=>far 2 _ 1 _ rfl rfl (by decide) F rfl (by rw [e]; rfl)
 have nbB:∀ f,f<p.funs.length→bb f≠B:=fun f hf e=>far (f+3) _ 0 _ (r3 f hf) rfl (by omega) (bb f) rfl (by rw [e]; rfl)
 have nbE:∀ f,f<p.funs.length→bb f≠E:=fun f hf e=>far (f+3) _ 1 _ (r3 f hf) rfl (by omega) (bb f) rfl (by rw [e]; rfl)
 have nbF:∀ f,f<p.funs.length→bb f≠F:=fun f hf e=>far (f+3) _ 2 _ (r3 f hf) rfl (by omega) (bb f) rfl (by rw [e]; rfl)
 have nbb:∀ f g,f<p.funs.length→g<p.funs.length→f≠g→bb f≠bb g:=fun f g hf hg hne e=>far (f+3) _ (g+3) _ (r3 f hf) (r3 g hg) (by omega) (bb f) rfl (by rw [e]; rfl)
 have nBA:B≠w.heap.size+1:=fun e=>h.rows.hdr 0 _ rfl (by rw [e]; rfl)
 have nEA:E≠w.heap.size+1:=fun e=>h.rows.hdr 1 _ rfl (by rw [e]; rfl)
 have nFA:F≠w.heap.size+1:=fun e=>h.rows.hdr 2 _ rfl (by rw [e]; rfl)
 have nbA:∀ f,f<p.funs.length→bb f≠w.heap.size+1:=fun f hf e=>h.rows.hdr (f+3) _ (r3 f hf) (by rw [e]; rfl)
 have lB:=h.rows.lt (t:=0) rfl (g:=B) rfl;have lE:=h.rows.lt (t:=1) rfl (g:=E) rfl;have lF:=h.rows.lt (t:=2) rfl (g:=F) rfl;have lb:∀ f,f<p.funs.length→w.heap.size+1≤bb f∧bb f<W.heap.size:=fun f hf=>h.rows.lt (t:=f+3) (r3 f hf) (g:=bb f) rfl
 have hs:=h.size
 have negAt:∀ {g n:Nat} {c:Nat} (_:W.ownsRow (w.heap.size+1) 3 1 (.slice (some ⟨g,0,none⟩) n c) n (negs n)) (k:Nat),k<n→W.cell? ⟨g,k,none⟩=some (.int .i64 (rv (false,0)))∧W.frozen? ⟨g,k,none⟩=false:=fun {g n c} o k hk=>by
  have e1:=World.ownsRow.cells o rfl k (.int .i64 (-1)) (by unfold negs; rw [List.getElem?_replicate,if_pos hk]);rw [add_at] at e1;exact ⟨e1,o.frozenAt k⟩
 refine ⟨⟨w.heap.size,W.heap.size,w.heap.size+1,E,F,B,cE,cF,cB,bb,cb⟩,rfl,rfl,⟨⟨?_,?_,?_⟩,hL,?_,?_,?_,?_,startM_sized p,⟨by show w.heap.size≤W.heap.size; omega,Nat.le_refl _⟩⟩,rfl⟩
 ·refine ⟨fun k=>if k=w.heap.size+1 then (0,0) else if k=E then (1,0) else if k=F then (2,0) else if k=B then (3,0) else if hk:∃ f,f<p.funs.length∧bb f=k then (4,hk.choose) else (5,0),?_,?_,?_,?_,fun f hf=>?_⟩
  ·dsimp only; rw [if_pos rfl]
  ·dsimp only; rw [if_neg nEA,if_pos rfl]
  ·dsimp only; rw [if_neg nFA,if_neg nFE,if_pos rfl]
  ·dsimp only; rw [if_neg nBA,if_neg (Ne.symm nEB),if_neg (Ne.symm nFB),if_pos rfl]
  ·dsimp only
   rw [if_neg (nbA f hf),if_neg (nbE f hf),if_neg (nbF f hf),if_neg (nbB f hf)];have hk:∃ g,g<p.funs.length∧bb g=bb f:=⟨f,hf,rfl⟩
   rw [dif_pos hk];have hc:=hk.choose_spec;have:hk.choose=f:=Classical.byContradiction fun e=>nbb _ _ hc.1 hf e hc.2
   rw [this]
 ·intro b hb
  simp only [List.mem_cons,List.not_mem_nil,or_false] at hb;rcases hb with e | e | e | e <;> rw [e]
  ·exact ⟨Nat.le_succ _,show w.heap.size+1<W.heap.size by omega⟩
  ·exact ⟨show w.heap.size≤E by omega,lE.2⟩
  ·exact ⟨show w.heap.size≤F by omega,lF.2⟩
  ·exact ⟨show w.heap.size≤B by omega,lB.2⟩
 ·intro f hf
  exact ⟨by have:=(lb f hf).1; show w.heap.size≤bb f; omega,(lb f hf).2⟩
 ·have e:=h.hdr
  rw [allTo_all,cleTo_all] at e;exact e
 ·intro f hf
  have e1:=World.ownsRow.cells oB rfl f (.slice (some ⟨bb f,0,none⟩) (p.len f) (cb f)) (by unfold rowVals; rw [List.getElem?_map,List.getElem?_range hf]; rfl);rw [add_at] at e1;exact e1
 ·intro x hx
  rw [start_get];rw [negs_len] at oE oF
  cases x with
  | ent f=>exact negAt oE f hx
  | fin f=>exact negAt oF f hx
  | at_ f k=>
   have o:=h.rows.own (f+3) _ (r3 f hx.1);dsimp only at o;rw [negs_len] at o;exact negAt o k hx.2
 ·intro x hx _
  rw [start_get]
end
end Go.Proofs.YtkpjdanfpolimaaGreat
