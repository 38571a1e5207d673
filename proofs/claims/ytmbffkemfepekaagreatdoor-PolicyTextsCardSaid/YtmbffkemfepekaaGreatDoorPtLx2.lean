/- lexer.blank, walked. Conditions: none. -/
import Derived.Test.YtmbffkemfepekaaGreatDoorPtWr1
import Derived.Laws.RangeAny
import Derived.Lib.IndexBytes
import Derived.Laws.DeepStrings4
namespace Go.Proofs.YtmbffkemfepekaaGreatDoor
open Go.RowKit
theorem get_in (s:ByteArray) (k:Nat) (h:k<s.size):s.get! k=s[k]'h:=by
 simp [ByteArray.get!,getElem!_pos,h]
 rfl
/-- What one letter that is no ASCII letter takes are bytes that are none. -/
theorem decode_all (s:ByteArray) (pos:Nat) (h:pos<s.size) (ha:128≤(s[pos]'h).toNat):pos+(Utf8.decode s pos).2≤s.size∧∀ j,j<(Utf8.decode s pos).2→∀ (hj:pos+j<s.size),128≤(s[pos+j]'hj).toNat:=by
 have hn:¬ (s[pos]'h).toNat<128:=by omega
 have h0:∀ (hj:pos+0<s.size),128≤(s[pos+0]'hj).toNat:=fun _=>ha
 have hk:∀ k,(decide (pos+k<s.size) && (s.get! (pos+k)).toNat / 64 == 2)=true→pos+k<s.size∧∀ (hj:pos+k<s.size),128≤(s[pos+k]'hj).toNat:=by
  intro k hk
  simp only [Bool.and_eq_true,decide_eq_true_eq,beq_iff_eq] at hk
  refine ⟨hk.1,fun hj=>?_⟩
  rw [get_in s (pos+k) hj] at hk
  omega
 simp only [Utf8.decode,get_at s pos h,hn,if_false]
 have h1:=hk 1
 have h2:=hk 2
 have h3:=hk 3
 have one:pos+1≤s.size∧∀ j,j<1→∀ (hj:pos+j<s.size),128≤(s[pos+j]'hj).toNat:=⟨by omega,fun j hj hp=>by
  obtain rfl:j=0:=by omega
  exact h0 hp⟩
 split
 ·next hc=>
  rw [Bool.and_eq_true] at hc
  obtain ⟨q1,p1⟩:=h1 hc.2
  split
  ·refine ⟨by show pos+2≤s.size; omega,fun j (hj:j<2) hp=>?_⟩
   have:j=0∨j=1:=by omega
   rcases this with rfl | rfl
   ·exact h0 hp
   ·exact p1 hp
  ·exact one
 ·split
  ·next hc=>
   rw [Bool.and_eq_true,Bool.and_eq_true] at hc
   obtain ⟨q1,p1⟩:=h1 hc.1.2
   obtain ⟨q2,p2⟩:=h2 hc.2
   split
   ·refine ⟨by show pos+3≤s.size; omega,fun j (hj:j<3) hp=>?_⟩
    have:j=0∨j=1∨j=2:=by omega
    rcases this with rfl | rfl | rfl
    ·exact h0 hp
    ·exact p1 hp
    ·exact p2 hp
   ·exact one
  ·split
   ·next hc=>
    rw [Bool.and_eq_true,Bool.and_eq_true,Bool.and_eq_true] at hc
    obtain ⟨q1,p1⟩:=h1 hc.1.1.2
    obtain ⟨q2,p2⟩:=h2 hc.1.2
    obtain ⟨q3,p3⟩:=h3 hc.2
    split
    ·refine ⟨by show pos+4≤s.size; omega,fun j (hj:j<4) hp=>?_⟩
     have:j=0∨j=1∨j=2∨j=3:=by omega
     rcases this with rfl | rfl | rfl | rfl
     ·exact h0 hp
     ·exact p1 hp
     ·exact p2 hp
     ·exact p3 hp
    ·exact one
   ·exact one
/-- In a comment such bytes are passed. -/
theorem skip_high (s:ByteArray):∀ (n pos:Nat),pos+n≤s.size→(∀ j,j<n→∀ (hj:pos+j<s.size),128≤(s[pos+j]'hj).toNat)→skipN true (s.data.toList.drop pos)=n+skipN true (s.data.toList.drop (pos+n))
 | 0,pos,_,_=>by simp
 | n+1,pos,h,hb=>by
  have hlt:pos<s.size:=by omega
  have h0:128≤(s[pos]'hlt).toNat:=hb 0 (by omega) hlt
  rw [run_at s pos hlt,skipN,if_neg (by omega),if_pos rfl,skip_high s n (pos+1) (by omega) (fun j hj hp=>by
   have e:pos+1+j=pos+(j+1):=by omega
   have:=hb (j+1) (by omega) (by omega)
   simpa only [e] using this)]
  rw [show pos+1+n=pos+(n+1) from by omega]
  omega
set_option maxRecDepth 100000 in
set_option maxHeartbeats 3200000 in
theorem blank_any (s:ByteArray) (at_:Nat) (ha:at_≤s.size) (hs:s.size≤140737488355328) (w:World):Calls Tryz.prog 45 #[.string s,.int .i64 (at_:Nat)] w (Ret (.int .i64 (at_+skipN false (s.data.toList.drop at_):Nat)) w):=by
 obtain ⟨R,hR⟩:∃ R,R=at_+skipN false (s.data.toList.drop at_):=⟨_,rfl⟩
 have HR:=Lib.hid hR
 rw [← hR]
 clear hR
 have ha0:(0:Int)≤(at_:Int):=by omega
 have ha1:(at_:Int)≤(s.size:Int):=by omega
 have HSZ:Hid ((s.extract at_ s.size).size=s.size - at_):=Lib.hid (by simp)
 have HDT:Hid ((s.extract at_ s.size).data.toList=s.data.toList.drop at_):=Lib.hid (Lib.extract_to_end s at_)
 unfold Ret
 go_enter Tryz.func45,Tryz.ntmps45
 go_wp2_with fail
 go_step3
 go_wp2_with fail
 go_step3
 go_wp2_with fail
 generalize s.extract at_ s.size=s2 at HSZ HDT ⊢
 have hbw:∀ p:Nat,Below w.heap.size w (w.iter s2 p):=fun p=>below_alloc w _
 have HBW:=Lib.hid hbw
 clear hbw
 go_loopw [4,5] (fun r5 cmv wr=>r5=.int .i64 0∧∃ (cm:Bool) (pos:Nat),cmv=.bool cm∧wr=w.iter s2 pos∧pos≤s2.size∧Hid (R=at_+pos+skipN cm (s2.data.toList.drop pos))) (fun _ _ wr=>s2.size - wr.iterPos w.heap.size)
 case atStart=>exact ⟨rfl,false,0,rfl,rfl,Nat.zero_le _,Lib.hid (by rw [HR.out,HDT.out]; simp)⟩
 case round=>
  obtain ⟨rfl,cm,pos,rfl,rfl,hp,HS⟩:=hrel
  by_cases hlt:pos<s2.size
  ·have HPL:Hid (at_+pos<at_+s2.size∧at_+s2.size≤s.size):=Lib.hid (by have:=HSZ.out; omega)
   by_cases hc:(s2[pos]'hlt).toNat<128
   ·have hnx:=fun ty=>run_next_ascii (P:=Tryz.prog) w s2 pos ty hlt hc
    have HST:Hid (skipN cm (s2.data.toList.drop pos)=if (s2[pos]'hlt).toNat=10 then skipN false (s2.data.toList.drop (pos+1))+1 else if cm then skipN true (s2.data.toList.drop (pos+1))+1 else if (s2[pos]'hlt).toNat=35 then skipN true (s2.data.toList.drop (pos+1))+1 else if (s2[pos]'hlt).toNat=32∨(s2[pos]'hlt).toNat=9 then skipN false (s2.data.toList.drop (pos+1))+1 else 0):=Lib.hid (by rw [run_at s2 pos hlt,skipN])
    generalize (s2[pos]'hlt).toNat=c at hc hnx HST
    have HBD:Hid (at_+pos≤140737488355328):=Lib.hid (by have:=HPL.out; omega)
    have hbd:=HBD.out
    by_cases c10:c=10
    ·have e1:((c:Int) == 10)=true:=by simpa using (by omega:(c:Int)=10)
     have e2:(c == 10)=true:=by simpa using c10
     have HN:Hid (R=at_+(pos+1)+skipN false (s2.data.toList.drop (pos+1))):=Lib.hid (by rw [HS.out,HST.out,if_pos c10]; omega)
     clear HST c10 HS
     go_wp2_with fail
     exact ⟨⟨rfl,false,pos+1,rfl,rfl,by omega,HN⟩,by simp; omega⟩
    ·have e1:((c:Int) == 10)=false:=by simpa using (by omega:¬ (c:Int)=10)
     have e2:(c == 10)=false:=by simpa using c10
     cases cm with
     | true=>
      have HN:Hid (R=at_+(pos+1)+skipN true (s2.data.toList.drop (pos+1))):=Lib.hid (by rw [HS.out,HST.out,if_neg c10,if_pos rfl]; omega)
      clear HST c10 HS
      go_wp2_with fail
      exact ⟨⟨rfl,true,pos+1,rfl,rfl,by omega,HN⟩,by simp; omega⟩
     | false=>
      by_cases c35:c=35
      ·have f1:((c:Int) == 35)=true:=by simpa using (by omega:(c:Int)=35)
       have f2:(c == 35)=true:=by simpa using c35
       have HN:Hid (R=at_+(pos+1)+skipN true (s2.data.toList.drop (pos+1))):=Lib.hid (by rw [HS.out,HST.out,if_neg c10,if_neg (by simp),if_pos c35]; omega)
       clear HST c10 c35 HS
       go_wp2_with fail
       exact ⟨⟨rfl,true,pos+1,rfl,rfl,by omega,HN⟩,by simp; omega⟩
      ·have f1:((c:Int) == 35)=false:=by simpa using (by omega:¬ (c:Int)=35)
       have f2:(c == 35)=false:=by simpa using c35
       by_cases c32:c=32
       ·have g1:((c:Int) != 32)=false:=by simpa using (by omega:(c:Int)=32)
        have g2:(c != 32)=false:=by simpa using c32
        have HN:Hid (R=at_+(pos+1)+skipN false (s2.data.toList.drop (pos+1))):=Lib.hid (by rw [HS.out,HST.out,if_neg c10,if_neg (by simp),if_neg c35,if_pos (.inl c32)]; omega)
        clear HST c10 c35 c32 HS
        go_wp2_with fail
        exact ⟨⟨rfl,false,pos+1,rfl,rfl,by omega,HN⟩,by simp; omega⟩
       ·have g1:((c:Int) != 32)=true:=by simpa using (by omega:¬ (c:Int)=32)
        have g2:(c != 32)=true:=by simpa using c32
        by_cases c9:c=9
        ·have h1:((c:Int) != 9)=false:=by simpa using (by omega:(c:Int)=9)
         have h2:(c != 9)=false:=by simpa using c9
         have HN:Hid (R=at_+(pos+1)+skipN false (s2.data.toList.drop (pos+1))):=Lib.hid (by rw [HS.out,HST.out,if_neg c10,if_neg (by simp),if_neg c35,if_pos (.inr c9)]; omega)
         clear HST c10 c35 c32 c9 HS
         go_wp2_with fail
         exact ⟨⟨rfl,false,pos+1,rfl,rfl,by omega,HN⟩,by simp; omega⟩
        ·have h1:((c:Int) != 9)=true:=by simpa using (by omega:¬ (c:Int)=9)
         have h2:(c != 9)=true:=by simpa using c9
         have HN:Hid (R=at_+pos):=Lib.hid (by rw [HS.out,HST.out,if_neg c10,if_neg (by simp),if_neg c35,if_neg (by omega)]; omega)
         clear HST c10 c35 c32 c9 HS
         go_wp2_with fail
         (try rw [Exit.noGoto_ret])
         go_ret
         exact ⟨by rw [HN.out]; rfl,HBW.out _⟩
   ·have hnx:=fun ty=>run_next_any (P:=Tryz.prog) w s2 pos ty hlt
    obtain ⟨hr,hw⟩:=decode_high s2 pos hlt (by omega)
    obtain ⟨hdl,hda⟩:=decode_all s2 pos hlt (by omega)
    have HSK:Hid (skipN true (s2.data.toList.drop pos)=(Utf8.decode s2 pos).2+skipN true (s2.data.toList.drop (pos+(Utf8.decode s2 pos).2))):=Lib.hid (skip_high s2 _ pos hdl hda)
    have HSF:Hid (skipN false (s2.data.toList.drop pos)=0):=Lib.hid (by rw [run_at s2 pos hlt,skipN,if_neg (by omega),if_neg (by simp),if_neg (by omega),if_neg (by omega)])
    have hbd:at_+pos≤140737488355328:=by have:=HPL.out; omega
    clear hda
    generalize (Utf8.decode s2 pos).2=wd at hnx hw HSK hdl
    generalize (Utf8.decode s2 pos).1=c at hnx hr
    have e1:((c:Int) == 10)=false:=by simpa using (by omega:¬ (c:Int)=10)
    have e2:(c == 10)=false:=by simpa using (by omega:¬ c=10)
    cases cm with
    | true=>
     have HN:Hid (R=at_+(pos+wd)+skipN true (s2.data.toList.drop (pos+wd))):=Lib.hid (by rw [HS.out,HSK.out]; omega)
     clear HS HSK HSF hr
     go_wp2_with fail
     exact ⟨⟨rfl,true,pos+wd,rfl,rfl,hdl,HN⟩,by simp; omega⟩
    | false=>
     have f1:((c:Int) == 35)=false:=by simpa using (by omega:¬ (c:Int)=35)
     have f2:(c == 35)=false:=by simpa using (by omega:¬ c=35)
     have g1:((c:Int) != 32)=true:=by simpa using (by omega:¬ (c:Int)=32)
     have g2:(c != 32)=true:=by simpa using (by omega:¬ c=32)
     have h1:((c:Int) != 9)=true:=by simpa using (by omega:¬ (c:Int)=9)
     have h2:(c != 9)=true:=by simpa using (by omega:¬ c=9)
     have HN:Hid (R=at_+pos):=Lib.hid (by rw [HS.out,HSF.out]; rfl)
     clear HS HSK HSF hr
     go_wp2_with fail
     (try rw [Exit.noGoto_ret])
     go_ret
     exact ⟨by rw [HN.out]; rfl,HBW.out _⟩
  ·have hnx:=fun ty=>run_next_end (P:=Tryz.prog) w s2 pos ty (by omega)
   have HN:Hid (R=s.size):=Lib.hid (by
    rw [HS.out,List.drop_of_length_le (by rw [Array.length_toList]; show s2.size≤pos; omega)]
    have h1:=HSZ.out
    cases cm <;> simp only [skipN] <;> omega)
   clear HS
   go_wp2_with fail
   (try rw [Exit.noGoto_ret])
   go_ret
   exact ⟨by rw [HN.out]; rfl,HBW.out _⟩
end Go.Proofs.YtmbffkemfepekaaGreatDoor

namespace Go.Proofs.YtmbffkemfepekaaGreatDoor
open Go.RowKit
theorem set4 {W:World} {B:Nat} {u0 u1 u2 u3:Value} (h0:W.cell? ⟨B,0,none⟩=some u0) (h1:W.cell? ⟨B,1,none⟩=some u1) (h2:W.cell? ⟨B,2,none⟩=some u2) (h3:W.cell? ⟨B,3,none⟩=some u3) (v0 v1 v2 v3:Value) :
  ((((W.setCell ⟨B,0,none⟩ v0).setCell ⟨B,1,none⟩ v1).setCell ⟨B,2,none⟩ v2).setCell ⟨B,3,none⟩ v3).cell? ⟨B,0,none⟩=some v0∧((((W.setCell ⟨B,0,none⟩ v0).setCell ⟨B,1,none⟩ v1).setCell ⟨B,2,none⟩ v2).setCell ⟨B,3,none⟩ v3).cell? ⟨B,1,none⟩=some v1 ∧
  ((((W.setCell ⟨B,0,none⟩ v0).setCell ⟨B,1,none⟩ v1).setCell ⟨B,2,none⟩ v2).setCell ⟨B,3,none⟩ v3).cell? ⟨B,2,none⟩=some v2∧((((W.setCell ⟨B,0,none⟩ v0).setCell ⟨B,1,none⟩ v1).setCell ⟨B,2,none⟩ v2).setCell ⟨B,3,none⟩ v3).cell? ⟨B,3,none⟩=some v3:=by
 have n (i j:Nat) (h:i≠j):(⟨B,i,none⟩:Addr)≠⟨B,j,none⟩:=by intro e; injection e; omega
 refine ⟨?_,?_,?_,?_⟩
 ·rw [World.cell?_setCell_other _ _ _ _ (n 3 0 (by omega)),World.cell?_setCell_other _ _ _ _ (n 2 0 (by omega)),World.cell?_setCell_other _ _ _ _ (n 1 0 (by omega))]
  exact World.cell?_setCell_same _ _ _ h0
 ·rw [World.cell?_setCell_other _ _ _ _ (n 3 1 (by omega)),World.cell?_setCell_other _ _ _ _ (n 2 1 (by omega))]
  exact World.cell?_setCell_same _ _ _ ((World.cell?_setCell_other _ _ _ _ (n 0 1 (by omega))).trans h1)
 ·rw [World.cell?_setCell_other _ _ _ _ (n 3 2 (by omega))]
  exact World.cell?_setCell_same _ _ _ ((World.cell?_setCell_other _ _ _ _ (n 1 2 (by omega))).trans ((World.cell?_setCell_other _ _ _ _ (n 0 2 (by omega))).trans h2))
 ·exact World.cell?_setCell_same _ _ _ ((World.cell?_setCell_other _ _ _ _ (n 2 3 (by omega))).trans ((World.cell?_setCell_other _ _ _ _ (n 1 3 (by omega))).trans ((World.cell?_setCell_other _ _ _ _ (n 0 3 (by omega))).trans h3)))
theorem set4_below {w W:World} {B C:Nat} (hb:Below B w W) (h:B≤C) (v0 v1 v2 v3:Value):Below B w ((((W.setCell ⟨C,0,none⟩ v0).setCell ⟨C,1,none⟩ v1).setCell ⟨C,2,none⟩ v2).setCell ⟨C,3,none⟩ v3):=
 (((hb.setCell (p:=⟨C,0,none⟩) h v0).setCell (p:=⟨C,1,none⟩) h v1).setCell (p:=⟨C,2,none⟩) h v2).setCell (p:=⟨C,3,none⟩) h v3
/-- A token, or an error, as two results. -/
def tokV (s:ByteArray) (i:Nat):TkR→Value
 | .er f=>.tuple #[.agg #[.int .i64 0,.string ⟨#[]⟩,.int .i64 0,.int .i64 0],.int .i64 (f:Nat)]
 | .ok k n v=>.tuple #[.agg #[.int .i64 k,.string (subB s i n),.int .i64 (v:Nat),.int .i64 (i:Nat)],.int .i64 0]
theorem ext_sub (s:ByteArray) (a n:Nat):s.extract a (a+n)=subB s a n:=by
 have h:=Lib.extract_data s a (a+n)
 rw [Nat.add_sub_cancel_left] at h
 unfold subB
 rw [← h]
theorem str_slice (s:ByteArray) (i k:Nat) (h1:i≤k) (h2:k≤s.size) (W:World):(Instr.slice 9 (.string s) (some (.int .i64 (i:Nat))) (some (.int .i64 (k:Nat))) none).run Tryz.prog W=.ok (.string (s.extract i k)) W:=by
 rw [run_slice_string_if _ _ _ _ _ _ _ Tryz.underlying9,if_pos (by omega),if_pos (by omega)]
 simp
set_option maxRecDepth 100000 in
set_option maxHeartbeats 1600000 in
theorem name_any (s:ByteArray) (i:Nat) (hi:i≤s.size) (hs:s.size≤140737488355328) (w:World):Calls Tryz.prog 48 #[.string s,.int .i64 (i:Nat)] w (Ret (tokV s i (nameT (s.data.toList.drop i))) w):=by
 have HE:=Lib.hid (fun W=>end_any 81 inB (fun args W=>by kernel_rfl) in_any s i hi hs W)
 have hle:=runN_le inB (s.data.toList.drop i)
 rw [List.length_drop,Array.length_toList] at hle
 have hsz:s.size=s.data.size:=rfl
 have HX:=Lib.hid (ext_sub s i (runN inB (s.data.toList.drop i)))
 have HR:Hid (nameT (s.data.toList.drop i)=if 30<runN inB (s.data.toList.drop i) then .er 5 else .ok 1 (runN inB (s.data.toList.drop i)) 0):=Lib.hid rfl
 generalize nameT (s.data.toList.drop i)=R at HR ⊢
 generalize runN inB (s.data.toList.drop i)=r at HE hle HX HR
 obtain ⟨k,hk⟩:∃ k,k=i+r:=⟨_,rfl⟩
 rw [← hk] at HE HX
 unfold RetP at HE
 unfold Ret
 have hi0:(0:Int)≤(i:Int):=by omega
 have hik:(i:Int)≤(k:Int):=by omega
 have hks:(k:Int)≤(s.size:Int):=by omega
 have hw:IntKind.i64.wrap ((k:Int) - (i:Int))=(k:Int) - (i:Int):=by rw [IntKind.wrap_i64]; omega
 have hO:=one_new w #[.int .i64 0,.string ⟨#[]⟩,.int .i64 0,.int .i64 0] 69
 have hF:∀ j,(w.alloc (.cells #[.int .i64 0,.string ⟨#[]⟩,.int .i64 0,.int .i64 0] 69)).frozen? ⟨w.heap.size,j,none⟩=false:=fun j=>by simp
 by_cases h30:30<r
 ·have e1:decide ((k:Int) - (i:Int) > 30)=true:=decide_eq_true (by omega)
  have e2:decide (30<(k:Int) - (i:Int))=true:=decide_eq_true (by omega)
  have HV:Hid (R=.er 5):=Lib.hid (by rw [HR.out,if_pos h30])
  clear h30 hk hle HR
  go_enter Tryz.func48,Tryz.ntmps48
  go_upto_region 1 with fail
  generalize w.alloc _=w1 at hO hF ⊢
  obtain ⟨d0,d1,d2,d3⟩:=bx4 hO.fst
  have f0:=hF 0
  have f1:=hF 1
  have f2:=hF 2
  have f3:=hF 3
  have D0:=Lib.hid d0
  have D1:=Lib.hid d1
  have D2:=Lib.hid d2
  have D3:=Lib.hid d3
  have HB:=Lib.hid hO.below
  clear hO hF
  go_wp2_with (go_at_call 80; refine (HE.out _).mono ?_; rintro e W5 ⟨rfl,hw⟩; obtain rfl:w1=W5:=hw.symm)
  obtain ⟨q0,q1,q2,q3⟩:=set4 D0.out D1.out D2.out D3.out (.int .i64 0) (.string ⟨#[]⟩) (.int .i64 0) (.int .i64 0)
  have hby:=set4_below HB.out (Nat.le_refl _) (.int .i64 0) (.string ⟨#[]⟩) (.int .i64 0) (.int .i64 0)
  generalize World.setCell _ _ _=w6 at q0 q1 q2 q3 hby ⊢
  refine bodyPost_ret (v:=.tuple #[.agg #[.int .i64 0,.string ⟨#[]⟩,.int .i64 0,.int .i64 0],.int .i64 5]) (by rw [results_cell_tmp rfl]; go_simp) rfl ⟨by rw [HV.out]; rfl,hby⟩
 ·have e1:decide ((k:Int) - (i:Int) > 30)=false:=decide_eq_false (by omega)
  have e2:decide (30<(k:Int) - (i:Int))=false:=decide_eq_false (by omega)
  have HV:Hid (R=.ok 1 r 0):=Lib.hid (by rw [HR.out,if_neg h30])
  have HTX:Hid (tokV s i (.ok 1 r 0)=.tuple #[.agg #[.int .i64 1,.string (s.extract i k),.int .i64 0,.int .i64 (i:Nat)],.int .i64 0]):=Lib.hid (by unfold tokV; rw [HX.out]; rfl)
  have hsl:=fun W=>str_slice s i k (by omega) (by omega) W
  clear h30 hk hle HR
  go_enter Tryz.func48,Tryz.ntmps48
  go_upto_region 1 with fail
  generalize w.alloc _=w1 at hO hF ⊢
  obtain ⟨d0,d1,d2,d3⟩:=bx4 hO.fst
  have f0:=hF 0
  have f1:=hF 1
  have f2:=hF 2
  have f3:=hF 3
  have D0:=Lib.hid d0
  have D1:=Lib.hid d1
  have D2:=Lib.hid d2
  have D3:=Lib.hid d3
  have HB:=Lib.hid hO.below
  clear hO hF
  go_wp2_with (go_at_call 80; refine (HE.out _).mono ?_; rintro e W5 ⟨rfl,hw⟩; obtain rfl:w1=W5:=hw.symm)
  obtain ⟨q0,q1,q2,q3⟩:=set4 D0.out D1.out D2.out D3.out (.int .i64 1) (.string (s.extract i k)) (.int .i64 0) (.int .i64 (i:Nat))
  have hby:=set4_below HB.out (Nat.le_refl _) (.int .i64 1) (.string (s.extract i k)) (.int .i64 0) (.int .i64 (i:Nat))
  generalize World.setCell _ _ _=w6 at q0 q1 q2 q3 hby ⊢
  refine bodyPost_ret (v:=.tuple #[.agg #[.int .i64 1,.string (s.extract i k),.int .i64 0,.int .i64 (i:Nat)],.int .i64 0]) (by rw [results_cell_tmp rfl]; go_simp) rfl ⟨by rw [HV.out,HTX.out],hby⟩
end Go.Proofs.YtmbffkemfepekaaGreatDoor

namespace Go.Proofs.YtmbffkemfepekaaGreatDoor
open Go.RowKit
theorem numV_snoc (l:List UInt8) (c:UInt8):numV (l++[c])=numV l * 10+(c.toNat - 48):=by unfold numV; rw [List.foldl_append]; rfl
theorem numV_take (s:ByteArray) (j:Nat) (h:j<s.size):numV (s.data.toList.take (j+1))=numV (s.data.toList.take j) * 10+((s[j]'h).toNat - 48):=by
 rw [List.take_add_one,get_list s j h]
 exact numV_snoc _ _
theorem numV_app:∀ (m l:List UInt8),numV l≤numV (l++m)
 | [],l=>by simp
 | c::m,l=>by
  have h1:=numV_app m (l++[c])
  rw [numV_snoc,List.append_assoc] at h1
  have h2:l++([c]++m)=l++c::m:=rfl
  rw [h2] at h1
  omega
theorem numV_mono (l:List UInt8) (j:Nat):numV (l.take j)≤numV l:=by
 have:=numV_app (l.drop j) (l.take j)
 rwa [List.take_append_drop] at this
theorem run_all (p:UInt8→Bool):∀ (l:List UInt8),∀ c∈l.take (runN p l),p c=true
 | [],c,h=>by simp [runN] at h
 | a::l,c,h=>by
  rw [runN] at h
  split at h
  ·next ha=>
   rw [List.take_succ_cons] at h
   rcases List.mem_cons.1 h with rfl | h
   ·exact ha
   ·exact run_all p l c h
  ·simp at h
set_option maxRecDepth 100000 in
set_option maxHeartbeats 6400000 in
theorem numTok_any (s:ByteArray) (i:Nat) (hi:i≤s.size) (hs:s.size≤140737488355328) (w:World):Calls Tryz.prog 50 #[.string s,.int .i64 (i:Nat)] w (Ret (tokV s i (numT (s.data.toList.drop i))) w):=by
 have HE:=Lib.hid (fun W=>end_any 49 digB (fun args W=>by kernel_rfl) dig_any s i hi hs W)
 have hle:=runN_le digB (s.data.toList.drop i)
 rw [List.length_drop,Array.length_toList] at hle
 have hsz:s.size=s.data.size:=rfl
 have hX:=ext_sub s i (runN digB (s.data.toList.drop i))
 have HRA:=Lib.hid (run_all digB (s.data.toList.drop i))
 have HR:Hid (numT (s.data.toList.drop i)=if badN (s.data.toList.drop i) then .er 3 else if 1099511627776<numV ((s.data.toList.drop i).take (runN digB (s.data.toList.drop i))) then .er 2 else .ok 2 (runN digB (s.data.toList.drop i)) (numV ((s.data.toList.drop i).take (runN digB (s.data.toList.drop i))))):=Lib.hid rfl
 have HBN:Hid (badN (s.data.toList.drop i)=((decide (1<runN digB (s.data.toList.drop i)) && (match s.data.toList.drop i with | []=>false | c::_=>c.toNat == 48)) || (match (s.data.toList.drop i).drop (runN digB (s.data.toList.drop i)) with | []=>false | c::_=>letB c || c.toNat == 95))):=Lib.hid rfl
 generalize numT (s.data.toList.drop i)=R at HR ⊢
 generalize hr:runN digB (s.data.toList.drop i)=r at HE hle hX HR HBN HRA
 obtain ⟨k,hk⟩:∃ k,k=i+r:=⟨_,rfl⟩
 rw [← hk] at HE hX
 have HDK:Hid ((s.data.toList.drop i).drop r=s.data.toList.drop k):=Lib.hid (by rw [List.drop_drop,hk])
 rw [HDK.out] at HBN
 obtain ⟨tx,htx⟩:∃ tx,tx=s.extract i k:=⟨_,rfl⟩
 have HTL:Hid (tx.data.toList=(s.data.toList.drop i).take r):=Lib.hid (by rw [htx,Lib.extract_data,show k - i=r from by omega])
 have HTS:Hid (tx.size=r):=Lib.hid (by
  have h1:tx.size=tx.data.toList.length:=by rw [Array.length_toList]; rfl
  rw [h1,HTL.out,List.length_take,List.length_drop,Array.length_toList]; omega)
 have HX:Hid (subB s i r=tx):=Lib.hid (by rw [htx,hX])
 have hsl:∀ W,(Instr.slice 9 (.string s) (some (.int .i64 (i:Nat))) (some (.int .i64 (k:Nat))) none).run Tryz.prog W=.ok (.string tx) W:=fun W=>by rw [htx]; exact str_slice s i k (by omega) (by omega) W
 have HDG:Hid (∀ (j:Nat) (h:j<tx.size),48≤(tx[j]'h).toNat∧(tx[j]'h).toNat≤57):=Lib.hid (fun j h=>by
  have h1:=List.mem_of_getElem? (get_list tx j h)
  rw [HTL.out] at h1
  have h2:=HRA.out _ h1
  unfold digB at h2
  simpa using h2)
 rw [← HTL.out] at HR
 have HHD:Hid (∀ h:0<tx.size,(match s.data.toList.drop i with | []=>false | c::_=>c.toNat == 48)=((tx[0]'h).toNat == 48)):=Lib.hid (fun h=>by
  have h1:=get_list tx 0 h
  rw [HTL.out] at h1
  cases hd:s.data.toList.drop i with
  | nil=>rw [hd] at h1; simp at h1
  | cons c q=>
   rw [hd] at h1
   have hr0:0<r:=by have:=HTS.out; omega
   obtain ⟨r',rfl⟩:∃ r',r=r'+1:=⟨r - 1,by omega⟩
   simp at h1
   simp [h1])
 have HNO:Hid (¬ k<s.size→(match s.data.toList.drop k with | []=>false | c::_=>letB c || c.toNat == 95)=false):=Lib.hid (fun h=>by rw [List.drop_of_length_le (by rw [Array.length_toList]; omega)])
 have HYS:Hid (∀ h:k<s.size,(match s.data.toList.drop k with | []=>false | c::_=>letB c || c.toNat == 95)=(letB (s[k]'h) || (s[k]'h).toNat == 95)):=Lib.hid (fun h=>by rw [run_at s k h])
 unfold RetP at HE
 unfold Ret
 have hi0:(0:Int)≤(i:Int):=by omega
 have hkz:k≤s.size:=by omega
 have hr47:r≤140737488355328:=by omega
 have htz:(tx.size:Int)=(r:Int):=by rw [HTS.out]
 have HTZ:=Lib.hid htz
 clear hX htx hr hk hle htz hsz
 generalize badN (s.data.toList.drop i)=BN at HR HBN
 have hO:=one_new w #[.int .i64 0,.string ⟨#[]⟩,.int .i64 0,.int .i64 0] 69
 have hF:∀ j,(w.alloc (.cells #[.int .i64 0,.string ⟨#[]⟩,.int .i64 0,.int .i64 0] 69)).frozen? ⟨w.heap.size,j,none⟩=false:=fun j=>by simp
 go_enter Tryz.func50,Tryz.ntmps50
 go_upto_region 1 with fail
 generalize w.alloc _=w1 at hO hF ⊢
 obtain ⟨d0,d1,d2,d3⟩:=bx4 hO.fst
 have f0:=hF 0
 have f1:=hF 1
 have f2:=hF 2
 have f3:=hF 3
 have D0:=Lib.hid d0
 have D1:=Lib.hid d1
 have D2:=Lib.hid d2
 have D3:=Lib.hid d3
 have HB:=Lib.hid hO.below
 have HF:=Lib.hid hF
 clear hO hF
 go_upto_region 3 with (go_at_call 80; refine (HE.out _).mono ?_; rintro e W5 ⟨rfl,hw⟩; obtain rfl:w1=W5:=hw.symm)
 clear d0 d1 d2 d3 f0 f1 f2 f3
 go_cut [42] (fun b42 wx=>b42=.bool BN∧wx=w1)
 case first=>
  by_cases h1r:1<r
  ·have hts1:0<tx.size:=by rw [HTS.out]; omega
   have a1:decide ((tx.size:Int) > 1)=true:=decide_eq_true (by have:=HTZ.out; omega)
   have a2:decide (1<(tx.size:Int))=true:=decide_eq_true (by have:=HTZ.out; omega)
   have a3:decide (1<tx.size)=true:=decide_eq_true (by have:=HTS.out; omega)
   have a4:(0:Int)<(tx.size:Int):=by omega
   have HH:=Lib.hid (HHD.out hts1)
   by_cases h48:((tx[0]'hts1).toNat)=48
   ·have b1:((((tx[0]'hts1).toNat):Int) == 48)=true:=by simpa using (by omega:(((tx[0]'hts1).toNat):Int)=48)
    have b2:(((tx[0]'hts1).toNat) == 48)=true:=by simpa using h48
    have HZ:Hid ((decide (1<r) && (match s.data.toList.drop i with | []=>false | c::_=>c.toNat == 48))=true):=Lib.hid (by rw [HH.out,b2,decide_eq_true h1r]; rfl)
    clear h48 h1r
    have HV:Hid (BN=true):=Lib.hid (by rw [HBN.out,HZ.out]; rfl)
    clear HBN
    go_wp2_with fail
    go_meet
    case rel=>exact ⟨by rw [HV.out],rfl⟩
   ·have b1:((((tx[0]'hts1).toNat):Int) == 48)=false:=by simpa using (by omega:¬ (((tx[0]'hts1).toNat):Int)=48)
    have b2:(((tx[0]'hts1).toNat) == 48)=false:=by simpa using h48
    have HZ:Hid ((decide (1<r) && (match s.data.toList.drop i with | []=>false | c::_=>c.toNat == 48))=false):=Lib.hid (by rw [HH.out,b2]; simp)
    clear h48 h1r
    by_cases hks:k<s.size
    rotate_left
    ·have k1:decide ((k:Int)<(s.size:Int))=false:=decide_eq_false (by omega)
     have k2:decide (k<s.size)=false:=decide_eq_false hks
     have HNK:=Lib.hid (HNO.out hks)
     have HV:Hid (BN=false):=Lib.hid (by rw [HBN.out,HZ.out,HNK.out]; rfl)
     clear HBN
     go_wp2_with fail
     go_meet
     case rel=>exact ⟨by rw [HV.out],rfl⟩
    ·have k1:decide ((k:Int)<(s.size:Int))=true:=decide_eq_true (by omega)
     have k2:decide (k<s.size)=true:=decide_eq_true hks
     have k3:(k:Int)<(s.size:Int):=by omega
     have HYK:=Lib.hid (HYS.out hks)
     have HLT:=Lib.hid (fun W=>ltr_any (s[k]'hks) W)
     unfold RetP at HLT
     have k0:(0:Int)≤(k:Int):=by omega
     generalize hlb:letB (s[k]'hks)=lb at HLT HYK
     clear hlb
     cases lb with
     | true=>
      have HV:Hid (BN=true):=Lib.hid (by rw [HBN.out,HZ.out,HYK.out]; rfl)
      clear HBN
      go_wp2_with (go_at_call 47; refine (HLT.out _).mono ?_; rintro e W5 ⟨rfl,hw⟩; obtain rfl:w1=W5:=hw.symm)
      go_meet
      case rel=>exact ⟨by rw [HV.out],rfl⟩
     | false=>
      by_cases h95:((s[k]'hks).toNat)=95
      ·have m1:((((s[k]'hks).toNat):Int) == 95)=true:=by simpa using (by omega:(((s[k]'hks).toNat):Int)=95)
       have m2:(((s[k]'hks).toNat) == 95)=true:=by simpa using h95
       have HYQ:Hid ((match s.data.toList.drop k with | []=>false | c::_=>letB c || c.toNat == 95)=true):=Lib.hid (by rw [HYK.out,m2]; rfl)
       clear h95
       have HV:Hid (BN=true):=Lib.hid (by rw [HBN.out,HZ.out,HYQ.out]; rfl)
       clear HBN
       go_wp2_with (go_at_call 47; refine (HLT.out _).mono ?_; rintro e W5 ⟨rfl,hw⟩; obtain rfl:w1=W5:=hw.symm)
       go_meet
       case rel=>exact ⟨by rw [HV.out],rfl⟩
      ·have m1:((((s[k]'hks).toNat):Int) == 95)=false:=by simpa using (by omega:¬ (((s[k]'hks).toNat):Int)=95)
       have m2:(((s[k]'hks).toNat) == 95)=false:=by simpa using h95
       have HYQ:Hid ((match s.data.toList.drop k with | []=>false | c::_=>letB c || c.toNat == 95)=false):=Lib.hid (by rw [HYK.out,m2]; rfl)
       clear h95
       have HV:Hid (BN=false):=Lib.hid (by rw [HBN.out,HZ.out,HYQ.out]; rfl)
       clear HBN
       go_wp2_with (go_at_call 47; refine (HLT.out _).mono ?_; rintro e W5 ⟨rfl,hw⟩; obtain rfl:w1=W5:=hw.symm)
       go_meet
       case rel=>exact ⟨by rw [HV.out],rfl⟩
  ·have a1:decide ((tx.size:Int) > 1)=false:=decide_eq_false (by have:=HTZ.out; omega)
   have a2:decide (1<(tx.size:Int))=false:=decide_eq_false (by have:=HTZ.out; omega)
   have a3:decide (1<tx.size)=false:=decide_eq_false (by have:=HTS.out; omega)
   have HZ:Hid ((decide (1<r) && (match s.data.toList.drop i with | []=>false | c::_=>c.toNat == 48))=false):=Lib.hid (by rw [decide_eq_false h1r]; rfl)
   clear h1r
   by_cases hks:k<s.size
   rotate_left
   ·have k1:decide ((k:Int)<(s.size:Int))=false:=decide_eq_false (by omega)
    have k2:decide (k<s.size)=false:=decide_eq_false hks
    have HNK:=Lib.hid (HNO.out hks)
    have HV:Hid (BN=false):=Lib.hid (by rw [HBN.out,HZ.out,HNK.out]; rfl)
    clear HBN
    go_wp2_with fail
    go_meet
    case rel=>exact ⟨by rw [HV.out],rfl⟩
   ·have k1:decide ((k:Int)<(s.size:Int))=true:=decide_eq_true (by omega)
    have k2:decide (k<s.size)=true:=decide_eq_true hks
    have k3:(k:Int)<(s.size:Int):=by omega
    have HYK:=Lib.hid (HYS.out hks)
    have HLT:=Lib.hid (fun W=>ltr_any (s[k]'hks) W)
    unfold RetP at HLT
    have k0:(0:Int)≤(k:Int):=by omega
    generalize hlb:letB (s[k]'hks)=lb at HLT HYK
    clear hlb
    cases lb with
    | true=>
     have HV:Hid (BN=true):=Lib.hid (by rw [HBN.out,HZ.out,HYK.out]; rfl)
     clear HBN
     go_wp2_with (go_at_call 47; refine (HLT.out _).mono ?_; rintro e W5 ⟨rfl,hw⟩; obtain rfl:w1=W5:=hw.symm)
     go_meet
     case rel=>exact ⟨by rw [HV.out],rfl⟩
    | false=>
     by_cases h95:((s[k]'hks).toNat)=95
     ·have m1:((((s[k]'hks).toNat):Int) == 95)=true:=by simpa using (by omega:(((s[k]'hks).toNat):Int)=95)
      have m2:(((s[k]'hks).toNat) == 95)=true:=by simpa using h95
      have HYQ:Hid ((match s.data.toList.drop k with | []=>false | c::_=>letB c || c.toNat == 95)=true):=Lib.hid (by rw [HYK.out,m2]; rfl)
      clear h95
      have HV:Hid (BN=true):=Lib.hid (by rw [HBN.out,HZ.out,HYQ.out]; rfl)
      clear HBN
      go_wp2_with (go_at_call 47; refine (HLT.out _).mono ?_; rintro e W5 ⟨rfl,hw⟩; obtain rfl:w1=W5:=hw.symm)
      go_meet
      case rel=>exact ⟨by rw [HV.out],rfl⟩
     ·have m1:((((s[k]'hks).toNat):Int) == 95)=false:=by simpa using (by omega:¬ (((s[k]'hks).toNat):Int)=95)
      have m2:(((s[k]'hks).toNat) == 95)=false:=by simpa using h95
      have HYQ:Hid ((match s.data.toList.drop k with | []=>false | c::_=>letB c || c.toNat == 95)=false):=Lib.hid (by rw [HYK.out,m2]; rfl)
      clear h95
      have HV:Hid (BN=false):=Lib.hid (by rw [HBN.out,HZ.out,HYQ.out]; rfl)
      clear HBN
      go_wp2_with (go_at_call 47; refine (HLT.out _).mono ?_; rintro e W5 ⟨rfl,hw⟩; obtain rfl:w1=W5:=hw.symm)
      go_meet
      case rel=>exact ⟨by rw [HV.out],rfl⟩
 case rest=>
  obtain ⟨rfl,rfl⟩:=hcut
  have f0:=HF.out 0
  have f1:=HF.out 1
  have f2:=HF.out 2
  have f3:=HF.out 3
  have d0:=D0.out
  have d1:=D1.out
  have d2:=D2.out
  have d3:=D3.out
  cases BN with
  | true=>
   have HV:Hid (R=.er 3):=Lib.hid (by rw [HR.out]; rfl)
   go_wp2_with fail
   obtain ⟨q0,q1,q2,q3⟩:=set4 D0.out D1.out D2.out D3.out (.int .i64 0) (.string ⟨#[]⟩) (.int .i64 0) (.int .i64 0)
   have hby:=set4_below HB.out (Nat.le_refl _) (.int .i64 0) (.string ⟨#[]⟩) (.int .i64 0) (.int .i64 0)
   generalize World.setCell _ _ _=w6 at q0 q1 q2 q3 hby ⊢
   refine bodyPost_ret (v:=.tuple #[.agg #[.int .i64 0,.string ⟨#[]⟩,.int .i64 0,.int .i64 0],.int .i64 3]) (by rw [results_cell_tmp rfl]; go_simp) rfl ⟨by rw [HV.out]; rfl,hby⟩
  | false=>
   have HGD:Hid (R=if 1099511627776<numV tx.data.toList then .er 2 else .ok 2 r (numV tx.data.toList)):=Lib.hid (by rw [HR.out]; rfl)
   go_wp2_with fail
   go_loopw [5,8,46] (fun er nv iv wr=>er=.int .i64 0∧wr=wc∧∃ j:Nat,iv=.int .i64 (j:Nat)∧j≤r∧nv=.int .i64 (numV (tx.data.toList.take j):Nat)∧numV (tx.data.toList.take j)≤1099511627776) (fun _ _ iv _=>r - (intOf iv).toNat)
   case atStart=>exact ⟨rfl,rfl,0,rfl,Nat.zero_le _,rfl,by simp [numV]⟩
   case round=>
    obtain ⟨rfl,rfl,j,rfl,hj,rfl,hnv⟩:=hrel
    have hj0:(0:Int)≤(j:Int):=by omega
    have hwr1:IntKind.i64.wrap ((j:Int)+1)=(j:Int)+1:=by rw [IntKind.wrap_i64]; omega
    by_cases hlt:j<r
    ·have hts:j<tx.size:=by rw [HTS.out]; exact hlt
     have hts0:(j:Int)<(tx.size:Int):=by omega
     have hd1:decide ((j:Int)<(tx.size:Int))=true:=decide_eq_true (by omega)
     have hd2:decide (j<tx.size)=true:=decide_eq_true hts
     have hdg:=HDG.out j hts
     have HNX:Hid (numV (tx.data.toList.take (j+1))=numV (tx.data.toList.take j) * 10+((tx[j]'hts).toNat - 48)):=Lib.hid (numV_take tx j hts)
     have HMO:Hid (numV (tx.data.toList.take (j+1))≤numV tx.data.toList):=Lib.hid (numV_mono tx.data.toList (j+1))
     generalize numV (tx.data.toList.take j)=n at hnv HNX
     have hwu:((((tx[j]'hts).toNat):Int) - 48) % 256=(((tx[j]'hts).toNat):Int) - 48:=by omega
     have hw3:IntKind.i64.wrap ((((tx[j]'hts).toNat):Int) - 48)=(((tx[j]'hts).toNat):Int) - 48:=by rw [IntKind.wrap_i64]; omega
     have hw4:IntKind.i64.wrap ((n:Int) * 10)=(n:Int) * 10:=by rw [IntKind.wrap_i64]; omega
     have hw5:IntKind.i64.wrap ((n:Int) * 10+((((tx[j]'hts).toNat):Int) - 48))=(n:Int) * 10+((((tx[j]'hts).toNat):Int) - 48):=by rw [IntKind.wrap_i64]; omega
     by_cases hbig:1099511627776<n * 10+(((tx[j]'hts).toNat) - 48)
     ·have g1:decide ((n:Int) * 10+((((tx[j]'hts).toNat):Int) - 48) > 1099511627776)=true:=decide_eq_true (by omega)
      have g2:decide (1099511627776<(n:Int) * 10+((((tx[j]'hts).toNat):Int) - 48))=true:=decide_eq_true (by omega)
      have HV:Hid (R=.er 2):=Lib.hid (by rw [HGD.out,if_pos (by have h1:=HNX.out; have h2:=HMO.out; omega)])
      clear hbig
      go_wp2_with fail
      obtain ⟨q0,q1,q2,q3⟩:=set4 D0.out D1.out D2.out D3.out (.int .i64 0) (.string ⟨#[]⟩) (.int .i64 0) (.int .i64 0)
      have hby:=set4_below HB.out (Nat.le_refl _) (.int .i64 0) (.string ⟨#[]⟩) (.int .i64 0) (.int .i64 0)
      generalize World.setCell _ _ _=w6 at q0 q1 q2 q3 hby ⊢
      refine bodyPost_ret (v:=.tuple #[.agg #[.int .i64 0,.string ⟨#[]⟩,.int .i64 0,.int .i64 0],.int .i64 2]) (by rw [results_cell_tmp rfl]; go_simp) rfl ⟨by rw [HV.out]; rfl,hby⟩
     ·have g1:decide ((n:Int) * 10+((((tx[j]'hts).toNat):Int) - 48) > 1099511627776)=false:=decide_eq_false (by omega)
      have g2:decide (1099511627776<(n:Int) * 10+((((tx[j]'hts).toNat):Int) - 48))=false:=decide_eq_false (by omega)
      have HN2:Hid (numV (tx.data.toList.take (j+1))≤1099511627776):=Lib.hid (by rw [HNX.out]; omega)
      have HN3:Hid (((numV (tx.data.toList.take (j+1)):Nat):Int)=(n:Int) * 10+((((tx[j]'hts).toNat):Int) - 48)):=Lib.hid (by rw [HNX.out]; omega)
      clear hbig
      go_wp2_with fail
      exact ⟨⟨rfl,by first | rfl | exact True.intro,j+1,by go_num,by omega,by rw [HN3.out],HN2.out⟩,by simp [intOf]; omega⟩
    ·have hts0:¬ j<tx.size:=by rw [HTS.out]; exact hlt
     have hd1:decide ((j:Int)<(tx.size:Int))=false:=decide_eq_false (by omega)
     have hd2:decide (j<tx.size)=false:=decide_eq_false hts0
     have HNT:Hid (numV (tx.data.toList.take j)=numV tx.data.toList):=Lib.hid (by rw [List.take_of_length_le (by rw [Array.length_toList]; show tx.size≤j; omega)])
     have HV:Hid (R=.ok 2 r (numV (tx.data.toList.take j))):=Lib.hid (by rw [HGD.out,if_neg (by have h1:=HNT.out; omega),HNT.out])
     generalize numV (tx.data.toList.take j)=n at hnv HV
     have HTX:Hid (tokV s i (.ok 2 r n)=.tuple #[.agg #[.int .i64 2,.string tx,.int .i64 (n:Nat),.int .i64 (i:Nat)],.int .i64 0]):=Lib.hid (by show Value.tuple #[.agg #[.int .i64 2,.string (subB s i r),.int .i64 (n:Nat),.int .i64 (i:Nat)],.int .i64 0]=_; rw [HX.out])
     go_wp2_with fail
     obtain ⟨q0,q1,q2,q3⟩:=set4 D0.out D1.out D2.out D3.out (.int .i64 2) (.string tx) (.int .i64 (n:Nat)) (.int .i64 (i:Nat))
     have hby:=set4_below HB.out (Nat.le_refl _) (.int .i64 2) (.string tx) (.int .i64 (n:Nat)) (.int .i64 (i:Nat))
     generalize World.setCell _ _ _=w6 at q0 q1 q2 q3 hby ⊢
     refine bodyPost_ret (v:=.tuple #[.agg #[.int .i64 2,.string tx,.int .i64 (n:Nat),.int .i64 (i:Nat)],.int .i64 0]) (by rw [results_cell_tmp rfl]; go_simp) rfl ⟨by rw [HV.out,HTX.out],hby⟩
end Go.Proofs.YtmbffkemfepekaaGreatDoor
