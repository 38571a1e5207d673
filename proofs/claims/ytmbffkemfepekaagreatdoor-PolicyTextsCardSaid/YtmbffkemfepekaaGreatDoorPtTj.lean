/- The reference parser's digits, walked. Conditions: none but the text's size. -/
import Derived.Test.YtmbffkemfepekaaGreatDoorPtRfb
import Derived.Test.YtmbffkemfepekaaGreatDoorPtAwk
import Derived.Test.YtmbffkemfepekaaGreatDoorPtRtM
import Derived.WalkLawsBesides
import Derived.Lib.QuietBelow
import Derived.BigQuiet
namespace Go.Proofs.YtmbffkemfepekaaGreatDoor
open Go.RowKit Go.Sort
/-- Digits without a zero ahead are the digits of their value. -/
theorem canon:∀ (m:Nat) (l:List UInt8),l.length=m→(∀ c∈l,48≤c.toNat∧c.toNat≤57)→l≠[]→(l.length=1∨∀ c r,l=c::r→c.toNat≠48)→∀ f,numV l<10 ^ (f+1)→decF (f+1) (numV l)=l:=by
 intro m
 induction m with
 | zero=>intro l hl _ hne; exact absurd (List.eq_nil_of_length_eq_zero hl) hne
 | succ m ih=>
  intro l hl hd hne hh f hf
  obtain ⟨l',c,rfl⟩:∃ l' c,l=l'++[c]:=⟨l.dropLast,l.getLast hne,(List.dropLast_concat_getLast hne).symm⟩
  have hc:=hd c (by simp)
  rw [numV_snoc] at hf ⊢
  rw [List.length_append,List.length_singleton] at hl
  by_cases h0:l'=[]
  ·subst h0
   have h1:numV [] * 10+(c.toNat - 48)<10:=by show 0 * 10+_<10; omega
   rw [decF,if_pos h1]
   have h2:48+(numV [] * 10+(c.toNat - 48))=c.toNat:=by show 48+(0 * 10+_)=_; omega
   rw [h2]
   simp
  ·have hd':∀ x∈l',48≤x.toNat∧x.toNat≤57:=fun x hx=>hd x (by simp [hx])
   have hm:1≤l'.length:=List.length_pos_iff.2 h0
   obtain ⟨a,r,hl'⟩:∃ a r,l'=a::r:=by cases l' with | nil=>exact absurd rfl h0 | cons a r=>exact ⟨a,r,rfl⟩
   have ha:a.toNat≠48:=by
    rcases hh with h | h
    ·rw [List.length_append,List.length_singleton] at h; omega
    ·exact h a (r++[c]) (by rw [hl']; rfl)
   have ha2:=hd' a (by rw [hl']; simp)
   have hv:1≤numV l':=by
    have:=numV_app r [a]
    rw [show [a]++r=l' from hl'.symm] at this
    have h2:numV [a]=a.toNat - 48:=by show 0 * 10+_=_; omega
    omega
   have hq:¬ numV l' * 10+(c.toNat - 48)<10:=by omega
   have hdv:(numV l' * 10+(c.toNat - 48)) / 10=numV l':=by omega
   have hmd:(numV l' * 10+(c.toNat - 48)) % 10=c.toNat - 48:=by omega
   cases f with
   | zero=>simp at hf; omega
   | succ f=>
    rw [decF,if_neg hq,hdv,hmd,ih l' (by omega) hd' h0 (by
     by_cases h1:l'.length=1
     ·exact .inl h1
     ·right; intro x y e; rw [hl'] at e; injection e with e1 e2; rw [← e1]; exact ha) f (by rw [Nat.pow_succ] at hf; omega)]
    have h3:48+(c.toNat - 48)=c.toNat:=by omega
    rw [h3]
    simp
def dgB (t:Tk):Bool:=decide (0≤t.val) && decide (t.val≤1099511627776) && t.text.data.toList == decL t.val.toNat
theorem numK_dg (t:Tk):numK t=(t.kind == 2 && dgB t):=by unfold numK dgB; simp [Bool.and_assoc]
theorem dg_no {t:Tk} {j:Nat} (h:j<t.text.size) (hf:digB (t.text[j]'h)=false):dgB t=false:=by
 have hm:=List.mem_of_getElem? (get_list t.text j h)
 unfold dgB
 rw [Bool.and_eq_false_iff]
 right
 rw [← Bool.not_eq_true]
 intro he
 have he2:t.text.data.toList=decL t.val.toNat:=by simpa using he
 rw [he2] at hm
 have:=dec_dig 20 _ _ hm
 unfold digB at hf
 rw [decide_eq_true this.1,decide_eq_true this.2] at hf
 cases hf
/-- Whether the text is the digits of its value, as the reference asks. -/
theorem dg_all {t:Tk} (h:∀ (q:Nat) (hq:q<t.text.size),digB (t.text[q]'hq)=true):dgB t=((decide (0<t.text.size) && ((t.text.size == 1) || (match t.text.data.toList with | []=>false | c::_=>c.toNat != 48))) && (decide (0≤t.val) && (decide (t.val≤1099511627776) && ((numG t.text.data.toList 0:Nat) == t.val)))):=by
 have hl:t.text.data.toList.length=t.text.size:=by rw [Array.length_toList]; rfl
 have hd:∀ c∈t.text.data.toList,48≤c.toNat∧c.toNat≤57:=fun c hc=>by
  obtain ⟨i,hi,rfl⟩:=List.getElem_of_mem hc
  have h1:=h i (by omega)
  have h2:=get_list t.text i (by omega)
  rw [List.getElem?_eq_getElem hi,Option.some.injEq] at h2
  rw [h2]
  unfold digB at h1
  simpa using h1
 unfold dgB
 by_cases h0:0≤t.val
 ·by_cases h9:t.val≤1099511627776
  ·rw [decide_eq_true h0,decide_eq_true h9,Bool.true_and,Bool.true_and,Bool.true_and,Bool.true_and]
   obtain ⟨n,hn⟩:∃ n:Nat,t.val=n:=⟨t.val.toNat,by omega⟩
   rw [hn]
   have hn9:n≤1099511627776:=by omega
   rw [Int.toNat_natCast]
   generalize t.text.data.toList=l at hl hd ⊢
   generalize t.text.size=z at hl ⊢
   rw [← hl]
   rw [Bool.eq_iff_iff]
   simp only [beq_iff_eq,Bool.and_eq_true,Bool.or_eq_true,decide_eq_true_eq]
   constructor
   ·intro e
    subst e
    have h20:n<10 ^ 20:=by omega
    have hv:numV (decL n)=n:=num_dec 20 n h20
    refine ⟨⟨List.length_pos_iff.2 (dec_ne n),?_⟩,?_⟩
    ·cases hc:decL n with
     | nil=>exact absurd hc (dec_ne n)
     | cons c r=>
      rcases dec_head 19 n h20 c r hc with e | e
      ·left; rw [e]; rfl
      ·right; simpa using e
    ·rw [numG_eq _ (by rw [hv]; omega),hv]
   ·rintro ⟨⟨h1,h2⟩,h3⟩
    have h3':numG l 0=n:=by omega
    have h4:¬ 1099511627776<numV l:=by rw [numG_gt,h3']; omega
    rw [numG_eq l h4] at h3'
    have:=canon l.length l rfl hd (List.length_pos_iff.1 h1) (by
     rcases h2 with h2 | h2
     ·exact .inl h2
     ·right; intro c r e; subst e; simpa using h2) 19 (by omega)
    rw [h3'] at this
    exact this.symm
  ·rw [decide_eq_false h9]; simp
 ·rw [decide_eq_false h0]; simp
set_option maxRecDepth 100000 in
set_option maxHeartbeats 12800000 in
theorem rdigits_any (t:Tk) (hs:t.text.size≤140737488355328) (w:World):Calls Tryz.prog 187 #[tkV t] w (Ret (.bool (dgB t)) w):=by
 have HNO:=Lib.hid (fun (j:Nat) (h:j<t.text.size) (hf:digB (t.text[j]'h)=false)=>dg_no h hf)
 have HAL:=Lib.hid (fun (h:∀ (q:Nat) (hq:q<t.text.size),digB (t.text[q]'hq)=true)=>dg_all h)
 unfold tkV Ret
 generalize dgB t=R at HNO HAL ⊢
 obtain ⟨kd,tx,vl,ps⟩:=t
 simp only at hs HNO HAL ⊢
 have HHD:Hid (∀ h:0<tx.size,(match tx.data.toList with | []=>false | c::_=>c.toNat != 48)=((tx[0]'h).toNat != 48)):=Lib.hid (fun h=>by
  have h1:=run_at tx 0 h
  rw [List.drop_zero] at h1
  rw [h1])
 have HS:=Lib.hid hs
 have hO:=one_new w #[.int .i64 kd,.string tx,.int .i64 vl,.int .i64 (ps:Nat)] 69
 clear hs
 go_enter Tryz.func187,Tryz.ntmps187
 go_upto_region 1 with fail
 generalize w.alloc _=w1 at hO ⊢
 have HO:=Lib.hid hO
 clear hO
 go_wp2_with fail
 go_loopw [3] (fun iv wr=>∃ j:Nat,iv=.int .i64 (j:Nat)∧j≤tx.size∧Hid (∀ (q:Nat) (hq:q<tx.size),q<j→digB (tx[q]'hq)=true)∧Hid (Below w1.heap.size w1 wr)) (fun iv _=>tx.size - (intOf iv).toNat)
 case atStart=>exact ⟨0,rfl,Nat.zero_le _,Lib.hid (fun q _ h=>by omega),Lib.hid (Below.refl _ _)⟩
 case round=>
  obtain ⟨j,rfl,hj,HP,HB⟩:=hrel
  have hj0:(0:Int)≤(j:Int):=by omega
  have hwr1:IntKind.i64.wrap ((j:Int)+1)=(j:Int)+1:=by rw [IntKind.wrap_i64]; have:=HS.out; omega
  have HOR:=Lib.hid (HO.out.next HB.out)
  have HBW:=Lib.hid HOR.out.below
  obtain ⟨d0,d1,d2,d3⟩:=bx4 HOR.out.fst
  by_cases hlt:j<tx.size
  ·have hd1:decide ((j:Int)<(tx.size:Int))=true:=decide_eq_true (by omega)
   have hd2:decide (j<tx.size)=true:=decide_eq_true hlt
   have hjl:(j:Int)<(tx.size:Int):=by omega
   have HD:=Lib.hid (fun W=>rdig_any (tx[j]'hlt) W)
   have HN1:=Lib.hid (HNO.out j hlt)
   have HN2:Hid (digB (tx[j]'hlt)=true→∀ (q:Nat) (hq:q<tx.size),q<j+1→digB (tx[q]'hq)=true):=Lib.hid (fun h q hq h2=>by
    by_cases e:q=j
    ·subst e; exact h
    ·exact HP.out q hq (by omega))
   unfold RetP at HD
   generalize digB (tx[j]'hlt)=b at HD HN1 HN2
   go_wp2_with fail
   refine (HD.out _).mono ?_
   rintro e W5 ⟨rfl,hw⟩
   obtain rfl:wr=W5:=hw.symm
   cases b with
   | true=>
    have HN3:=Lib.hid (HN2.out rfl)
    clear HN1 HN2 HD
    go_wp2_with fail
    exact ⟨⟨j+1,by go_num,by omega,HN3,HB⟩,by simp [intOf]; omega⟩
   | false=>
    have HV:=Lib.hid (HN1.out rfl)
    clear HN1 HN2 HD
    go_wp2_with fail
    go_ret
    exact ⟨by rw [HV.out]; rfl,HBW.out⟩
  ·have hd1:decide ((j:Int)<(tx.size:Int))=false:=decide_eq_false (by omega)
   have hd2:decide (j<tx.size)=false:=decide_eq_false hlt
   have hdg:∀ (q:Nat) (hq:q<tx.size),digB (tx[q]'hq)=true:=fun q hq=>HP.out q hq (by omega)
   have HR:=Lib.hid (HAL.out hdg)
   have hdg2:∀ (j:Nat) (h:j<tx.size),48≤(tx[j]'h).toNat∧(tx[j]'h).toNat≤57:=fun j h=>by
    have:=hdg j h
    unfold digB at this
    simpa using this
   have HI0:=Lib.hid (fun W=>rnum_any tx HS.out hdg2 W)
   generalize numG tx.data.toList 0=gn at HI0 HR
   have HI:Hid (∀ d os,Calls Tryz.prog 86 #[.string tx] (grow (redrawn wr d) os) (Ret (.int .i64 (gn:Nat)) (grow (redrawn wr d) os))):=Lib.hid (fun d os=>(HI0.out _).mono fun e W h=>⟨h.1,by rw [h.2]; exact Below.refl _ _⟩)
   have g0:=fun d os=>cell_regrown (w:=wr) d0 d os
   have g1:=fun d os=>cell_regrown (w:=wr) d1 d os
   have g2:=fun d os=>cell_regrown (w:=wr) d2 d os
   have g3:=fun d os=>cell_regrown (w:=wr) d3 d os
   clear HNO HAL hdg hdg2 HI0
   unfold Ret at HI
   by_cases h1:0<tx.size
   rotate_left
   ·have a1:decide ((tx.size:Int) > 0)=false:=decide_eq_false (by omega)
    have a2:decide (0<(tx.size:Int))=false:=decide_eq_false (by omega)
    have a3:decide (0<tx.size)=false:=decide_eq_false h1
    have HV:Hid (R=false):=Lib.hid (by rw [HR.out,a3]; rfl)
    clear h1
    go_upto_region 6 with fail
    refine wp_region_quiet_below (by kernel_rfl) (by kernel_rfl) ?_
    repeat (go_big_quiet_step (first | exact Calls.regrown_of (HI.out _ _)))
    refine wpQuiet_nil ?_
    rintro _ ⟨pq,rfl⟩
    have hb9:=Lib.hid (HBW.out.trans ((below_regrown wr pq.d pq.os).mono HBW.out.size))
    generalize grow (redrawn wr pq.d) pq.os=w9 at hb9 ⊢
    clear d0 d1 d2 d3 g0 g1 g2 g3
    go_wp2_with fail
    go_ret
    exact ⟨by rw [HV.out]; rfl,hb9.out⟩
   have a1:decide ((tx.size:Int) > 0)=true:=decide_eq_true (by omega)
   have a2:decide (0<(tx.size:Int))=true:=decide_eq_true (by omega)
   have a3:decide (0<tx.size)=true:=decide_eq_true h1
   have hz:(0:Int)<(tx.size:Int):=by omega
   by_cases h11:tx.size=1
   ·have b1:((tx.size:Int) == 1)=true:=by simpa using (by omega:(tx.size:Int)=1)
    have b2:(tx.size == 1)=true:=by simpa using h11
    have HR2:Hid (R=(decide (0≤vl) && (decide (vl≤1099511627776) && ((gn:Int) == vl)))):=Lib.hid (by rw [HR.out,a3,b2]; rfl)
    clear HR h11
    by_cases h0:0≤vl
    rotate_left
    ·have e1:decide (vl ≥ 0)=false:=decide_eq_false h0
     have e2:decide (0≤vl)=false:=decide_eq_false h0
     have HV:Hid (R=false):=Lib.hid (by rw [HR2.out,e2]; rfl)
     clear h0
     go_upto_region 6 with fail
     refine wp_region_quiet_below (by kernel_rfl) (by kernel_rfl) ?_
     repeat (go_big_quiet_step (first | exact Calls.regrown_of (HI.out _ _)))
     refine wpQuiet_nil ?_
     rintro _ ⟨pq,rfl⟩
     have hb9:=Lib.hid (HBW.out.trans ((below_regrown wr pq.d pq.os).mono HBW.out.size))
     generalize grow (redrawn wr pq.d) pq.os=w9 at hb9 ⊢
     clear d0 d1 d2 d3 g0 g1 g2 g3
     go_wp2_with fail
     go_ret
     exact ⟨by rw [HV.out]; rfl,hb9.out⟩
    have e1:decide (vl ≥ 0)=true:=decide_eq_true h0
    have e2:decide (0≤vl)=true:=decide_eq_true h0
    by_cases h9:vl≤1099511627776
    rotate_left
    ·have e3:decide (vl≤1099511627776)=false:=decide_eq_false h9
     have HV:Hid (R=false):=Lib.hid (by rw [HR2.out,e2,e3]; rfl)
     clear h0 h9
     go_upto_region 6 with fail
     refine wp_region_quiet_below (by kernel_rfl) (by kernel_rfl) ?_
     repeat (go_big_quiet_step (first | exact Calls.regrown_of (HI.out _ _)))
     refine wpQuiet_nil ?_
     rintro _ ⟨pq,rfl⟩
     have hb9:=Lib.hid (HBW.out.trans ((below_regrown wr pq.d pq.os).mono HBW.out.size))
     generalize grow (redrawn wr pq.d) pq.os=w9 at hb9 ⊢
     clear d0 d1 d2 d3 g0 g1 g2 g3
     go_wp2_with fail
     go_ret
     exact ⟨by rw [HV.out]; rfl,hb9.out⟩
    have e3:decide (vl≤1099511627776)=true:=decide_eq_true h9
    have HV:Hid (R=((gn:Int) == vl)):=Lib.hid (by rw [HR2.out,e2,e3]; rfl)
    clear h0 h9
    go_upto_region 6 with fail
    refine wp_region_quiet_below (by kernel_rfl) (by kernel_rfl) ?_
    repeat (go_big_quiet_step (first | exact Calls.regrown_of (HI.out _ _)))
    refine wpQuiet_nil ?_
    rintro _ ⟨pq,rfl⟩
    have hb9:=Lib.hid (HBW.out.trans ((below_regrown wr pq.d pq.os).mono HBW.out.size))
    generalize grow (redrawn wr pq.d) pq.os=w9 at hb9 ⊢
    clear d0 d1 d2 d3 g0 g1 g2 g3
    go_wp2_with fail
    go_ret
    exact ⟨by rw [HV.out]; rfl,hb9.out⟩
   ·have b1:((tx.size:Int) == 1)=false:=by simpa using (by omega:¬ (tx.size:Int)=1)
    have b2:(tx.size == 1)=false:=by simpa using h11
    have h11i:¬ (tx.size:Int)=1:=by omega
    have HH:=Lib.hid (HHD.out h1)
    by_cases h48:((tx[0]'h1).toNat)=48
    ·have c1:((((tx[0]'h1).toNat):Int) != 48)=false:=by simpa using (by omega:(((tx[0]'h1).toNat):Int)=48)
     have c2:(((tx[0]'h1).toNat) != 48)=false:=by simpa using h48
     have c3:((((tx[0]'h1).toNat):Int) == 48)=true:=by simpa using (by omega:(((tx[0]'h1).toNat):Int)=48)
     have HV:Hid (R=false):=Lib.hid (by rw [HR.out,a3,b2,HH.out,c2]; rfl)
     clear h11 h48
     go_upto_region 6 with fail
     refine wp_region_quiet_below (by kernel_rfl) (by kernel_rfl) ?_
     repeat (go_big_quiet_step (first | exact Calls.regrown_of (HI.out _ _)))
     refine wpQuiet_nil ?_
     rintro _ ⟨pq,rfl⟩
     have hb9:=Lib.hid (HBW.out.trans ((below_regrown wr pq.d pq.os).mono HBW.out.size))
     generalize grow (redrawn wr pq.d) pq.os=w9 at hb9 ⊢
     clear d0 d1 d2 d3 g0 g1 g2 g3
     go_wp2_with fail
     go_ret
     exact ⟨by rw [HV.out]; rfl,hb9.out⟩
    ·have c1:((((tx[0]'h1).toNat):Int) != 48)=true:=by simpa using (by omega:¬ (((tx[0]'h1).toNat):Int)=48)
     have c2:(((tx[0]'h1).toNat) != 48)=true:=by simpa using h48
     have c3:((((tx[0]'h1).toNat):Int) == 48)=false:=by simpa using (by omega:¬ (((tx[0]'h1).toNat):Int)=48)
     have HR2:Hid (R=(decide (0≤vl) && (decide (vl≤1099511627776) && ((gn:Int) == vl)))):=Lib.hid (by rw [HR.out,a3,b2,HH.out,c2]; rfl)
     have h48i:¬ (((tx[0]'h1).toNat):Int)=48:=by omega
     clear HR h11 h48
     by_cases h0:0≤vl
     rotate_left
     ·have e1:decide (vl ≥ 0)=false:=decide_eq_false h0
      have e2:decide (0≤vl)=false:=decide_eq_false h0
      have HV:Hid (R=false):=Lib.hid (by rw [HR2.out,e2]; rfl)
      clear h0
      go_upto_region 6 with fail
      refine wp_region_quiet_below (by kernel_rfl) (by kernel_rfl) ?_
      repeat (go_big_quiet_step (first | exact Calls.regrown_of (HI.out _ _)))
      refine wpQuiet_nil ?_
      rintro _ ⟨pq,rfl⟩
      have hb9:=Lib.hid (HBW.out.trans ((below_regrown wr pq.d pq.os).mono HBW.out.size))
      generalize grow (redrawn wr pq.d) pq.os=w9 at hb9 ⊢
      clear d0 d1 d2 d3 g0 g1 g2 g3
      go_wp2_with fail
      go_ret
      exact ⟨by rw [HV.out]; rfl,hb9.out⟩
     have e1:decide (vl ≥ 0)=true:=decide_eq_true h0
     have e2:decide (0≤vl)=true:=decide_eq_true h0
     by_cases h9:vl≤1099511627776
     rotate_left
     ·have e3:decide (vl≤1099511627776)=false:=decide_eq_false h9
      have HV:Hid (R=false):=Lib.hid (by rw [HR2.out,e2,e3]; rfl)
      clear h0 h9
      go_upto_region 6 with fail
      refine wp_region_quiet_below (by kernel_rfl) (by kernel_rfl) ?_
      repeat (go_big_quiet_step (first | exact Calls.regrown_of (HI.out _ _)))
      refine wpQuiet_nil ?_
      rintro _ ⟨pq,rfl⟩
      have hb9:=Lib.hid (HBW.out.trans ((below_regrown wr pq.d pq.os).mono HBW.out.size))
      generalize grow (redrawn wr pq.d) pq.os=w9 at hb9 ⊢
      clear d0 d1 d2 d3 g0 g1 g2 g3
      go_wp2_with fail
      go_ret
      exact ⟨by rw [HV.out]; rfl,hb9.out⟩
     have e3:decide (vl≤1099511627776)=true:=decide_eq_true h9
     have HV:Hid (R=((gn:Int) == vl)):=Lib.hid (by rw [HR2.out,e2,e3]; rfl)
     clear h0 h9
     go_upto_region 6 with fail
     refine wp_region_quiet_below (by kernel_rfl) (by kernel_rfl) ?_
     repeat (go_big_quiet_step (first | exact Calls.regrown_of (HI.out _ _)))
     refine wpQuiet_nil ?_
     rintro _ ⟨pq,rfl⟩
     have hb9:=Lib.hid (HBW.out.trans ((below_regrown wr pq.d pq.os).mono HBW.out.size))
     generalize grow (redrawn wr pq.d) pq.os=w9 at hb9 ⊢
     clear d0 d1 d2 d3 g0 g1 g2 g3
     go_wp2_with fail
     go_ret
     exact ⟨by rw [HV.out]; rfl,hb9.out⟩
end Go.Proofs.YtmbffkemfepekaaGreatDoor
