/- Plain facts for the reference's Order: insertion, bindings that fit, values of truth, products. No program in sight. -/
import Derived.Test.YtedpopbaipnamaaGreatDoorPoCmp
import Derived.Test.YtedpopbaipnamaaGreatDoorPoBnd
namespace Go.Proofs.YtedpopbaipnamaaGreatDoor
theorem ltR_iff (a b:Int × Int):ltR a b=true↔a.1<b.1∨(a.1=b.1∧a.2<b.2):=by
 unfold ltR
 simp only [Bool.or_eq_true,Bool.and_eq_true,decide_eq_true_eq,beq_iff_eq]
/-- A further choice put behind all that are not ranked behind it. -/
theorem IsOrd.ins {n:Nat} {rk:Nat→Int × Int} {l:List Nat} (h:IsOrd n rk l) (k:Nat) (hk:k≤l.length) (hhi:∀ (q:Nat) (hq:q<l.length),k≤q→ltR (rk n) (rk l[q])=true)
  (hlo:∀ h:0<k,ltR (rk n) (rk (l[k - 1]'(by omega)))=false):IsOrd (n+1) rk (l.take k++n::l.drop k):=by
 have hs:=h.sorted
 refine ⟨?_,?_⟩
 ·rw [List.range_succ]
  have h1:(l.take k++n::l.drop k).Perm (n::(l.take k++l.drop k)):=List.perm_middle
  rw [List.take_append_drop] at h1
  exact h1.trans ((List.Perm.cons n h.perm).trans (List.perm_append_singleton n (List.range n)).symm)
 ·have hs2:=hs
  rw [← List.take_append_drop k l,List.pairwise_append] at hs2
  rw [List.pairwise_append]
  obtain ⟨s1,s2,s3⟩:=hs2
  refine ⟨s1,?_,?_⟩
  ·rw [List.pairwise_cons]
   refine ⟨fun y hy=>?_,s2⟩
   obtain ⟨q,hq,rfl⟩:=List.getElem_of_mem hy
   rw [List.getElem_drop]
   have h9:=hhi (k+q) (by rw [List.length_drop] at hq; omega) (by omega)
   rw [ltR_iff] at h9
   rw [ltS_iff]
   omega
  ·intro x hx y hy
   rcases List.mem_cons.1 hy with rfl | hy
   ·obtain ⟨q,hq,rfl⟩:=List.getElem_of_mem hx
    have hq':q<k:=by rw [List.length_take] at hq; omega
    rw [List.getElem_take]
    have hxn:l[q]'(by omega)<y:=h.mem (List.getElem_mem _)
    have h9:=hlo (by omega)
    have h10:¬ ltR (rk y) (rk (l[k - 1]'(by omega)))=true:=by rw [h9]; simp
    rw [ltR_iff] at h10
    rw [ltS_iff]
    by_cases e:q=k - 1
    ·subst e
     omega
    ·have:=List.pairwise_iff_getElem.1 hs q (k - 1) (by omega) (by omega) (by omega)
     rw [ltS_iff] at this
     omega
   ·exact s3 x hx y hy
/-- Valid bindings with the names and types of the attributes fit them. -/
theorem fits_of {l:List Bd} (V:BdOk l) (hm:l.map (fun b=>(b.name,b.ty))=kdB.map (fun b=>(b.name,b.ty))):fits l=true:=by
 have hl:l.length=11:=by
  have:=congrArg List.length hm
  simp only [List.length_map] at this
  exact this
 have hk:kds.length=11:=rfl
 unfold fits
 rw [hl]
 simp only [beq_self_eq_true,Bool.true_and]
 refine List.all_eq_true.2 fun x hx=>?_
 obtain ⟨i,hi,rfl⟩:=List.getElem_of_mem hx
 have hi':i<11:=by rw [List.length_zip] at hi; omega
 rw [List.getElem_zip]
 have h1:=congrArg (fun q=>q[i]?) hm
 unfold kdB at h1
 simp only [List.getElem?_map] at h1
 rw [List.getElem?_eq_getElem (by omega),List.getElem?_eq_getElem (by omega)] at h1
 simp only [Option.map_some,Option.some.injEq,Prod.mk.injEq] at h1
 have h2:=V.ty i (by omega)
 unfold fitB
 dsimp only
 rw [h1.1,h1.2] 
 rw [h1.2] at h2
 have hb:((kds[i]'(by omega)).name == (kds[i]'(by omega)).name)=true:=by rw [MapKept.bytes_beq]
 rw [hb]
 simp only [beq_self_eq_true,Bool.true_and]
 rcases h2 with ⟨e,h3,h4⟩ | ⟨e,h3,h4⟩
 ·rw [if_neg (by omega),decide_eq_true h3,decide_eq_true h4]; rfl
 ·rw [if_pos e]
  have:l[i].val=0∨l[i].val=1:=by omega
  rcases this with h5 | h5 <;> rw [h5] <;> rfl
theorem capA_id {n:Int} (h:n.natAbs≤1099511627776):capA (.ok n)=.ok n:=by
 simp only [capA]
 rw [if_neg (by omega)]
theorem find_mem {l:List Bd} {n:ByteArray} {b:Bd} (h:findB l n=some b):b∈l:=List.mem_of_find?_eq_some h
theorem one_bd (b:Bool):oneI b=0∨oneI b=1:=by cases b <;> simp [oneI]
/-- What is of the type of truth has the value 0 or 1. -/
theorem val_bool {bs:List Bd} (V:BdOk bs):∀ e,Good e→∀ n,typE bs e=.ok 2→valE bs e=.ok n→n=0∨n=1:=by
 intro e
 induction e using Ex.ind with
 | h k o nm v xs ih=>
  intro hg n ht hv
  have hp:=part_of hg.self
  rw [typE_mk] at ht
  rw [valE_mk] at hv
  cases et:typL bs (.ok []) xs with
  | er f=>rw [et] at ht; cases ht
  | ok ts=>
   rw [et] at ht
   cases ev:valL bs (.ok []) xs with
   | er f=>rw [ev] at hv; cases hv
   | ok vs=>
    rw [ev] at hv
    simp only at ht hv
    unfold typ1 at ht
    unfold val1 at hv
    obtain ⟨hv,-⟩:=capA_bd hv
    have hk:=hp.lo
    have hk2:=hp.hi
    simp only [Ex.kind] at hk hk2
    by_cases h1:k=1
    ·rw [if_pos h1] at ht; cases ht
    rw [if_neg h1] at ht hv
    by_cases h2:k=2
    ·rw [if_pos h2] at ht hv
     cases ef:findB bs nm with
     | none=>rw [ef] at ht; cases ht
     | some b=>
      rw [ef] at ht hv
      simp only [Ans.ok.injEq] at ht hv
      obtain ⟨i,hi,rfl⟩:=List.getElem_of_mem (find_mem ef)
      have:=V.ty i hi
      omega
    rw [if_neg h2] at ht hv
    by_cases h3:k=3
    ·rw [if_pos h3] at ht hv
     by_cases h4:o=2
     ·subst h4
      rw [if_pos rfl] at hv
      simp only [if_true] at ht
      have hlen:=hp.len
      simp only [Ex.args,Ex.kind,argsN,h3] at hlen
      simp at hlen
      obtain ⟨a,rfl⟩:=List.length_eq_one_iff.1 hlen
      simp only [typL,valL,AnsL.push] at et ev
      cases e1:typE bs a with
      | er f=>rw [e1] at et; cases et
      | ok t=>
       cases e2:valE bs a with
       | er f=>rw [e2] at ev; cases ev
       | ok y=>
        rw [e1] at et
        rw [e2] at ev
        simp only [AnsL.ok.injEq,List.nil_append] at et ev
        subst et ev
        simp only [List.getD_cons_zero] at ht hv
        by_cases h5:t=2
        ·subst h5
         have:=ih a (by simp) (hg.arg (by simp)) y e1 e2
         simp only [Ans.ok.injEq] at hv
         omega
        ·rw [if_neg h5] at ht; cases ht
     ·rw [if_neg h4] at ht
      split at ht
      ·simp at ht
      ·cases ht
    ·rw [if_neg h3] at ht hv
     split at ht
     ·cases ht
     ·simp only [Ans.ok.injEq] at ht
      have ho:¬ o≤7:=by
       intro h6
       unfold opRes at ht
       rw [if_pos h6] at ht
       omega
      unfold opV at hv
      rw [if_neg (by omega),if_neg (by omega),if_neg (by omega),if_neg (by omega),if_neg (by omega)] at hv
      repeat (first
       | (simp only [Ans.ok.injEq] at hv; rw [← hv]; exact one_bd _)
       | split at hv)
theorem mul_out {a b:Int}:(b≠0∧1099511627776 / b.natAbs<(a.natAbs:Int))↔1099511627776<(a * b).natAbs:=by
 rw [Int.natAbs_mul]
 constructor
 ·rintro ⟨h1,h2⟩
  have hb:(0:Int)<(b.natAbs:Int):=by omega
  have h4:=(Int.ediv_lt_iff_lt_mul hb).1 h2
  rw [← Int.natCast_mul] at h4
  omega
 ·intro h
  have hb:0<b.natAbs:=by
   rcases Nat.eq_zero_or_pos b.natAbs with h0 | h0
   ·rw [h0] at h; simp at h
   ·exact h0
  refine ⟨by omega,(Int.ediv_lt_iff_lt_mul (by omega)).2 ?_⟩
  rw [← Int.natCast_mul]
  omega
end Go.Proofs.YtedpopbaipnamaaGreatDoor
