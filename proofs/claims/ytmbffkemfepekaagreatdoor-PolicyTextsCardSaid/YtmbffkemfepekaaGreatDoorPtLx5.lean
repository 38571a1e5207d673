/- lexer.sign, walked. Conditions: the place lies in the text, before its end. -/
import Derived.Test.YtmbffkemfepekaaGreatDoorPtLx2
import Derived.Test.YtmbffkemfepekaaGreatDoorPtShelf
import Derived.Test.YtmbffkemfepekaaGreatDoorPtOps
namespace Go.Proofs.YtmbffkemfepekaaGreatDoor
open Go.RowKit
def dblB:List ByteArray:=[⟨#[38,38]⟩,⟨#[124,124]⟩,⟨#[61,61]⟩,⟨#[33,61]⟩,⟨#[60,61]⟩,⟨#[62,61]⟩]
theorem pre_two (a b:UInt8):∀ l:List UInt8,Lib.hasPrefix l [a,b]=(l.take 2 == [a,b])
 | []=>rfl
 | [x]=>by simp [Lib.hasPrefix,List.isPrefixOf]
 | x::y::r=>by
  show (a == x && (b == y && true))=(x == a && (y == b && true))
  rw [BEq.comm (a:=a),BEq.comm (a:=b)]
theorem idx_has (c:UInt8):∀ l:List UInt8,(0≤Lib.indexByte l c↔c∈l)∧-1≤Lib.indexByte l c
 | []=>by simp [Lib.indexByte]
 | b::l=>by
  have ih:=idx_has c l
  unfold Lib.indexByte
  by_cases h:b=c
  ·subst h
   simp
  ·rw [if_neg (by simpa using h)]
   have hc:c∈b::l↔c∈l:=by simp [show ¬ c=b from fun e=>h e.symm]
   rw [hc,← ih.1]
   by_cases h1:Lib.indexByte l c = -1
   ·rw [if_pos (by simpa using h1)]
    have:=ih.2
    omega
   ·rw [if_neg (by simpa using h1)]
    have:=ih.2
    omega
theorem dbl_form:∀ (j:Nat) (t:ByteArray),dblB[j]? = some t→∃ a b,t=⟨#[a,b]⟩∧[a,b]∈dblS
 | 0,t,h=>by cases h; exact ⟨_,_,rfl,by decide⟩
 | 1,t,h=>by cases h; exact ⟨_,_,rfl,by decide⟩
 | 2,t,h=>by cases h; exact ⟨_,_,rfl,by decide⟩
 | 3,t,h=>by cases h; exact ⟨_,_,rfl,by decide⟩
 | 4,t,h=>by cases h; exact ⟨_,_,rfl,by decide⟩
 | 5,t,h=>by cases h; exact ⟨_,_,rfl,by decide⟩
 | j+6,t,h=>by simp [dblB] at h
theorem ext_drop (s:ByteArray) (i:Nat):(s.extract i s.size).data.toList=s.data.toList.drop i:=by
 rw [Lib.extract_data,List.take_of_length_le]
 rw [List.length_drop,Array.length_toList]
 exact Nat.le_refl _
theorem sign_dbl (s:ByteArray) (i j:Nat) (t:ByteArray) (h:dblB[j]? = some t) (hp:Lib.hasPrefix (s.data.toList.drop i) t.data.toList=true):signT (s.data.toList.drop i)=.ok 3 2 0∧subB s i 2=t:=by
 obtain ⟨a,b,rfl,hm⟩:=dbl_form j t h
 change Lib.hasPrefix _ [a,b]=true at hp
 rw [pre_two,beq_iff_eq] at hp
 constructor
 ·unfold signT
  rw [hp,if_pos (by simpa using hm)]
 ·unfold subB
  rw [hp]
theorem sign_not (s:ByteArray) (i:Nat) (hi:i<s.size) (hn:∀ (j:Nat) (t:ByteArray),dblB[j]? = some t→Lib.hasPrefix (s.data.toList.drop i) t.data.toList=false):signT (s.data.toList.drop i)=if sglS.contains (s[i]'hi) then .ok 3 1 0 else .er 3:=by
 have h0:=hn 0 _ rfl
 have h1:=hn 1 _ rfl
 have h2:=hn 2 _ rfl
 have h3:=hn 3 _ rfl
 have h4:=hn 4 _ rfl
 have h5:=hn 5 _ rfl
 change Lib.hasPrefix _ [_,_]=false at h0 h1 h2 h3 h4 h5
 rw [pre_two] at h0 h1 h2 h3 h4 h5
 unfold signT
 rw [if_neg (by simp only [dblS,List.contains_cons,h0,h1,h2,h3,h4,h5]; simp)]
 rw [run_at s i hi]
theorem str_from (s:ByteArray) (i:Nat) (h:i≤s.size) (W:World):(Instr.slice 9 (.string s) (some (.int .i64 (i:Nat))) none none).run Tryz.prog W=.ok (.string (s.extract i s.size)) W:=by
 rw [run_slice_string_from_if _ _ _ _ _ Tryz.underlying9,if_pos (by omega)]
 simp
set_option maxRecDepth 100000 in
set_option maxHeartbeats 1600000 in
theorem signTok_any (s:ByteArray) (i:Nat) (hi:i<s.size) (hs:s.size≤140737488355328) (w:World):Calls Tryz.prog 46 #[.string s,.int .i64 (i:Nat)] w (Ret (tokV s i (signT (s.data.toList.drop i))) w):=by
 have HP:=Lib.hid (fun (t:ByteArray) W=>Tryz.strings_HasPrefix (s.extract i s.size) t W)
 rw [ext_drop] at HP
 have HQ:=Lib.hid (fun W=>Tryz.strings_Contains_one ⟨#[60,62,43,45,42,47,37,33,61,40,41,123,125,44,59]⟩ (s[i]'hi) W)
 have HD:=Lib.hid (fun j t=>sign_dbl s i j t)
 have HN:=Lib.hid (sign_not s i hi)
 have hs1:s.extract i (i+1)=⟨#[s[i]'hi]⟩:=by
  rw [ext_sub]
  unfold subB
  rw [run_at s i hi]
  rfl
 have hX1:Hid (subB s i 1=⟨#[s[i]'hi]⟩):=Lib.hid (by rw [← hs1,ext_sub])
 have hfr:=fun W=>str_from s i (by omega) W
 have hon:∀ W,(Instr.slice 9 (.string s) (some (.int .i64 (i:Nat))) (some (.int .i64 ((i:Int)+1))) none).run Tryz.prog W=.ok (.string ⟨#[s[i]'hi]⟩) W:=fun W=>by
  have h:=str_slice s i (i+1) (by omega) (by omega) W
  rw [hs1] at h
  exact h
 have hi1:IntKind.i64.wrap ((i:Int)+1)=(i:Int)+1:=by rw [IntKind.wrap_i64]; omega
 have HSG:Hid (decide (0≤Lib.indexByte [60,62,43,45,42,47,37,33,61,40,41,123,125,44,59] (s[i]'hi))=sglS.contains (s[i]'hi)):=Lib.hid (by
  have h:=(idx_has (s[i]'hi) [60,62,43,45,42,47,37,33,61,40,41,123,125,44,59]).1
  rw [Bool.eq_iff_iff,decide_eq_true_iff,h,List.contains_iff_mem]
  rfl)
 clear hs1
 generalize sglS.contains (s[i]'hi)=sg at HN HSG
 generalize signT (s.data.toList.drop i)=R at HD HN ⊢
 generalize s.extract i s.size=sx at HP hfr
 generalize s[i]'hi=ci at *
 unfold Ret
 have hO:=one_new w #[.int .i64 0,.string ⟨#[]⟩,.int .i64 0,.int .i64 0] 69
 have hF:∀ j,(w.alloc (.cells #[.int .i64 0,.string ⟨#[]⟩,.int .i64 0,.int .i64 0] 69)).frozen? ⟨w.heap.size,j,none⟩=false:=fun j=>by simp
 go_enter Tryz.func46,Tryz.ntmps46
 go_upto_region 1 with fail
 generalize w.alloc _=w1 at hO hF ⊢
 obtain ⟨d0,d1,d2,d3⟩:=bx4 hO.fst
 have f0:=hF 0
 have f1:=hF 1
 have f2:=hF 2
 have f3:=hF 3
 have D0:=Lib.hid d0
 have D1:=Lib.hid d1
 have D2:=Lib.hid d2
 have D3:=Lib.hid d3
 have HB:=Lib.hid hO.below
 have HF:=Lib.hid hF
 have HBX:=Lib.hid hO.fst
 have hsz1:=hO.size
 clear hO hF
 go_wp2_with fail
 have hA:=bx_new w1 #[.string ⟨#[38,38]⟩,.string ⟨#[124,124]⟩,.string ⟨#[61,61]⟩,.string ⟨#[33,61]⟩,.string ⟨#[60,61]⟩,.string ⟨#[62,61]⟩] 9
 have hbl:=below_alloc w1 (.cells #[.string ⟨#[38,38]⟩,.string ⟨#[124,124]⟩,.string ⟨#[61,61]⟩,.string ⟨#[33,61]⟩,.string ⟨#[60,61]⟩,.string ⟨#[62,61]⟩] 9)
 generalize w1.alloc _=w2 at hA hbl ⊢
 obtain ⟨d0,d1,d2,d3⟩:=bx4 (HBX.out.below hbl (by omega))
 have HB2:=Lib.hid (HB.out.trans (hbl.mono (by omega)))
 have f0:=(hbl.frozen (p:=⟨w.heap.size,0,none⟩) (by show w.heap.size<_; omega)).trans (HF.out 0)
 have f1:=(hbl.frozen (p:=⟨w.heap.size,1,none⟩) (by show w.heap.size<_; omega)).trans (HF.out 1)
 have f2:=(hbl.frozen (p:=⟨w.heap.size,2,none⟩) (by show w.heap.size<_; omega)).trans (HF.out 2)
 have f3:=(hbl.frozen (p:=⟨w.heap.size,3,none⟩) (by show w.heap.size<_; omega)).trans (HF.out 3)
 have D0:=Lib.hid d0
 have D1:=Lib.hid d1
 have D2:=Lib.hid d2
 have D3:=Lib.hid d3
 have HB:=HB2
 have HA:Hid (∀ (j:Nat) (t:ByteArray),dblB[j]? = some t→w2.cell? ⟨w1.heap.size,j,none⟩=some (.string t)):=Lib.hid (fun j t h=>hA j _ (by
  have h1:(dblB.map Value.string)[j]? = some (.string t):=by rw [List.getElem?_map,h]; rfl
  exact h1))
 generalize w1.heap.size=b1 at HA ⊢
 clear hA hbl HB2 HBX HF hsz1
 go_loopw [10] (fun jv wr=>wr=w2∧∃ j:Nat,jv=.int .i64 (j:Nat)∧j≤6∧Hid (∀ (m:Nat) (t:ByteArray),m<j→dblB[m]? = some t→Lib.hasPrefix (s.data.toList.drop i) t.data.toList=false)) (fun jv _=>6 - (intOf jv).toNat)
 case atStart=>exact ⟨rfl,0,rfl,by omega,Lib.hid (fun m t h=>absurd h (by omega))⟩
 case round=>
  obtain ⟨rfl,j,rfl,hj,HNJ⟩:=hrel
  have hj0:(0:Int)≤(j:Int):=by omega
  have hwj:IntKind.i64.wrap ((j:Int)+1)=(j:Int)+1:=by rw [IntKind.wrap_i64]; omega
  by_cases hlt:j<6
  ·have g1:decide ((j:Int)<6)=true:=decide_eq_true (by omega)
   have g2:decide (j<6)=true:=decide_eq_true hlt
   have g3:(j:Int)<6:=by omega
   obtain ⟨t,ht⟩:∃ t,dblB[j]? = some t:=⟨dblB[j]'hlt,List.getElem?_eq_getElem hlt⟩
   have hcl:=HA.out j t ht
   have HT:=Lib.hid ht
   have HPT:=Lib.hid (HP.out t)
   have HDT:=Lib.hid (HD.out j t ht)
   cases hp:Lib.hasPrefix (s.data.toList.drop i) t.data.toList with
   | true=>
    have HV:=Lib.hid (HDT.out hp).1
    have HX:=Lib.hid (HDT.out hp).2
    have HTX:Hid (tokV s i (.ok 3 2 0)=.tuple #[.agg #[.int .i64 3,.string t,.int .i64 0,.int .i64 (i:Nat)],.int .i64 0]):=Lib.hid (by show Value.tuple #[.agg #[.int .i64 3,.string (subB s i 2),.int .i64 0,.int .i64 (i:Nat)],.int .i64 0]=_; rw [HX.out])
    rw [hp] at HPT
    clear ht hp hlt
    go_wp2_with (go_at_call 78; refine (HPT.out _).mono ?_; rintro e W5 ⟨rfl,hw⟩; obtain rfl:wr=W5:=hw.symm)
    obtain ⟨q0,q1,q2,q3⟩:=set4 D0.out D1.out D2.out D3.out (.int .i64 3) (.string t) (.int .i64 0) (.int .i64 (i:Nat))
    have hby:=set4_below HB.out (Nat.le_refl _) (.int .i64 3) (.string t) (.int .i64 0) (.int .i64 (i:Nat))
    generalize World.setCell _ _ _=w6 at q0 q1 q2 q3 hby ⊢
    refine bodyPost_ret (v:=.tuple #[.agg #[.int .i64 3,.string t,.int .i64 0,.int .i64 (i:Nat)],.int .i64 0]) (by rw [results_cell_tmp rfl]; go_simp) rfl ⟨by rw [HV.out,HTX.out],hby⟩
   | false=>
    rw [hp] at HPT
    have HNN:Hid (∀ (m:Nat) (t:ByteArray),m<j+1→dblB[m]? = some t→Lib.hasPrefix (s.data.toList.drop i) t.data.toList=false):=Lib.hid (fun m t' h h'=>by
     by_cases hm:m<j
     ·exact HNJ.out m t' hm h'
     ·obtain rfl:m=j:=by omega
      rw [HT.out] at h'
      cases h'
      exact hp)
    clear ht hp hlt
    go_wp2_with (go_at_call 78; refine (HPT.out _).mono ?_; rintro e W5 ⟨rfl,hw⟩; obtain rfl:wr=W5:=hw.symm)
    exact ⟨⟨by first | rfl | exact True.intro,j+1,by go_num,by omega,HNN⟩,by simp [intOf]; omega⟩
  ·obtain rfl:j=6:=by omega
   have g1:decide (((6:Nat):Int)<6)=false:=rfl
   have HR:Hid (R=if sg=true then .ok 3 1 0 else .er 3):=Lib.hid (HN.out (fun m t h=>by
    by_cases hm:m<6
    ·exact HNJ.out m t hm h
    ·rw [List.getElem?_eq_none (by show 6≤m; omega)] at h; cases h))
   have HCO:Hid (∀ W,Calls Tryz.prog 79 #[.string ⟨#[60,62,43,45,42,47,37,33,61,40,41,123,125,44,59]⟩,.string ⟨#[ci]⟩] W fun e w'=>e=.returned (.bool sg)∧w'=W):=Lib.hid (fun W=>by
    have h:=HQ.out W
    rw [← HSG.out]
    exact h)
   clear HQ HSG HNJ hlt
   cases sg with
   | true=>
    have HV:Hid (R=.ok 3 1 0):=Lib.hid (by rw [HR.out]; rfl)
    have HTX:Hid (tokV s i (.ok 3 1 0)=.tuple #[.agg #[.int .i64 3,.string ⟨#[ci]⟩,.int .i64 0,.int .i64 (i:Nat)],.int .i64 0]):=Lib.hid (by show Value.tuple #[.agg #[.int .i64 3,.string (subB s i 1),.int .i64 0,.int .i64 (i:Nat)],.int .i64 0]=_; rw [hX1.out])
    go_wp2_with (go_at_call 79; refine (HCO.out _).mono ?_; rintro e W5 ⟨rfl,hw⟩; obtain rfl:wr=W5:=hw.symm)
    obtain ⟨q0,q1,q2,q3⟩:=set4 D0.out D1.out D2.out D3.out (.int .i64 3) (.string ⟨#[ci]⟩) (.int .i64 0) (.int .i64 (i:Nat))
    have hby:=set4_below HB.out (Nat.le_refl _) (.int .i64 3) (.string ⟨#[ci]⟩) (.int .i64 0) (.int .i64 (i:Nat))
    generalize World.setCell _ _ _=w6 at q0 q1 q2 q3 hby ⊢
    refine bodyPost_ret (v:=.tuple #[.agg #[.int .i64 3,.string ⟨#[ci]⟩,.int .i64 0,.int .i64 (i:Nat)],.int .i64 0]) (by rw [results_cell_tmp rfl]; go_simp) rfl ⟨by rw [HV.out,HTX.out],hby⟩
   | false=>
    have HV:Hid (R=.er 3):=Lib.hid (by rw [HR.out]; rfl)
    go_wp2_with (go_at_call 79; refine (HCO.out _).mono ?_; rintro e W5 ⟨rfl,hw⟩; obtain rfl:wr=W5:=hw.symm)
    obtain ⟨q0,q1,q2,q3⟩:=set4 D0.out D1.out D2.out D3.out (.int .i64 0) (.string ⟨#[]⟩) (.int .i64 0) (.int .i64 0)
    have hby:=set4_below HB.out (Nat.le_refl _) (.int .i64 0) (.string ⟨#[]⟩) (.int .i64 0) (.int .i64 0)
    generalize World.setCell _ _ _=w6 at q0 q1 q2 q3 hby ⊢
    refine bodyPost_ret (v:=.tuple #[.agg #[.int .i64 0,.string ⟨#[]⟩,.int .i64 0,.int .i64 0],.int .i64 3]) (by rw [results_cell_tmp rfl]; go_simp) rfl ⟨by rw [HV.out]; rfl,hby⟩
end Go.Proofs.YtmbffkemfepekaaGreatDoor

namespace Go.Proofs.YtmbffkemfepekaaGreatDoor
open Go.RowKit
def tkC (t:Tk):List Value:=[.int .i64 t.kind,.string t.text,.int .i64 t.val,.int .i64 (t.pos:Nat)]
def tkCs (l:List Tk):List Value:=l.flatMap tkC
theorem tkCs_app (l:List Tk) (t:Tk):tkCs (l++[t])=tkCs l++tkC t:=by simp [tkCs]
/-- v is a slice of tokens of the call's own, from block `base` on. -/
def OwnT (w:World) (base:Nat) (v:Value) (l:List Tk):Prop:=w.ownsRow base 69 4 v l.length (tkCs l)
theorem tokInfo:(Tryz.prog.info? 69).map (fun i=>(i.zero,i.size,i.bytes))=some (some (.agg #[.int .i64 0,.string ⟨#[]⟩,.int .i64 0,.int .i64 0]),4,40):=by kernel_rfl
theorem runN_pos (p:UInt8→Bool) (c:UInt8) (l:List UInt8) (h:p c=true):1≤runN p (c::l):=by
 unfold runN
 rw [if_pos h]
 omega
/-- A token has at least one byte, and no more than there are. -/
theorem tok1_len (c:UInt8) (l:List UInt8) (k:Int) (n v:Nat) (h:tok1 (c::l)=.ok k n v):1≤n∧n≤l.length+1:=by
 unfold tok1 at h
 simp only at h
 split at h
 ·next hl=>
  unfold nameT at h
  split at h
  ·cases h
  ·injection h with h1 h2 h3
   have h4:=runN_pos inB c l (by unfold inB; rw [hl]; rfl)
   have h5:=runN_le inB (c::l)
   rw [List.length_cons] at h5
   omega
 ·split at h
  ·next hd=>
   unfold numT at h
   split at h
   ·cases h
   ·split at h
    ·cases h
    ·injection h with h1 h2 h3
     have h4:=runN_pos digB c l hd
     have h5:=runN_le digB (c::l)
     rw [List.length_cons] at h5
     omega
  ·unfold signT at h
   split at h
   ·next hc=>
    injection h with h1 h2 h3
    have h4:2≤l.length+1:=by
     cases l with
     | nil=>exact absurd hc (by simp [dblS])
     | cons b m=>simp
    omega
   ·simp only at h
    split at h
    ·injection h with h1 h2 h3
     omega
    ·cases h
theorem tok1_er (l:List UInt8) (f:Nat) (h:tok1 l=.er f):f≠0:=by
 unfold tok1 at h
 intro hf
 subst hf
 cases l with
 | nil=>cases h
 | cons c r=>
  simp only at h
  split at h
  ·unfold nameT at h
   split at h <;> cases h
  ·split at h
   ·unfold numT at h
    split at h
    ·cases h
    ·split at h <;> cases h
   ·unfold signT at h
    split at h
    ·cases h
    ·simp only at h
     split at h <;> cases h
theorem subB_size (s:ByteArray) (i n:Nat) (h:i+n≤s.size):(subB s i n).size=n:=by
 show (((s.data.toList.drop i).take n).toArray).size=n
 rw [List.size_toArray,List.length_take,List.length_drop,Array.length_toList]
 have:s.data.size=s.size:=rfl
 omega
theorem ownsBelow {W W':World} {base e size n:Nat} {v:Value} {xs:List Value} (h:W.ownsRow base e size v n xs) (hb:Below W.heap.size W W'):W'.ownsRow base e size v n xs:=
 World.ownsRow.kept (row:=none) h ⟨hb.os,hb.tape,hb.output,hb.size,fun k hk _=>hb.block k hk⟩ (by cases v.ownBlock; exact .inl rfl; exact .inr (by simp))
/-- What Tokens gives. -/
def TksR.Giv (r:TksR) (w:World):Ending→World→Prop:=fun e W=>match r with
 | .er a f=>e=.returned (.tuple #[.slice none 0 0,.int .i64 (a:Nat),.int .i64 (f:Nat)])∧Below w.heap.size w W
 | .ok l=>∃ v,e=.returned (.tuple #[v,.int .i64 0,.int .i64 0])∧OwnT W w.heap.size v l∧Below w.heap.size w W
/-- One of the three functions that read a token. -/
def TokF (s:ByteArray) (i F:Nat):Prop:=(∀ (args:Array Value) (W:World),(callFunc F args).run Tryz.prog W=.ok (.enter F args) W)∧∀ W,Calls Tryz.prog F #[.string s,.int .i64 (i:Nat)] W (Ret (tokV s i (tok1 (s.data.toList.drop i))) W)
theorem tokF_name (s:ByteArray) (i:Nat) (hi:i<s.size) (hs:s.size≤140737488355328) (h:letB (s[i]'hi)=true):TokF s i 48:=
 ⟨fun args W=>by kernel_rfl,fun W=>by
  have e:tok1 (s.data.toList.drop i)=nameT (s.data.toList.drop i):=by rw [run_at s i hi]; unfold tok1; simp only; rw [if_pos h]
  rw [e]
  exact name_any s i (by omega) hs W⟩
theorem tokF_num (s:ByteArray) (i:Nat) (hi:i<s.size) (hs:s.size≤140737488355328) (h:letB (s[i]'hi)=false) (h2:digB (s[i]'hi)=true):TokF s i 50:=
 ⟨fun args W=>by kernel_rfl,fun W=>by
  have e:tok1 (s.data.toList.drop i)=numT (s.data.toList.drop i):=by rw [run_at s i hi]; unfold tok1; simp only; rw [if_neg (by rw [h]; exact Bool.false_ne_true),if_pos h2]
  rw [e]
  exact numTok_any s i (by omega) hs W⟩
theorem tokF_sign (s:ByteArray) (i:Nat) (hi:i<s.size) (hs:s.size≤140737488355328) (h:letB (s[i]'hi)=false) (h2:digB (s[i]'hi)=false):TokF s i 46:=
 ⟨fun args W=>by kernel_rfl,fun W=>by
  have e:tok1 (s.data.toList.drop i)=signT (s.data.toList.drop i):=by rw [run_at s i hi]; unfold tok1; simp only; rw [if_neg (by rw [h]; exact Bool.false_ne_true),if_neg (by rw [h2]; exact Bool.false_ne_true)]
  rw [e]
  exact signTok_any s i hi hs W⟩
set_option maxRecDepth 100000 in
set_option maxHeartbeats 1200000 in
theorem tokens_any (s:ByteArray) (hs:s.size≤140737488355328) (w:World):Calls Tryz.prog 21 #[.string s] w (TksR.Giv (toksE s) w):=by
 have HE:Hid (toksE s=if 4000<s.size then .er 0 4 else toksF s (s.size+1) (skipN false s.data.toList) []):=Lib.hid rfl
 generalize toksE s=E at HE ⊢
 by_cases h4:4000<s.size
 ·have g1:decide ((s.size:Int) > 4000)=true:=decide_eq_true (by omega)
  have g2:decide (4000<s.size)=true:=decide_eq_true h4
  have HV:Hid (E=.er 0 4):=Lib.hid (by rw [HE.out,if_pos h4])
  clear HE h4
  go_enter Tryz.func21,Tryz.ntmps21
  go_wp2_with fail
  go_ret3
  rw [HV.out]
  exact ⟨rfl,Below.refl _ _⟩
 ·have g1:decide ((s.size:Int) > 4000)=false:=decide_eq_false (by omega)
  have g2:decide (4000<s.size)=false:=decide_eq_false h4
  have HB0:=Lib.hid (blank_any s 0 (Nat.zero_le _) hs w)
  have hk0:=skipN_le false s.data.toList
  rw [Array.length_toList] at hk0
  have hk1:skipN false s.data.toList≤s.size:=hk0
  have HV:Hid (E=toksF s (s.size+1) (skipN false s.data.toList) []):=Lib.hid (by rw [HE.out,if_neg h4])
  rw [List.drop_zero,Nat.zero_add] at HB0
  have hs4:s.size≤4000:=by omega
  clear HE h4 hk0
  generalize skipN false s.data.toList=k at HB0 HV hk1
  unfold Ret at HB0
  obtain ⟨i0,hi,hz0,hz1,hz2⟩:∃ i0,Tryz.prog.info? 69=some i0∧i0.zero=some (.agg #[.int .i64 0,.string ⟨#[]⟩,.int .i64 0,.int .i64 0])∧i0.size=4∧i0.bytes=40:=by
   have h:=tokInfo
   cases hh:Tryz.prog.info? 69 with
   | none=>rw [hh] at h; cases h
   | some i0=>rw [hh] at h; simp at h; exact ⟨i0,rfl,h.1,h.2.1,h.2.2⟩
  go_enter Tryz.func21,Tryz.ntmps21
  go_wp2_with (go_at_call 45; refine HB0.out.mono ?_; rintro e W5 ⟨rfl,hbl⟩)
  have hO5:OwnT W5 w.heap.size (.slice none 0 0) []:=World.ownsRow_nil _ _ _ _
  clear HB0
  go_loopw [5,6] (fun v iv wr=>∃ (i f:Nat) (acc:List Tk) (A:Option Addr) (m c:Nat),v=.slice A m c∧m=acc.length∧iv=.int .i64 (i:Nat)∧i≤s.size∧s.size<i+f∧acc.length≤i∧Hid (E=toksF s f i acc)∧OwnT wr w.heap.size (.slice A m c) acc∧Below w.heap.size w wr) (fun _ iv _=>s.size - (intOf iv).toNat)
  case atStart=>exact ⟨k,s.size+1,[],none,0,0,rfl,rfl,rfl,hk1,by omega,Nat.zero_le _,HV,hO5,hbl⟩
  case round=>
   obtain ⟨i,f,acc,A,m,c,rfl,rfl,rfl,hi1,hf,hal,HV,hown,hbw⟩:=hrel
   clear hO5 hbl hk1
   have hi0:(0:Int)≤(i:Int):=by omega
   obtain ⟨f,rfl⟩:∃ f',f=f'+1:=⟨f - 1,by omega⟩
   have hown0:wr.ownsRow w.heap.size 69 4 (.slice A acc.length c) acc.length (tkCs acc):=hown
   by_cases hlt:i<s.size
   ·have d1:decide ((i:Int)<(s.size:Int))=true:=decide_eq_true (by omega)
    have d2:decide (i<s.size)=true:=decide_eq_true hlt
    have d3:(i:Int)<(s.size:Int):=by omega
    have HV1:Hid (E=match tok1 (s.data.toList.drop i) with
     | .er e=>.er i e
     | .ok k n v=>toksF s f (i+n+skipN false (s.data.toList.drop (i+n))) (acc++[⟨k,subB s i n,v,i⟩])):=Lib.hid (by rw [HV.out,toksF,if_pos hlt]; rfl)
    have HLT:=Lib.hid (fun W=>ltr_any (s[i]'hlt) W)
    have HDG:=Lib.hid (fun W=>dig_any (s[i]'hlt) W)
    have HLE:=Lib.hid (fun (k:Int) (n v:Nat) (h:tok1 (s.data.toList.drop i)=.ok k n v)=>tok1_len (s[i]'hlt) (s.data.toList.drop (i+1)) k n v (by rw [← run_at s i hlt]; exact h))
    have HER:=Lib.hid (fun e=>tok1_er (s.data.toList.drop i) e)
    have hlen:(s.data.toList.drop (i+1)).length+1=s.size - i:=by
     rw [List.length_drop,Array.length_toList]
     have:s.data.size=s.size:=rfl
     omega
    rw [hlen] at HLE
    have HN:=Lib.hid (fun h=>tokF_name s i hlt hs h)
    have HM:=Lib.hid (fun h h2=>tokF_num s i hlt hs h h2)
    have HS:=Lib.hid (fun h h2=>tokF_sign s i hlt hs h h2)
    have HB2:=Lib.hid (fun j (h:j≤s.size) W=>blank_any s j h hs W)
    have HK2:Hid (∀ j,j≤s.size→j+skipN false (s.data.toList.drop j)≤s.size):=Lib.hid (fun j hj=>by
     have h1:=skipN_le false (s.data.toList.drop j)
     rw [List.length_drop,Array.length_toList] at h1
     have:s.data.size=s.size:=rfl
     omega)
    have HO0:=Lib.hid hown0
    unfold RetP at HLT HDG
    clear HV hown hown0 hlen
    go_upto_region 7 with fail
    go_cut [7] (fun fv wx=>fv=.func (.func 46) #[] #[]∧wr=wx)
    case first=>
     go_wp2_with fail
     go_meet
     case rel=>exact ⟨rfl,rfl⟩
    case rest=>
     obtain ⟨rfl,rfl⟩:=hcut
     apply_assumption
     apply wp_seq_k
     intro K0 hK0
     go_cut [7] (fun fv wx=>∃ F,fv=.func (.func F) #[] #[]∧Hid (TokF s i F)∧wr=wx)
     case first=>
      generalize hlb:letB (s[i]'hlt)=lb at HLT HN HM HS
      generalize hdb:digB (s[i]'hlt)=db at HDG HM HS
      clear hlb hdb
      cases lb with
      | true=>
       have HF:=Lib.hid (HN.out rfl)
       clear HN HM HS HV1
       go_wp2_with (first | (go_at_call 47; refine (HLT.out _).mono ?_; rintro e W5 ⟨rfl,hw⟩; obtain rfl:wr=W5:=hw.symm) | (go_at_call 49; refine (HDG.out _).mono ?_; rintro e W5 ⟨rfl,hw⟩; obtain rfl:wr=W5:=hw.symm))
       go_meet
       case rel=>exact ⟨_,by first | rfl | exact True.intro,HF,rfl⟩
      | false=>
       cases db with
       | true=>
        have HF:=Lib.hid (HM.out rfl rfl)
        clear HN HM HS HV1
        go_wp2_with (first | (go_at_call 47; refine (HLT.out _).mono ?_; rintro e W5 ⟨rfl,hw⟩; obtain rfl:wr=W5:=hw.symm) | (go_at_call 49; refine (HDG.out _).mono ?_; rintro e W5 ⟨rfl,hw⟩; obtain rfl:wr=W5:=hw.symm))
        go_meet
        case rel=>exact ⟨_,by first | rfl | exact True.intro,HF,rfl⟩
       | false=>
        have HF:=Lib.hid (HS.out rfl rfl)
        clear HN HM HS HV1
        go_wp2_with (first | (go_at_call 47; refine (HLT.out _).mono ?_; rintro e W5 ⟨rfl,hw⟩; obtain rfl:wr=W5:=hw.symm) | (go_at_call 49; refine (HDG.out _).mono ?_; rintro e W5 ⟨rfl,hw⟩; obtain rfl:wr=W5:=hw.symm))
        go_meet
        case rel=>exact ⟨_,by first | rfl | exact True.intro,HF,rfl⟩
     case rest=>
      obtain ⟨F,rfl,HF,rfl⟩:=hcut
      have eg:=HF.out.1
      have HC:=Lib.hid (HF.out.2 wr)
      unfold Ret at HC
      clear HF HLT HDG HN HM HS
      generalize tok1 (s.data.toList.drop i)=R at HC HV1 HLE HER
      cases R with
      | er e=>
       have HV2:Hid (E=.er i e):=Lib.hid HV1.out
       have hne:=HER.out e rfl
       have n0:((e:Nat):Int)≠0:=by omega
       have n1:(((e:Nat):Int) == 0)=false:=by simpa using hne
       have n2:(e == 0)=false:=by simpa using hne
       have HC2:Hid (Calls Tryz.prog F #[.string s,.int .i64 (i:Nat)] wr fun e' W=>e'=.returned (.tuple #[.agg #[.int .i64 0,.string ⟨#[]⟩,.int .i64 0,.int .i64 0],.int .i64 (e:Nat)])∧Below wr.heap.size wr W):=Lib.hid HC.out
       clear HC HV1 HER HLE
       go_wp2_with fail
       refine HC2.out.mono ?_
       rintro e' W1 ⟨rfl,hb1⟩
       have hba:=below_alloc2 hb1.size (.cells #[.int .i64 0,.string ⟨#[]⟩,.int .i64 0,.int .i64 0] 69)
       go_wp2_with fail
       generalize W1.alloc _=W2 at hba ⊢
       go_ret3
       rw [HV2.out]
       exact ⟨rfl,hbw.trans ((hb1.trans hba).mono hbw.size)⟩
      | ok kd n v=>
       obtain ⟨hn1,hn2⟩:=HLE.out kd n v rfl
       have HV2:Hid (E=toksF s f (i+n+skipN false (s.data.toList.drop (i+n))) (acc++[⟨kd,subB s i n,v,i⟩])):=Lib.hid HV1.out
       have HC2:Hid (Calls Tryz.prog F #[.string s,.int .i64 (i:Nat)] wr fun e' W=>e'=.returned (.tuple #[.agg #[.int .i64 kd,.string (subB s i n),.int .i64 (v:Nat),.int .i64 (i:Nat)],.int .i64 0])∧Below wr.heap.size wr W):=Lib.hid HC.out
       have hsz:=subB_size s i n (by omega)
       generalize subB s i n=tx at HV2 HC2 hsz
       clear HC HV1 HER HLE
       go_wp2_with fail
       refine HC2.out.mono ?_
       rintro e' W1 ⟨rfl,hb1⟩
       go_upto_region 13 with fail
       subst hsz
       have hA:=bx_new W1 #[.int .i64 kd,.string tx,.int .i64 (v:Nat),.int .i64 (i:Nat)] 69
       have hb2:=hb1.trans (below_alloc2 hb1.size (.cells #[.int .i64 kd,.string tx,.int .i64 (v:Nat),.int .i64 (i:Nat)] 69))
       have hs2:(W1.alloc (.cells #[.int .i64 kd,.string tx,.int .i64 (v:Nat),.int .i64 (i:Nat)] 69)).heap.size=W1.heap.size+1:=by simp
       generalize W1.alloc _=W2 at hA hb2 hs2 ⊢
       have hg8:=hb1.size
       obtain ⟨e0,e1,e2,e3⟩:=bx4 hA
       have hO2:W2.ownsRow w.heap.size 69 4 (.slice A acc.length c) acc.length (tkCs acc):=ownsBelow HO0.out hb2
       obtain ⟨b8,hb8⟩:∃ b8,b8=W1.heap.size:=⟨_,rfl⟩
       rw [← hb8] at e0 e1 e2 e3 hs2 hg8 ⊢
       clear hb8
       replace hs2:b8<W2.heap.size:=by omega
       have hrd:Rd (W2.alloc (.cells #[.int .i64 kd,.string tx,.int .i64 (v:Nat),.int .i64 (i:Nat)] 69)) (W2.heap.size+1) 4 (some ⟨W2.heap.size,0,none⟩) 1 [.int .i64 kd,.string tx,.int .i64 (v:Nat),.int .i64 (i:Nat)]:=
        ⟨rfl,.inr ⟨W2.heap.size,0,rfl,by omega,fun j u hu=>by rw [Nat.zero_add]; exact bx_new W2 #[.int .i64 kd,.string tx,.int .i64 (v:Nat),.int .i64 (i:Nat)] 69 j u hu⟩⟩
       have hmx:acc.length+1≤maxLen:=by unfold maxLen; omega
       have hby:(acc.length+1) * 40≤140737488355328:=by omega
       have hwz:=hbw.size
       have hal2:(W2.alloc (.cells #[.int .i64 kd,.string tx,.int .i64 (v:Nat),.int .i64 (i:Nat)] 69)).heap.size=W2.heap.size+1:=by simp
       have hbs:w.heap.size≤(W2.alloc (.cells #[.int .i64 kd,.string tx,.int .i64 (v:Nat),.int .i64 (i:Nat)] 69)).heap.size:=by rw [hal2]; omega
       have HBA:=Lib.hid (below_alloc W2 (.cells #[.int .i64 kd,.string tx,.int .i64 (v:Nat),.int .i64 (i:Nat)] 69))
       have HO2:=Lib.hid hO2
       have HBW:=Lib.hid (hbw.trans (hb2.mono hbw.size))
       have HE1:=Lib.hid e1
       clear hO2 hA hb1 hbw
       go_upto_region 16 with (at_builtin; refine wpList_append_rd rfl (.tmp 43) (.tmp 45) _ rfl w.heap.size 69 i0 (.agg #[.int .i64 0,.string ⟨#[]⟩,.int .i64 0,.int .i64 0]) 4 40 Tryz.underlying62 hi hz0 hz1 hz2 rfl (by omega) _ _ _ rfl (World.ownsRow.alloc HO2.out _) (W2.heap.size+1) (some ⟨W2.heap.size,0,none⟩) 1 1 _ rfl hrd (by simp [Value.oneCell']) hmx hby hbs ?_; intro v2 w3 hown2 hg2 hob2)
       obtain ⟨A2,c2,rfl⟩:=own_form hown2
       have hltT:∀ k,(Value.slice A acc.length c).ownBlock=some k→w.heap.size≤k∧k<wr.heap.size:=fun k e=>World.ownsRow.lt HO0.out k e
       have c1:w3.cell? ⟨b8,1,none⟩=some (.string tx):=(hg2.cell_far ⟨b8,1,none⟩ (by show b8<_; rw [hal2]; omega) (fun e=>by have:=(hltT b8 e.symm).2; omega)).trans ((HBA.out.cell (p:=⟨b8,1,none⟩) (by show b8<_; omega)).trans HE1.out)
       have hb3:Below w.heap.size w w3:=(HBW.out.trans (HBA.out.mono (by omega))).grown hg2 hbs (fun k e=>(hltT k e).1)
       have hO3:OwnT w3 w.heap.size (.slice A2 (acc.length+1) c2) (acc++[⟨kd,tx,v,i⟩]):=by
        unfold OwnT
        rw [tkCs_app,List.length_append]
        exact hown2
       obtain ⟨i2,hi2⟩:∃ i2,i2=i+tx.size:=⟨_,rfl⟩
       have hw5:IntKind.i64.wrap ((i:Int)+(tx.size:Int))=(i2:Int):=by rw [IntKind.wrap_i64]; omega
       have hi2s:i2≤s.size:=by omega
       have HBL:=Lib.hid (HB2.out i2 hi2s)
       have hK3:=HK2.out i2 hi2s
       have HV3:Hid (E=toksF s f (i2+skipN false (s.data.toList.drop i2)) (acc++[⟨kd,tx,v,i⟩])):=Lib.hid (by rw [HV2.out,hi2])
       generalize hi3:i2+skipN false (s.data.toList.drop i2)=i3 at HBL hK3 HV3
       have hi23:i2≤i3:=by omega
       have HOT:=Lib.hid hO3
       have HBB:=Lib.hid hb3
       unfold Ret at HBL
       have hlen2:acc.length+1=(acc++[(⟨kd,tx,v,i⟩:Tk)]).length:=by rw [List.length_append]; rfl
       generalize acc++[(⟨kd,tx,v,i⟩:Tk)]=acc2 at hlen2 HV3 HOT
       have hf3:s.size<i3+f:=by omega
       have hal3:acc2.length≤i3:=by omega
       have hme:s.size - i3<s.size - i:=by omega
       have HOU:Hid (∀ W,Below w3.heap.size w3 W→OwnT W w.heap.size (.slice A2 (acc.length+1) c2) acc2):=Lib.hid (fun W hb=>ownsBelow HOT.out hb)
       have HBV:Hid (∀ W,Below w3.heap.size w3 W→Below w.heap.size w W):=Lib.hid (fun W hb=>HBB.out.trans (hb.mono HBB.out.size))
       have HLN:=Lib.hid hlen2
       clear hlen2 hi2
       clear hi3 hO3 hb3 hown2 hrd HV2 HB2 HK2 hg2 hob2 hltT
       go_wp2_with (go_at_call 45; refine (HBL.out _).mono ?_; rintro e W5 ⟨rfl,hbl⟩)
       exact ⟨⟨i3,f,acc2,A2,acc.length+1,c2,rfl,HLN.out,rfl,hK3,hf3,hal3,HV3,HOU.out _ hbl,HBV.out _ hbl⟩,by simp only [intOf,Int.toNat_natCast]; exact hme⟩
   ·have d1:decide ((i:Int)<(s.size:Int))=false:=decide_eq_false (by omega)
    have d2:decide (i<s.size)=false:=decide_eq_false hlt
    have HV2:Hid (E=.ok (acc++[⟨0,ByteArray.empty,0,s.size⟩])):=Lib.hid (by rw [HV.out,toksF,if_neg hlt])
    have hrd:Rd (wr.alloc (.cells #[.int .i64 0,.string ⟨#[]⟩,.int .i64 0,.int .i64 (s.size:Nat)] 69)) (wr.heap.size+1) 4 (some ⟨wr.heap.size,0,none⟩) 1 [.int .i64 0,.string ⟨#[]⟩,.int .i64 0,.int .i64 (s.size:Nat)]:=
     ⟨rfl,.inr ⟨wr.heap.size,0,rfl,by omega,fun j u hu=>by rw [Nat.zero_add]; exact bx_new wr #[.int .i64 0,.string ⟨#[]⟩,.int .i64 0,.int .i64 (s.size:Nat)] 69 j u hu⟩⟩
    have hmx:acc.length+1≤maxLen:=by unfold maxLen; omega
    have hby:(acc.length+1) * 40≤140737488355328:=by omega
    have hwz:=hbw.size
    have hal2:(wr.alloc (.cells #[.int .i64 0,.string ⟨#[]⟩,.int .i64 0,.int .i64 (s.size:Nat)] 69)).heap.size=wr.heap.size+1:=by simp
    have hbs:w.heap.size≤(wr.alloc (.cells #[.int .i64 0,.string ⟨#[]⟩,.int .i64 0,.int .i64 (s.size:Nat)] 69)).heap.size:=by rw [hal2]; omega
    have HBA:=Lib.hid (below_alloc wr (.cells #[.int .i64 0,.string ⟨#[]⟩,.int .i64 0,.int .i64 (s.size:Nat)] 69))
    have HO2:=Lib.hid hown0
    have HBW:=Lib.hid hbw
    clear hown hown0 hbw hlt HV
    go_wp2_with (at_builtin; refine wpList_append_rd rfl (.tmp 52) (.tmp 56) _ rfl w.heap.size 69 i0 (.agg #[.int .i64 0,.string ⟨#[]⟩,.int .i64 0,.int .i64 0]) 4 40 Tryz.underlying62 hi hz0 hz1 hz2 rfl (by omega) _ _ _ rfl (World.ownsRow.alloc HO2.out _) (wr.heap.size+1) (some ⟨wr.heap.size,0,none⟩) 1 1 _ rfl hrd (by simp [Value.oneCell']) hmx hby hbs ?_; intro v2 w3 hown2 hg2 hob2)
    go_ret3
    rw [HV2.out]
    refine ⟨_,rfl,?_,(HBW.out.trans (HBA.out.mono (by omega))).grown hg2 hbs (fun k e=>(World.ownsRow.lt HO2.out k e).1)⟩
    unfold OwnT
    rw [tkCs_app,List.length_append]
    exact hown2
end Go.Proofs.YtmbffkemfepekaaGreatDoor

namespace Go.Proofs.YtmbffkemfepekaaGreatDoor
open Go.RowKit Go.Instr
/-- What the first entry with a key holds. -/
def findKS:List (ByteArray × Value)→ByteArray→Nat→Option (Nat × Value)
 | [],_,_=>none
 | (k,v)::r,x,i=>if x=k then some (i,v) else findKS r x (i+1)
/-- Block b is a map from strings with those entries. -/
def MapKS (W:World) (b:Nat) (kv:List (ByteArray × Value)):Prop:=∃ es clock,W.heap[b]? = some (.map es clock)∧es.toList.map (fun e=>(e.key,e.val))=kv.map fun x=>(Value.string x.1,x.2)
theorem findNow_ks:∀ (es:List MapEntry) (kv:List (ByteArray × Value)) (x:ByteArray) (i:Nat),es.map (fun e=>(e.key,e.val))=kv.map (fun x=>(Value.string x.1,x.2))→findNow .string (.string x) es i=some (findKS kv x i)
 | [],[],_,_,_=>rfl
 | [],_::_,_,_,h=>by simp at h
 | _::_,[],_,_,h=>by simp at h
 | e::es,(k,v)::kv,x,i,h=>by
  simp only [List.map_cons,List.cons.injEq,Prod.mk.injEq] at h
  obtain ⟨⟨h1,h2⟩,h3⟩:=h
  unfold findNow findKS
  rw [h1,h2]
  by_cases hx:x=k
  ·subst hx
   have hb:(x == x)=true:=(MapKept.bytes_beq x x).2 rfl
   simp [sameNow,hb]
  ·have hb:(x == k)=false:=by
    cases hh:x == k with
    | false=>rfl
    | true=>exact absurd ((MapKept.bytes_beq x k).1 hh) hx
   simp only [sameNow,hb,if_neg hx]
   exact findNow_ks es kv x (i+1) h3
theorem MapKS.below {W W':World} {b B:Nat} {kv:List (ByteArray × Value)} (h:MapKS W b kv) (hb:Below B W W') (hB:b<B):MapKS W' b kv:=by
 obtain ⟨es,clock,h1,h2⟩:=h
 exact ⟨es,clock,(hb.block b hB).trans h1,h2⟩
theorem MapKS.lt {W:World} {b:Nat} {kv:List (ByteArray × Value)} (h:MapKS W b kv):b<W.heap.size:=by
 obtain ⟨es,clock,h1,h2⟩:=h
 exact (Array.getElem?_eq_some_iff.1 h1).1
theorem MapKS.new (w:World):MapKS (w.alloc (.map #[] 0)) w.heap.size []:=⟨#[],0,World.alloc_heap_new w _,rfl⟩
theorem isMap_sig:Tryz.prog.underlying 238=some (.map 9 237):=Tryz.underlying238
/-- A look into such a map. -/
theorem MapKS.look {W:World} {b:Nat} {kv:List (ByteArray × Value)} (h:MapKS W b kv) (x:ByteArray):(Instr.lookup 238 (.map (some b)) (.string x) false).run Tryz.prog W =
  .ok (match findKS kv x 0 with | some (_,v)=>v | none=>.agg #[.int .i64 0,.int .i64 0]) W:=by
 obtain ⟨es,clock,h1,h2⟩:=h
 have hz:(zeroValue 237).run Tryz.prog W=.ok (.agg #[.int .i64 0,.int .i64 0]) W:=by kernel_rfl
 have hf:=findNow_ks es.toList kv x 0 h2
 have hck:(checkKey es.isEmpty 10000 9 (.string x)).run Tryz.prog W=.ok () W:=by
  exact MapKept.run_checkKey Tryz.underlying9 (by simp [MapKept.IsKey]) _ 9999
 simp only [Instr.lookup,Sem.run_bind,run_underlying isMap_sig,Result.andThen,getObj,Sem.run,h1,hck,findKey,run_underlying Tryz.underlying9,hf,Sem.run_pure]
 cases findKS kv x 0 with
 | none=>simp [hz]
 | some p=>obtain ⟨i,v⟩:=p; simp [Sem.run_pure]
/-- A new key is put in. -/
theorem MapKS.put {W:World} {b:Nat} {kv:List (ByteArray × Value)} (h:MapKS W b kv) (x:ByteArray) (v:Value) (hn:findKS kv x 0=none) :
  ∃ W',(Instr.mapUpdate 238 (.map (some b)) (.string x) v).run Tryz.prog W=.ok () W'∧MapKS W' b (kv++[(x,v)])∧Turn b (b+1) W W'∧W'.heap.size=W.heap.size:=by
 obtain ⟨es,clock,h1,h2⟩:=h
 have hlt:=(Array.getElem?_eq_some_iff.1 h1).1
 have hf:=findNow_ks es.toList kv x 0 h2
 rw [hn] at hf
 have hck:(checkKey false 10000 9 (.string x)).run Tryz.prog W=.ok () W:=by
  exact MapKept.run_checkKey Tryz.underlying9 (by simp [MapKept.IsKey]) _ 9999
 refine ⟨W.putObj b (.map (es.push { key:=.string x,val:=v,born:=clock }) (clock+1)),?_,⟨_,_,World.putObj_heap_same hlt,by simp [h2]⟩,⟨rfl,rfl,rfl,by simp [World.putObj],fun k hk hr=>World.putObj_heap_other (by omega)⟩,by simp [World.putObj]⟩
 simp only [Instr.mapUpdate,Sem.run_bind,run_underlying isMap_sig,Result.andThen,getObj,Sem.run,h1,hck,findKey,run_underlying Tryz.underlying9,hf,Sem.run_pure,setObj]
 rfl
structure SgSt (w:World) (M:Nat) (kv:List (ByteArray × Value)) (W:World):Prop where
 map:MapKS W M kv
 below:Below M w W
theorem SgSt.put {w W W':World} {M:Nat} {kv kv':List (ByteArray × Value)} (h:SgSt w M kv W) (hm:MapKS W' M kv') (ht:Turn M (M+1) W W'):SgSt w M kv' W':=
 ⟨hm,h.below.trans (ht.below (Nat.le_of_lt h.map.lt))⟩
def sgV (a b:Int):Value:=.agg #[.int .i64 a,.int .i64 b]
def sgKV:List (ByteArray × Value):=[(⟨#[124,124]⟩,sgV 15 1),(⟨#[38,38]⟩,sgV 14 2),(⟨#[61,61]⟩,sgV 8 3),(⟨#[33,61]⟩,sgV 9 3),(⟨#[60]⟩,sgV 10 3),(⟨#[60,61]⟩,sgV 11 3),(⟨#[62]⟩,sgV 12 3),(⟨#[62,61]⟩,sgV 13 3),(⟨#[43]⟩,sgV 3 4),(⟨#[45]⟩,sgV 4 4),(⟨#[42]⟩,sgV 5 5),(⟨#[47]⟩,sgV 6 5),(⟨#[37]⟩,sgV 7 5)]
theorem bytes_ne {s:ByteArray} {l:List UInt8} (h:¬ s=⟨l.toArray⟩):¬ s.data.toList=l:=fun e=>h (by
 cases s with
 | mk d=>simp only at e; rw [← e])
theorem sg_find (s:ByteArray):(match findKS sgKV s 0 with | some (_,v)=>v | none=>.agg #[.int .i64 0,.int .i64 0])=.agg #[.int .i64 (opS s.data.toList).1,.int .i64 ((opS s.data.toList).2:Nat)]:=by
 by_cases h1:s=⟨#[124,124]⟩
 ·subst h1; rfl
 by_cases h2:s=⟨#[38,38]⟩
 ·subst h2; rfl
 by_cases h3:s=⟨#[61,61]⟩
 ·subst h3; rfl
 by_cases h4:s=⟨#[33,61]⟩
 ·subst h4; rfl
 by_cases h5:s=⟨#[60]⟩
 ·subst h5; rfl
 by_cases h6:s=⟨#[60,61]⟩
 ·subst h6; rfl
 by_cases h7:s=⟨#[62]⟩
 ·subst h7; rfl
 by_cases h8:s=⟨#[62,61]⟩
 ·subst h8; rfl
 by_cases h9:s=⟨#[43]⟩
 ·subst h9; rfl
 by_cases h10:s=⟨#[45]⟩
 ·subst h10; rfl
 by_cases h11:s=⟨#[42]⟩
 ·subst h11; rfl
 by_cases h12:s=⟨#[47]⟩
 ·subst h12; rfl
 by_cases h13:s=⟨#[37]⟩
 ·subst h13; rfl
 have e1:findKS sgKV s 0=none:=by
  unfold sgKV findKS
  rw [if_neg h1,findKS,if_neg h2,findKS,if_neg h3,findKS,if_neg h4,findKS,if_neg h5,findKS,if_neg h6,findKS,if_neg h7,findKS,if_neg h8,findKS,if_neg h9,findKS,if_neg h10,findKS,if_neg h11,findKS,if_neg h12,findKS,if_neg h13,findKS]
 have e2:opS s.data.toList=(0,0):=by
  unfold opS
  rw [if_neg (bytes_ne h1),if_neg (bytes_ne h2),if_neg (bytes_ne h3),if_neg (bytes_ne h4),if_neg (bytes_ne h5),if_neg (bytes_ne h6),if_neg (bytes_ne h7),if_neg (bytes_ne h8),if_neg (bytes_ne h9),if_neg (bytes_ne h10),if_neg (bytes_ne h11),if_neg (bytes_ne h12),if_neg (bytes_ne h13)]
 rw [e1,e2]
 rfl
set_option maxRecDepth 100000 in
set_option maxHeartbeats 3200000 in
theorem sigs_any (s:ByteArray) (w:World):Calls Tryz.prog 159 #[.string s] w (Ret (.tuple #[.int .i64 (opS s.data.toList).1,.int .i64 ((opS s.data.toList).2:Nat)]) w):=by
 have HV:=Lib.hid (sg_find s)
 generalize (opS s.data.toList).1=o at HV ⊢
 generalize (opS s.data.toList).2=p at HV ⊢
 obtain ⟨M,hM⟩:∃ M,M=w.heap.size:=⟨_,rfl⟩
 unfold Ret
 rw [← hM]
 have hS:SgSt w M [] (w.alloc (.map #[] 0)):=⟨by rw [hM]; exact MapKS.new w,by rw [hM]; exact below_alloc w _⟩
 have hw:w.heap.size=M:=hM.symm
 have hmm:=@run_makeMap Tryz.prog
 clear hM
 go_enter Tryz.func159,Tryz.ntmps159
 iterate 13
  go_wp2_with fail
  refine upon_skip (hS.map.put _ _ (by rfl)) ?_
  rintro W6 ⟨hm5,ht5,-⟩
  replace hS:=hS.put hm5 ht5
  clear hm5 ht5
 have hS2:SgSt w M sgKV W6:=hS
 have hlk:(Instr.lookup 238 (.map (some M)) (.string s) false).run Tryz.prog W6=.ok (.agg #[.int .i64 o,.int .i64 (p:Nat)]) W6:=by rw [hS2.map.look s,HV.out]
 have HB:=Lib.hid hS2.below
 have hlt:=hS2.map.lt
 clear hS hS2 HV hmm
 go_upto_region 3 with fail
 have hA:=bx_new W6 #[.int .i64 o,.int .i64 (p:Nat)] 237
 have hb:=HB.out.trans (below_alloc2 (Nat.le_of_lt hlt) (.cells #[.int .i64 o,.int .i64 (p:Nat)] 237))
 generalize W6.alloc _=W7 at hA hb ⊢
 obtain ⟨d0,d1⟩:=bx2 hA
 have HB7:=Lib.hid hb
 clear hA hb hlk HB
 go_quiet (fail)
 go_wp2_with fail
 go_ret2
 exact ⟨rfl,HB7.out.trans (below_drews _ _ _)⟩
end Go.Proofs.YtmbffkemfepekaaGreatDoor

namespace Go.Proofs.YtmbffkemfepekaaGreatDoor
open Go.RowKit
theorem idx_step (b:UInt8) (l sub:List UInt8):0≤Lib.index (b::l) sub↔sub.isPrefixOf (b::l)=true∨0≤Lib.index l sub:=by
 have hg:=Lib.index_ge l sub
 rw [Lib.index]
 by_cases h:sub.isPrefixOf (b::l)=true
 ·rw [if_pos h]
  simp [h]
 ·rw [if_neg h]
  by_cases h1:Lib.index l sub = -1
  ·rw [if_pos (by simpa using h1),h1]
   simp [h]
  ·rw [if_neg (by simpa using h1)]
   simp only [h]
   constructor
   ·intro _; omega
   ·intro _; omega
theorem idx_skip (t rest:List UInt8):∀ k:List UInt8,(32:UInt8)∉k→(0≤Lib.index (k++rest) (32::t)↔0≤Lib.index rest (32::t))
 | [],_=>Iff.rfl
 | c::k,h=>by
  rw [List.cons_append,idx_step]
  have h1:((32:UInt8)::t).isPrefixOf (c::(k++rest))=false:=by
   have hc:((32:UInt8) == c)=false:=by
    cases hh:(32:UInt8) == c with
    | false=>rfl
    | true=>exact absurd (by simp [← eq_of_beq hh]) h
   simp [List.isPrefixOf,hc]
  rw [h1]
  simp only [Bool.false_eq_true,false_or]
  exact idx_skip t rest k (fun hm=>h (List.mem_cons_of_mem _ hm))
theorem kw_pre (rest:List UInt8):∀ (s k:List UInt8),(32:UInt8)∉s→(32:UInt8)∉k→((s++[32]).isPrefixOf (k++32::rest)=true↔s=k)
 | [],[],_,_=>by simp [List.isPrefixOf]
 | [],c::k,_,hk=>by
  have hc:((32:UInt8) == c)=false:=by
   cases hh:(32:UInt8) == c with
   | false=>rfl
   | true=>exact absurd (by simp [← eq_of_beq hh]) hk
  simp [List.isPrefixOf,hc]
 | a::s,[],hs,_=>by
  have hc:(a == (32:UInt8))=false:=by
   cases hh:a == (32:UInt8) with
   | false=>rfl
   | true=>exact absurd (by simp [← eq_of_beq hh]) hs
  simp [List.isPrefixOf,hc]
 | a::s,c::k,hs,hk=>by
  have ih:=kw_pre rest s k (fun hm=>hs (List.mem_cons_of_mem _ hm)) (fun hm=>hk (List.mem_cons_of_mem _ hm))
  simp only [List.cons_append,List.isPrefixOf,Bool.and_eq_true,ih,beq_iff_eq,List.cons.injEq]
/-- Words, each behind a blank, and a blank at the end. -/
def wordsL:List (List UInt8)→List UInt8
 | []=>[32]
 | k::ks=>32::(k++wordsL ks)
theorem words_head (ks:List (List UInt8)):∃ r,wordsL ks=32::r:=by
 cases ks with
 | nil=>exact ⟨_,rfl⟩
 | cons k ks=>exact ⟨_,rfl⟩
theorem words_iff (s:List UInt8) (hs:(32:UInt8)∉s):∀ ks:List (List UInt8),(∀ k∈ks,(32:UInt8)∉k)→(0≤Lib.index (wordsL ks) (32::(s++[32]))↔s∈ks)
 | [],_=>by
  rw [wordsL,idx_step]
  have h1:((32:UInt8)::(s++[32])).isPrefixOf [32]=false:=by cases s <;> simp [List.isPrefixOf]
  rw [h1]
  simp [Lib.index]
 | k::ks,hk=>by
  have ih:=words_iff s hs ks (fun k' h=>hk k' (List.mem_cons_of_mem _ h))
  have hkk:=hk k (List.mem_cons_self ..)
  rw [wordsL,idx_step,idx_skip _ _ k hkk,ih]
  obtain ⟨r,hr⟩:=words_head ks
  rw [hr]
  have h1:=kw_pre r s k hs hkk
  rw [List.mem_cons,← h1]
  simp [List.isPrefixOf]
def wordsB:ByteArray:=⟨(wordsL kwL).toArray⟩
theorem kw_noblank:∀ k∈kwL,(32:UInt8)∉k:=by decide +kernel
theorem kw_words (s:ByteArray) (hs:(32:UInt8)∉s.data.toList):Lib.contains wordsB.data.toList (32::(s.data.toList++[32]))=kwB s:=by
 have h:=words_iff s.data.toList hs kwL kw_noblank
 unfold Lib.contains kwB
 rw [Bool.eq_iff_iff,decide_eq_true_iff,List.contains_iff_mem]
 exact h
theorem calls_arg {P:Program} {f:Nat} {a b:ByteArray} {x:Value} {w:World} {Q:Ending→World→Prop} (h:a=b) (H:Calls P f #[.string b,x] w Q):Calls P f #[.string a,x] w Q:=by subst h; exact H
theorem words_size:wordsB.size<4294967281:=by decide +kernel
set_option maxRecDepth 100000 in
set_option maxHeartbeats 1600000 in
theorem keyword_any (s:ByteArray) (hs:s.size≤140737488355328) (w:World) (m:Int) (hm:w.cell? ⟨0,0,none⟩=some (.int .i64 m)):Calls Tryz.prog 185 #[.string s] w (RetP (.bool (kwB s)) w):=by
 have HC1:=Lib.hid (Tryz.strings_Contains_one s 32 w)
 have HC2:=Lib.hid (Tryz.strings_Contains wordsB (⟨#[32]⟩++s ++ ⟨#[32]⟩) m w words_size hm)
 have HI:Hid (decide (0≤Lib.indexByte s.data.toList 32)=true↔(32:UInt8)∈s.data.toList):=Lib.hid (by rw [decide_eq_true_iff]; exact (idx_has 32 s.data.toList).1)
 have HK:Hid ((32:UInt8)∈s.data.toList→kwB s=false):=Lib.hid (fun h=>by
  cases hk:kwB s with
  | false=>rfl
  | true=>exact absurd h (kw_noblank _ (by unfold kwB at hk; simpa using hk)))
 have HW:=Lib.hid (kw_words s)
 have hap:(⟨#[32]⟩++s ++ ⟨#[32]⟩:ByteArray).data.toList=32::(s.data.toList++[32]):=by simp
 rw [hap] at HC2
 have l1:¬ 9223372036854775807<1+s.size:=by omega
 have l2:¬ 9223372036854775807<1+s.size+1:=by omega
 clear hm
 unfold RetP
 by_cases h0:s=⟨#[]⟩
 ·subst h0
  have HV:Hid (kwB ⟨#[]⟩=false):=Lib.hid (by decide +kernel)
  clear HC1 HC2 HI HK HW hap
  go_enter Tryz.func185,Tryz.ntmps185
  go_wp2_with fail
  go_ret
  exact ⟨by rw [HV.out]; rfl,rfl⟩
 ·have n1:(s == ⟨#[]⟩)=false:=by
   cases hh:s == (⟨#[]⟩:ByteArray) with
   | false=>rfl
   | true=>exact absurd ((MapKept.bytes_beq _ _).1 hh) h0
  have n2:¬ s.toList=[]:=fun h=>h0 (by
   rw [Lib.toList_data] at h
   cases s with
   | mk d=>
    have h2:d=#[]:=by simpa using h
    rw [h2])
  have n3:s.toList.isEmpty=false:=by
   cases hh:s.toList with
   | nil=>exact absurd hh n2
   | cons a l=>rfl
  cases hb:decide (0≤Lib.indexByte s.data.toList 32) with
  | true=>
   have HV:Hid (kwB s=false):=Lib.hid (HK.out (HI.out.1 hb))
   rw [hb] at HC1
   clear HC2 HI HK HW hap hb
   go_enter Tryz.func185,Tryz.ntmps185
   go_wp2_with (go_at_call 79; refine HC1.out.mono ?_; rintro e W5 ⟨rfl,hw⟩; obtain rfl:w=W5:=hw.symm)
   go_ret
   exact ⟨by rw [HV.out]; rfl,rfl⟩
  | false=>
   have hno:(32:UInt8)∉s.data.toList:=fun h=>by rw [HI.out.2 h] at hb; cases hb
   have hkk:=HW.out hno
   rw [hkk] at HC2
   rw [hb] at HC1
   generalize kwB s=kb at HC2 ⊢
   clear HI HK HW hap hb hkk hno
   go_enter Tryz.func185,Tryz.ntmps185
   go_wp2_with (first
    | (go_at_call 79; refine HC1.out.mono ?_; rintro e W5 ⟨rfl,hw⟩; obtain rfl:w=W5:=hw.symm)
    | (go_at_call 79; refine calls_arg (b:=wordsB) (by kernel_rfl) ?_; refine HC2.out.mono ?_; rintro e W5 ⟨rfl,hw⟩; obtain rfl:w=W5:=hw.symm))
   go_ret
   exact ⟨rfl,rfl⟩
end Go.Proofs.YtmbffkemfepekaaGreatDoor
