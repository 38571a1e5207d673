/- Plain mathematics: reading what was written. Conditions: none. -/
import Derived.Test.YtaficbkaofhjeaaDoorRdM
import Derived.Test.YtaficbkaofhjeaaDoorDecM
namespace Go.Proofs.YtaficbkaofhjeaaDoor

theorem dg_len8 {m : Nat} (h : m ≤ 4611686018427387904) : (dg m).length ≤ 8 := by
  have := dgB_len8 h
  simpa [dgB, bts] using this
theorem isNeg_pos {k : Nat} (h : k ≤ 8) : isNeg (UInt8.ofNat (128 + k)) = false ∧ more (UInt8.ofNat (128 + k)) = k := by
  have e : (UInt8.ofNat (128 + k)).toNat = 128 + k := by simp; omega
  have e1 : isNeg (UInt8.ofNat (128 + k)) = false := by unfold isNeg; rw [e]; simp; omega
  refine ⟨e1, ?_⟩
  unfold more
  rw [e1, e]; simp
theorem isNeg_neg {k : Nat} (h : k ≤ 8) : isNeg (UInt8.ofNat (127 - k)) = true ∧ more (UInt8.ofNat (127 - k)) = k := by
  have e : (UInt8.ofNat (127 - k)).toNat = 127 - k := by simp; omega
  have e1 : isNeg (UInt8.ofNat (127 - k)) = true := by unfold isNeg; rw [e]; simp
  refine ⟨e1, ?_⟩
  unfold more
  rw [e1, e]; simp; omega
theorem valB_enc (neg : Bool) (m : Nat) : valB neg (if neg then (dgB m).map (255 - ·) else dgB m) = m := by
  rw [valB_digs]
  cases neg
  · simp only [Bool.false_eq_true, if_false]
    rw [dg_bytes, valN_dg]
  · simp only [if_true]
    rw [dgB, digs_bts_neg _ (dg_lt m), valN_dg]
theorem rdInt_of_valI (neg : Bool) (m : Nat) (hm : m ≤ 4611686018427387904) (hn : neg = true → m ≠ 4611686018427387904) (rest : List UInt8) : rdInt (encB (valI neg m) ++ rest) = (valI neg m, (encB (valI neg m)).length, 0) := by
  have h8 := dg_len8 hm
  obtain ⟨hd, body, hh, hbd, he, h1, h2, h3⟩ : ∃ (hd : UInt8) (body : List UInt8), hd = UInt8.ofNat (if neg then 127 - (dg m).length else 128 + (dg m).length) ∧ body = (if neg then (dgB m).map (255 - ·) else dgB m) ∧ encB (valI neg m) = hd :: body ∧ isNeg hd = neg ∧ more hd = (dg m).length ∧ body.length = (dg m).length := by
    refine ⟨_, _, rfl, rfl, encB_valI neg m, ?_, ?_, ?_⟩
    · cases neg
      · exact (isNeg_pos h8).1
      · exact (isNeg_neg h8).1
    · cases neg
      · exact (isNeg_pos h8).2
      · exact (isNeg_neg h8).2
    · cases neg <;> simp [dgB, bts]
  have ht : (body ++ rest).take (more hd) = body := by rw [h2, ← h3, List.take_left]
  have hv : valB neg body = m := by rw [hbd]; exact valB_enc neg m
  rw [he, List.cons_append, rdInt_fine (by omega) (by simp; omega) (by rw [ht, h1, hv]; rintro (e | ⟨e, e2⟩); omega; have := hn e; omega) (by rw [ht, h1, hv, he]), ht, h1, hv]
  simp; omega
theorem rdInt_of_enc {n : Int} (h : inR n = true) (rest : List UInt8) : rdInt (encB n ++ rest) = (n, (encB n).length, 0) := by
  rw [inR_iff] at h
  by_cases hn : 0 ≤ n
  · have e : valI false n.toNat = n := by simp [valI]; omega
    have := rdInt_of_valI false n.toNat (by omega) (by simp) rest
    rwa [e] at this
  · have e : valI true (-n - 1).toNat = n := by simp [valI]; omega
    have := rdInt_of_valI true (-n - 1).toNat (by omega) (by omega) rest
    rwa [e] at this
theorem encB_head (n : Int) (h : inR n = true) : ∃ b t, encB n = b :: t ∧ b ≠ 1 := by
  rw [inR_iff] at h
  by_cases hn : 0 ≤ n
  · have h8 := dg_len8 (m := n.toNat) (by omega)
    refine ⟨_, _, by unfold encB; rw [if_pos hn], fun e => ?_⟩
    have := congrArg UInt8.toNat e
    simp at this
    omega
  · have h8 := dg_len8 (m := (-n - 1).toNat) (by omega)
    refine ⟨_, _, by unfold encB; rw [if_neg hn], fun e => ?_⟩
    have := congrArg UInt8.toNat e
    have e2 : (UInt8.ofNat (127 - (dg (-n - 1).toNat).length)).toNat = 127 - (dg (-n - 1).toNat).length := by simp; omega
    rw [e2] at this
    have e3 : (1 : UInt8).toNat = 1 := rfl
    rw [e3] at this
    omega
/-- Reading a written list. -/
theorem rdL_of_encs (f : Nat) (ns : List Int) (hf : ns.length ≤ f) (ha : ns.all inR = true) : rdL f (encs ns ++ [1]) = (ns, (encs ns).length + 1, 0) := by
  induction f generalizing ns with
  | zero =>
    obtain rfl : ns = [] := List.length_eq_zero_iff.1 (by omega)
    exact rdL_end 0 []
  | succ f ih =>
    cases ns with
    | nil => exact rdL_end (f + 1) []
    | cons n ns =>
      simp only [List.all_cons, Bool.and_eq_true] at ha
      obtain ⟨b, t, e, hb⟩ := encB_head n ha.1
      have hr := rdInt_of_enc ha.1 (encs ns ++ [1])
      have hi := ih ns (by simpa using hf) ha.2
      have h0 : encs (n :: ns) ++ [1] = encB n ++ (encs ns ++ [1]) := by simp [encs]
      have hl : (encs (n :: ns)).length = (encB n).length + (encs ns).length := by simp [encs]
      rw [h0, hl]
      rw [e, List.cons_append] at hr ⊢
      unfold rdL
      simp only [if_neg hb, hr, if_true]
      rw [show (b :: (t ++ (encs ns ++ [1]))).drop (b :: t).length = encs ns ++ [1] from by rw [← List.cons_append, List.drop_left]]
      rw [hi]
      simp; omega
/-- What was read is the writing of it. -/
theorem rdL_enc (f : Nat) (t : List UInt8) (h : (rdL f t).2.2 = 0) : t.take (rdL f t).2.1 = encs (rdL f t).1 ++ [1] ∧ (rdL f t).1.length ≤ f ∧ (rdL f t).1.all inR = true ∧ (rdL f t).2.1 ≤ t.length := by
  induction f generalizing t with
  | zero =>
    cases t with
    | nil => rw [rdL_short] at h; cases h
    | cons b t =>
      by_cases hb : b = 1
      · subst hb; rw [rdL_end]; simp [encs]
      · rw [rdL_limit t hb] at h; cases h
  | succ f ih =>
    cases t with
    | nil => rw [rdL_short] at h; cases h
    | cons b t =>
      by_cases hb : b = 1
      · subst hb; rw [rdL_end]; simp [encs]
      · by_cases hi : (rdInt (b :: t)).2.2 = 0
        · have he := rdInt_enc hi
          have hs := rdInt_size hi
          have heq : rdL (f + 1) (b :: t) = (if (rdL f ((b :: t).drop (rdInt (b :: t)).2.1)).2.2 = 0 then ((rdInt (b :: t)).1 :: (rdL f ((b :: t).drop (rdInt (b :: t)).2.1)).1, (rdInt (b :: t)).2.1 + (rdL f ((b :: t).drop (rdInt (b :: t)).2.1)).2.1, 0) else ([], 0, (rdL f ((b :: t).drop (rdInt (b :: t)).2.1)).2.2)) := by
            rw [rdL]; simp only [if_neg hb, if_pos hi]
          by_cases hq : (rdL f ((b :: t).drop (rdInt (b :: t)).2.1)).2.2 = 0
          · rw [if_pos hq] at heq
            obtain ⟨i1, i2, i3, i4⟩ := ih _ hq
            rw [heq]
            refine ⟨?_, by simpa using i2, by simp only [List.all_cons, he.2, i3, Bool.and_self], ?_⟩
            · simp only []
              rw [List.take_add, i1, ← he.1]; simp [encs]
            · simp only []
              have : ((b :: t).drop (rdInt (b :: t)).2.1).length = (b :: t).length - (rdInt (b :: t)).2.1 := List.length_drop
              have h5 : (rdInt (b :: t)).2.1 ≤ (b :: t).length := by rw [hs.1]; simp; omega
              omega
          · rw [if_neg hq] at heq
            rw [heq] at h
            exact absurd h hq
        · rw [rdL_err hb hi] at h
          exact absurd h hi
theorem rdList_full {L : List UInt8} {ns : List Int} (h : rdList L = (ns, L.length, 0)) : L = listTxt ns ∧ listErr ns = 0 := by
  have h' : rdL 20000 L = (ns, L.length, 0) := h
  have := rdL_enc 20000 L (by rw [h'])
  rw [h'] at this
  obtain ⟨h1, h2, h3, _⟩ := this
  simp only [List.take_length] at h1 h2 h3
  exact ⟨by rw [listTxt_ok (by omega) h3]; exact h1, listErr_ok (by omega) h3⟩
theorem rdList_of_txt {ns : List Int} (h : listErr ns = 0) : rdList (listTxt ns) = (ns, (listTxt ns).length, 0) := by
  have hl : ¬ 20000 < ns.length := fun e => by rw [listErr_long e] at h; cases h
  have ha : ns.all inR = true := by
    cases hb : ns.all inR
    · rw [listErr_bad hl hb] at h; cases h
    · rfl
  rw [listTxt_ok hl ha]
  have := rdL_of_encs 20000 ns (by omega) ha
  rw [rdList, this]; simp
end Go.Proofs.YtaficbkaofhjeaaDoor
