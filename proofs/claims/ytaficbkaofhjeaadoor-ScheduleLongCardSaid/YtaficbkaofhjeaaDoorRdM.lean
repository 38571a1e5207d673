/- Plain mathematics of reading an integer, and a list of integers. Conditions: none. -/
import Derived.Test.YtaficbkaofhjeaaDoorListM
namespace Go.Proofs.YtaficbkaofhjeaaDoor

theorem snoc_ind {α : Type} {p : List α → Prop} (h0 : p []) (h1 : ∀ l a, p l → p (l ++ [a])) (l : List α) : p l := by
  have h : ∀ l : List α, p l.reverse := by
    intro l
    induction l with
    | nil => exact h0
    | cons a l ih => rw [List.reverse_cons]; exact h1 _ _ ih
  rw [← List.reverse_reverse l]
  exact h _

/-- The number whose digits (complemented, if neg) are l. -/
def valB (neg : Bool) (l : List UInt8) : Nat := l.foldl (fun n b => n * 256 + (if neg then 255 - b.toNat else b.toNat)) 0
theorem valB_snoc (neg : Bool) (l : List UInt8) (b : UInt8) : valB neg (l ++ [b]) = valB neg l * 256 + (if neg then 255 - b.toNat else b.toNat) := by
  simp [valB]
theorem valB_lt (neg : Bool) (l : List UInt8) : valB neg l < 256 ^ l.length := by
  induction l using snoc_ind with
  | h0 => simp [valB]
  | h1 l b ih =>
    rw [valB_snoc, List.length_append, List.length_singleton, Nat.pow_succ]
    have hb := b.toNat_lt
    split <;> omega

/-- What the first byte says: is the number negative, and how many bytes follow? -/
def isNeg (h : UInt8) : Bool := decide (h.toNat ≤ 127)
def more (h : UInt8) : Nat := if isNeg h then 127 - h.toNat else h.toNat - 128

/-- Reading an integer: the value, the size, the error. -/
def rdInt : List UInt8 → Int × Nat × Int
  | [] => (0, 0, 11)
  | h :: t =>
    if 8 < more h then (0, 0, 12)
    else if t.length < more h then (0, 0, 11)
    else
      let m := valB (isNeg h) (t.take (more h))
      if 4611686018427387904 < m ∨ isNeg h = true ∧ 4611686018427387904 ≤ m then (0, 0, 12)
      else
        let n : Int := if isNeg h then -(m : Int) - 1 else m
        if encB n = h :: t.take (more h) then (n, 1 + more h, 0) else (0, 0, 12)

/-- The digits of a number are bytes again. -/
theorem dg_append (m : Nat) (b : Nat) (hb : b < 256) (h : m * 256 + b ≠ 0) : dg (m * 256 + b) = dg m ++ [b] := by
  rw [dg_pos h]
  congr 2
  · congr 1; omega
  · omega
/-- Numbers as a value in base 256. -/
def valN (l : List Nat) : Nat := l.foldl (fun n b => n * 256 + b) 0
theorem valN_snoc (l : List Nat) (b : Nat) : valN (l ++ [b]) = valN l * 256 + b := by simp [valN]
theorem valN_dg (m : Nat) : valN (dg m) = m := by
  induction m using Nat.strongRecOn with
  | _ m ih =>
    by_cases h0 : m = 0
    · subst h0; rw [dg_zero]; rfl
    · rw [dg_pos h0, valN_snoc, ih (m / 256) (by omega)]; omega
theorem dg_valN (l : List Nat) (hl : ∀ x ∈ l, x < 256) (h0 : ∀ x, l.head? = some x → x ≠ 0) : dg (valN l) = l := by
  induction l using snoc_ind with
  | h0 => exact dg_zero
  | h1 l b ih =>
    rw [valN_snoc]
    have hb : b < 256 := hl b (by simp)
    cases l with
    | nil =>
      have := h0 b rfl
      have e : valN [] * 256 + b = b := by simp [valN]
      rw [e, dg_pos this, show b / 256 = 0 from by omega, dg_zero, show b % 256 = b from by omega]
    | cons x l =>
      have ihh := ih (fun y hy => hl y (List.mem_append_left _ hy)) (fun y hy => h0 y (by simpa using hy))
      have hx := h0 x rfl
      have hne : valN (x :: l) ≠ 0 := by
        intro e
        rw [e, dg_zero] at ihh
        cases ihh
      rw [dg_append _ _ hb (by omega), ihh]
theorem dg_head (m : Nat) : ∀ x, (dg m).head? = some x → x ≠ 0 := by
  induction m using Nat.strongRecOn with
  | _ m ih =>
    intro x hx
    by_cases h0 : m = 0
    · subst h0; rw [dg_zero] at hx; cases hx
    · rw [dg_pos h0] at hx
      by_cases h1 : m / 256 = 0
      · rw [h1, dg_zero] at hx
        simp at hx
        omega
      · refine ih (m / 256) (by omega) x ?_
        rw [← hx, List.head?_append]
        cases hd : (dg (m / 256)).head? with
        | some y => rfl
        | none =>
          rw [List.head?_eq_none_iff] at hd
          have := valN_dg (m / 256)
          rw [hd] at this
          exact absurd this.symm h1

/-- The digits that bytes stand for. -/
def digs (neg : Bool) (l : List UInt8) : List Nat := l.map fun b => if neg then 255 - b.toNat else b.toNat
theorem valB_digs (neg : Bool) (l : List UInt8) : valB neg l = valN (digs neg l) := by
  simp only [valB, valN, digs, List.foldl_map]
theorem digs_lt (neg : Bool) (l : List UInt8) : ∀ x ∈ digs neg l, x < 256 := by
  intro x hx
  simp only [digs, List.mem_map] at hx
  obtain ⟨b, _, rfl⟩ := hx
  have := b.toNat_lt
  split <;> omega
theorem bts_digs (l : List UInt8) : bts (digs false l) = l := by
  simp only [bts, digs, List.map_map]
  rw [List.map_congr_left (g := id)]
  · simp
  · intro b _; simp [Function.comp]
theorem bts_digs_neg (l : List UInt8) : (bts (digs true l)).map (255 - ·) = l := by
  simp only [bts, digs, List.map_map]
  rw [List.map_congr_left (g := id)]
  · simp
  · intro b _
    have hb := b.toNat_lt
    apply UInt8.toNat_inj.1
    simp only [Function.comp, id, if_true]
    rw [UInt8.toNat_sub_of_le _ _ (by rw [UInt8.le_iff_toNat_le]; simp; omega)]
    simp
    omega
theorem digs_bts (l : List Nat) (h : ∀ x ∈ l, x < 256) : digs false (bts l) = l := by
  simp only [bts, digs, List.map_map]
  rw [List.map_congr_left (g := id)]
  · simp
  · intro x hx
    have := h x hx
    simp [Function.comp]
    omega
theorem digs_bts_neg (l : List Nat) (h : ∀ x ∈ l, x < 256) : digs true ((bts l).map (255 - ·)) = l := by
  simp only [bts, digs, List.map_map]
  rw [List.map_congr_left (g := id)]
  · simp
  · intro x hx
    have := h x hx
    simp only [Function.comp, id, if_true]
    rw [UInt8.toNat_sub_of_le _ _ (by rw [UInt8.le_iff_toNat_le]; simp; omega)]
    simp
    omega
theorem digs_len (neg : Bool) (l : List UInt8) : (digs neg l).length = l.length := by simp [digs]

/-- The value that a head and a body stand for. -/
def valI (neg : Bool) (m : Nat) : Int := if neg then -(m : Int) - 1 else m
theorem encB_valI (neg : Bool) (m : Nat) : encB (valI neg m) = UInt8.ofNat (if neg then 127 - (dg m).length else 128 + (dg m).length) :: (if neg then (dgB m).map (255 - ·) else dgB m) := by
  cases neg
  · simp only [valI, Bool.false_eq_true, if_false]
    unfold encB
    rw [if_pos (by omega)]; rfl
  · simp only [valI, if_true]
    unfold encB
    rw [if_neg (by omega), show (-(-(m : Int) - 1) - 1).toNat = m from by omega]
theorem dg_bytes (m : Nat) : digs false (dgB m) = dg m := digs_bts _ (dg_lt m)
theorem enc_iff (h : UInt8) (body : List UInt8) (hk : body.length = more h) (_h8 : more h ≤ 8) :
    encB (valI (isNeg h) (valB (isNeg h) body)) = h :: body ↔ ∀ x, (digs (isNeg h) body).head? = some x → x ≠ 0 := by
  rw [encB_valI, valB_digs]
  have hh := h.toNat_lt
  constructor
  · intro e x hx
    have e2 := (List.cons.inj e).2
    have e3 : dg (valN (digs (isNeg h) body)) = digs (isNeg h) body := by
      cases hn : isNeg h
      · rw [hn] at e2
        simp only [Bool.false_eq_true, if_false] at e2
        rw [← dg_bytes, e2]
      · rw [hn] at e2
        simp only [if_true] at e2
        rw [← digs_bts_neg (dg (valN (digs true body))) (dg_lt _)]
        rw [← dgB, e2]
    rw [← e3] at hx
    exact dg_head _ x hx
  · intro h0
    have e3 := dg_valN (digs (isNeg h) body) (digs_lt _ _) h0
    have hL : (digs (isNeg h) body).length = more h := by rw [digs_len, hk]
    rw [dgB, e3, hL]
    cases hn : isNeg h
    · simp only [Bool.false_eq_true, if_false, bts_digs]
      congr 1
      apply UInt8.toNat_inj.1
      unfold more
      rw [hn]
      have : ¬ h.toNat ≤ 127 := by simpa [isNeg] using hn
      simp
      omega
    · simp only [if_true, bts_digs_neg]
      congr 1
      apply UInt8.toNat_inj.1
      unfold more
      rw [hn]
      have : h.toNat ≤ 127 := by simpa [isNeg] using hn
      simp
      omega

theorem rdInt_cons {h : UInt8} {t : List UInt8} (h8 : ¬ 8 < more h) (hl : ¬ t.length < more h) :
    rdInt (h :: t) = if 4611686018427387904 < valB (isNeg h) (t.take (more h)) ∨ isNeg h = true ∧ 4611686018427387904 ≤ valB (isNeg h) (t.take (more h)) then (0, 0, 12)
      else if encB (valI (isNeg h) (valB (isNeg h) (t.take (more h)))) = h :: t.take (more h) then (valI (isNeg h) (valB (isNeg h) (t.take (more h))), 1 + more h, 0) else (0, 0, 12) := by
  rw [rdInt, if_neg h8, if_neg hl]; rfl
theorem rdInt_big {h : UInt8} {t : List UInt8} (h8 : ¬ 8 < more h) (hl : ¬ t.length < more h)
    (hm : 4611686018427387904 < valB (isNeg h) (t.take (more h)) ∨ isNeg h = true ∧ 4611686018427387904 ≤ valB (isNeg h) (t.take (more h))) : rdInt (h :: t) = (0, 0, 12) := by
  rw [rdInt_cons h8 hl, if_pos hm]
theorem rdInt_fine {h : UInt8} {t : List UInt8} (h8 : ¬ 8 < more h) (hl : ¬ t.length < more h)
    (hm : ¬ (4611686018427387904 < valB (isNeg h) (t.take (more h)) ∨ isNeg h = true ∧ 4611686018427387904 ≤ valB (isNeg h) (t.take (more h))))
    (he : encB (valI (isNeg h) (valB (isNeg h) (t.take (more h)))) = h :: t.take (more h)) : rdInt (h :: t) = (valI (isNeg h) (valB (isNeg h) (t.take (more h))), 1 + more h, 0) := by
  rw [rdInt_cons h8 hl, if_neg hm, if_pos he]
theorem rdInt_form {h : UInt8} {t : List UInt8} (h8 : ¬ 8 < more h) (hl : ¬ t.length < more h)
    (he : ¬ encB (valI (isNeg h) (valB (isNeg h) (t.take (more h)))) = h :: t.take (more h)) : rdInt (h :: t) = (0, 0, 12) := by
  rw [rdInt_cons h8 hl, if_neg he]
  split <;> rfl
theorem rdInt_far {h : UInt8} {t : List UInt8} (h8 : 8 < more h) : rdInt (h :: t) = (0, 0, 12) := by simp only [rdInt, if_pos h8]
theorem rdInt_short {h : UInt8} {t : List UInt8} (h8 : ¬ 8 < more h) (hl : t.length < more h) : rdInt (h :: t) = (0, 0, 11) := by simp only [rdInt, if_neg h8, if_pos hl]

/-- The digit that a byte stands for. -/
def dgt (neg : Bool) (b : UInt8) : Nat := if neg then 255 - b.toNat else b.toNat
theorem dgt_lt (neg : Bool) (b : UInt8) : dgt neg b < 256 := by have := b.toNat_lt; unfold dgt; split <;> omega
theorem valB_step (neg : Bool) (t : List UInt8) {j : Nat} (hj : j < t.length) : valB neg (t.take (j + 1)) = valB neg (t.take j) * 256 + dgt neg t[j] := by
  rw [List.take_succ_eq_append_getElem hj, valB_snoc]; rfl
theorem valB_mono (neg : Bool) (t : List UInt8) {i k : Nat} (h : i ≤ k) (hk : k ≤ t.length) : valB neg (t.take i) ≤ valB neg (t.take k) := by
  induction k with
  | zero => obtain rfl : i = 0 := by omega
            exact Nat.le_refl _
  | succ k ih =>
    by_cases e : i = k + 1
    · subst e; exact Nat.le_refl _
    · rw [valB_step neg t (by omega)]
      have := ih (by omega) (by omega)
      omega
/-- The first digit, if there is one, is not 0. -/
def headFine (neg : Bool) (l : List UInt8) : Prop := ∀ x, (digs neg l).head? = some x → x ≠ 0
theorem headFine_nil (neg : Bool) : headFine neg [] := fun _ h => by cases h
theorem headFine_take (neg : Bool) (t : List UInt8) {j : Nat} (h0 : 0 < j) (hj : j ≤ t.length) : headFine neg (t.take j) ↔ dgt neg (t[0]'(by omega)) ≠ 0 := by
  cases t with
  | nil => simp at hj; omega
  | cons b t =>
    obtain ⟨j, rfl⟩ : ∃ i, j = i + 1 := ⟨j - 1, by omega⟩
    simp [headFine, digs, dgt]
theorem headFine_step (neg : Bool) (t : List UInt8) {j : Nat} (hj : j < t.length) (h : headFine neg (t.take j)) (hd : j = 0 → dgt neg t[j] ≠ 0) : headFine neg (t.take (j + 1)) := by
  rw [headFine_take neg t (by omega) (by omega)]
  by_cases e : j = 0
  · subst e; exact hd rfl
  · exact (headFine_take neg t (by omega) (by omega)).1 h
/-- Reading fails: the first digit is 0. -/
theorem rd_zero {h : UInt8} {t : List UInt8} {k : Nat} (h8 : ¬ 8 < more h) (hl : ¬ t.length < more h) (hk : more h = k) (h0 : 0 < k) (hz : dgt (isNeg h) (t[0]'(by omega)) = 0) : rdInt (h :: t) = (0, 0, 12) := by
  subst hk
  refine rdInt_form h8 hl fun e => ?_
  have := (enc_iff h (t.take (more h)) (by rw [List.length_take]; omega) (by omega)).1 e
  exact (headFine_take (isNeg h) t h0 (by omega)).1 this hz
/-- Reading fails: what has been read is too great. -/
theorem rd_great {h : UInt8} {t : List UInt8} {k j : Nat} (h8 : ¬ 8 < more h) (hl : ¬ t.length < more h) (hk : more h = k) (hj : j ≤ k) (hg : 4611686018427387904 < valB (isNeg h) (t.take j)) : rdInt (h :: t) = (0, 0, 12) := by
  subst hk
  refine rdInt_big h8 hl (.inl ?_)
  have := valB_mono (isNeg h) t hj (by omega)
  omega
/-- Reading succeeds. -/
theorem rd_ok {h : UInt8} {t : List UInt8} {k : Nat} (h8 : ¬ 8 < more h) (hl : ¬ t.length < more h) (hk : more h = k) (hg : valB (isNeg h) (t.take k) ≤ 4611686018427387904) (hn : isNeg h = true → valB (isNeg h) (t.take k) ≠ 4611686018427387904)
    (hf : headFine (isNeg h) (t.take k)) : rdInt (h :: t) = (valI (isNeg h) (valB (isNeg h) (t.take k)), 1 + k, 0) := by
  subst hk
  refine rdInt_fine h8 hl ?_ ((enc_iff h (t.take (more h)) (by rw [List.length_take]; omega) (by omega)).2 hf)
  rintro (e | ⟨e, e2⟩)
  · omega
  · have := hn e; omega
theorem rd_edge {h : UInt8} {t : List UInt8} {k : Nat} (h8 : ¬ 8 < more h) (hl : ¬ t.length < more h) (hk : more h = k) (hn : isNeg h = true) (hg : valB (isNeg h) (t.take k) = 4611686018427387904) : rdInt (h :: t) = (0, 0, 12) := by
  subst hk
  exact rdInt_big h8 hl (.inr ⟨hn, by omega⟩)

theorem rdInt_size {h : UInt8} {t : List UInt8} (e : (rdInt (h :: t)).2.2 = 0) : (rdInt (h :: t)).2.1 = 1 + more h ∧ more h ≤ t.length ∧ more h ≤ 8 := by
  by_cases h8 : 8 < more h
  · rw [rdInt_far h8] at e; cases e
  · by_cases hl : t.length < more h
    · rw [rdInt_short h8 hl] at e; cases e
    · rw [rdInt_cons h8 hl] at e ⊢
      split at e
      · cases e
      · rename_i hm
        rw [if_neg hm]
        split at e
        · rename_i he
          rw [if_pos he]; exact ⟨rfl, by omega, by omega⟩
        · cases e
/-- What rdInt reads is the encoding of what it returns. -/
theorem rdInt_enc {h : UInt8} {t : List UInt8} (e : (rdInt (h :: t)).2.2 = 0) : encB (rdInt (h :: t)).1 = (h :: t).take (rdInt (h :: t)).2.1 ∧ inR (rdInt (h :: t)).1 = true := by
  by_cases h8 : 8 < more h
  · rw [rdInt_far h8] at e; cases e
  · by_cases hl : t.length < more h
    · rw [rdInt_short h8 hl] at e; cases e
    · rw [rdInt_cons h8 hl] at e ⊢
      split at e
      · cases e
      · rename_i hm
        rw [if_neg hm]
        split at e
        · rename_i he
          rw [if_pos he]
          refine ⟨?_, ?_⟩
          · rw [he, Nat.add_comm 1, List.take_succ_cons]
          · rw [inR_iff]
            unfold valI
            split
            · rename_i hn
              have : ¬ 4611686018427387904 ≤ valB (isNeg h) (t.take (more h)) := fun h => hm (.inr ⟨hn, h⟩)
              omega
            · have : ¬ 4611686018427387904 < valB (isNeg h) (t.take (more h)) := fun h => hm (.inl h)
              omega
        · cases e

/-- Reading a list of at most f elements: the elements, the size, the error. -/
def rdL : Nat → List UInt8 → List Int × Nat × Int
  | 0, t => match t with
    | [] => ([], 0, 11)
    | h :: _ => if h = 1 then ([], 1, 0) else ([], 0, 4)
  | f + 1, t => match t with
    | [] => ([], 0, 11)
    | h :: t' => if h = 1 then ([], 1, 0) else
      if (rdInt (h :: t')).2.2 = 0 then
        let r := rdL f ((h :: t').drop (rdInt (h :: t')).2.1)
        if r.2.2 = 0 then ((rdInt (h :: t')).1 :: r.1, (rdInt (h :: t')).2.1 + r.2.1, 0) else ([], 0, r.2.2)
      else ([], 0, (rdInt (h :: t')).2.2)
/-- Reading a list, the elements l having been read up to place at. -/
def rdAll (l : List Int) (at_ : Nat) (r : List Int × Nat × Int) : List Int × Nat × Int := if r.2.2 = 0 then (l ++ r.1, at_ + r.2.1, 0) else ([], 0, r.2.2)
def rdList (t : List UInt8) : List Int × Nat × Int := rdL 20000 t

theorem rdL_bad (f : Nat) (t : List UInt8) (h : (rdL f t).2.2 ≠ 0) : (rdL f t).1 = [] ∧ (rdL f t).2.1 = 0 := by
  cases f with
  | zero =>
    unfold rdL at *
    split at h <;> (try (split at h)) <;> simp_all
  | succ f =>
    cases t with
    | nil => simp [rdL]
    | cons b t =>
      simp only [rdL] at h ⊢
      split at h
      · simp at h
      · rename_i hb
        rw [if_neg hb]
        split at h
        · rename_i hr
          rw [if_pos hr]
          split at h
          · simp at h
          · rename_i hq
            rw [if_neg hq]; exact ⟨rfl, rfl⟩
        · rename_i hr
          rw [if_neg hr]; exact ⟨rfl, rfl⟩
theorem rdAll_nil (f : Nat) (t : List UInt8) : rdAll [] 0 (rdL f t) = rdL f t := by
  unfold rdAll
  split
  · rename_i h
    rw [← h]; simp
  · rename_i h
    obtain ⟨h1, h2⟩ := rdL_bad f t h
    rw [← h1, ← h2]
theorem rdL_short (f : Nat) : rdL f [] = ([], 0, 11) := by cases f <;> rfl
theorem rdL_end (f : Nat) (t : List UInt8) : rdL f (1 :: t) = ([], 1, 0) := by cases f <;> rfl
theorem rdL_limit {h : UInt8} (t : List UInt8) (hh : h ≠ 1) : rdL 0 (h :: t) = ([], 0, 4) := by simp [rdL, hh]
theorem rdL_err {f : Nat} {h : UInt8} {t : List UInt8} (hh : h ≠ 1) (e : (rdInt (h :: t)).2.2 ≠ 0) : rdL (f + 1) (h :: t) = ([], 0, (rdInt (h :: t)).2.2) := by simp [rdL, hh, e]
theorem rdAll_step {f at_ : Nat} {h : UInt8} {t : List UInt8} (l : List Int) (hh : h ≠ 1) (e : (rdInt (h :: t)).2.2 = 0) :
    rdAll l at_ (rdL (f + 1) (h :: t)) = rdAll (l ++ [(rdInt (h :: t)).1]) (at_ + (rdInt (h :: t)).2.1) (rdL f ((h :: t).drop (rdInt (h :: t)).2.1)) := by
  simp only [rdL, hh, if_false, e, if_true]
  by_cases hr : (rdL f ((h :: t).drop (rdInt (h :: t)).2.1)).2.2 = 0
  · simp [rdAll, hr, Nat.add_assoc]
  · simp [rdAll, hr]

end Go.Proofs.YtaficbkaofhjeaaDoor
