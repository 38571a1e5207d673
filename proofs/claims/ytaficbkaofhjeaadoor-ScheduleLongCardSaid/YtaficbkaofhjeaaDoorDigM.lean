/- Plain mathematics of the digits in base 256. Conditions: none. -/
namespace Go.Proofs.YtaficbkaofhjeaaDoor

/-- The digits of m at the lowest k places, the leading noughts left out, the most significant first. -/
def dgU (m : Nat) : Nat → List Nat
  | 0 => []
  | k + 1 => (if m / 256 ^ k = 0 then [] else [m / 256 ^ k % 256]) ++ dgU m k
/-- The digits of m. -/
def dg (m : Nat) : List Nat := if _h : m = 0 then [] else dg (m / 256) ++ [m % 256]
termination_by m
decreasing_by omega

theorem dg_zero : dg 0 = [] := by unfold dg; simp
theorem dg_pos {m : Nat} (h : m ≠ 0) : dg m = dg (m / 256) ++ [m % 256] := by
  rw [dg]; simp [h]
theorem dgU_shift (m : Nat) (k : Nat) : dgU m (k + 1) = dgU (m / 256) k ++ (if m = 0 then [] else [m % 256]) := by
  induction k with
  | zero => simp [dgU]
  | succ k ih =>
    rw [dgU, ih, dgU]
    have e : m / 256 ^ (k + 1) = m / 256 / 256 ^ k := by rw [Nat.pow_succ, Nat.mul_comm, Nat.div_div_eq_div_mul]
    rw [e, List.append_assoc]
theorem dgU_eq (k : Nat) : ∀ m, m < 256 ^ k → dgU m k = dg m := by
  induction k with
  | zero => intro m h; simp at h; subst h; rw [dg_zero]; rfl
  | succ k ih =>
    intro m h
    rw [dgU_shift]
    by_cases h0 : m = 0
    · subst h0; rw [dg_zero]; simp; rw [ih 0 (Nat.pow_pos (by omega)), dg_zero]
    · rw [dg_pos h0, ih (m / 256) (by rw [Nat.div_lt_iff_lt_mul (by omega)]; rw [Nat.pow_succ] at h; exact h)]
      simp [h0]
theorem dg_lt (m : Nat) : ∀ x ∈ dg m, x < 256 := by
  induction m using Nat.strongRecOn with
  | _ m ih =>
    by_cases h0 : m = 0
    · subst h0; rw [dg_zero]; simp
    · rw [dg_pos h0]
      intro x hx
      rw [List.mem_append] at hx
      rcases hx with hx | hx
      · exact ih (m / 256) (by omega) x hx
      · simp at hx; omega
theorem dg_len (k : Nat) : ∀ m, m < 256 ^ k → (dg m).length ≤ k := by
  induction k with
  | zero => intro m h; simp at h; subst h; rw [dg_zero]; simp
  | succ k ih =>
    intro m h
    by_cases h0 : m = 0
    · subst h0; rw [dg_zero]; simp
    · rw [dg_pos h0, List.length_append]
      have := ih (m / 256) (by rw [Nat.div_lt_iff_lt_mul (by omega)]; rw [Nat.pow_succ] at h; exact h)
      simp; omega

/-- Numbers as bytes. -/
def bts (l : List Nat) : List UInt8 := l.map UInt8.ofNat
theorem bts_nil : bts [] = [] := rfl
theorem bts_len (l : List Nat) : (bts l).length = l.length := by simp [bts]
theorem bts_append (l m : List Nat) : bts (l ++ m) = bts l ++ bts m := by simp [bts]
def dgB (m : Nat) : List UInt8 := bts (dg m)
theorem dgU_no {m q : Nat} {pre : List UInt8} (h : m / 256 ^ q = 0) (hp : pre ++ bts (dgU m (q + 1)) = bts (dgU m 8)) : pre ++ bts (dgU m q) = bts (dgU m 8) := by
  rw [← hp, dgU, if_pos h]; rfl
theorem dgU_yes {m q : Nat} {pre : List UInt8} (h : ¬ m / 256 ^ q = 0) (hp : pre ++ bts (dgU m (q + 1)) = bts (dgU m 8)) : pre ++ [UInt8.ofNat (m / 256 ^ q % 256)] ++ bts (dgU m q) = bts (dgU m 8) := by
  rw [← hp, dgU, if_neg h, List.append_assoc, bts_append]; rfl
theorem dgU_len (m k : Nat) : (dgU m k).length ≤ k := by
  induction k with
  | zero => exact Nat.le_refl _
  | succ k ih => rw [dgU]; split <;> simp <;> omega
theorem dgU_room {m q : Nat} {pre : List UInt8} (h : ¬ m / 256 ^ q = 0) (hp : pre ++ bts (dgU m (q + 1)) = bts (dgU m 8)) : pre.length < 8 := by
  have h1 := congrArg List.length (dgU_yes h hp)
  have h2 := dgU_len m 8
  simp [bts_len] at h1
  omega

theorem dgB_zero : dgB 0 = [] := by rw [dgB, dg_zero]; rfl
theorem dgB_step {m q : Nat} {suf : List UInt8} (h : q ≠ 0) (hd : dgB m = dgB q ++ suf) : dgB m = dgB (q / 256) ++ (UInt8.ofNat (q % 256) :: suf) := by
  rw [hd, dgB, dg_pos h, bts_append, List.append_assoc]; rfl

/-- The bytes of the encoding of an integer. -/
def encB (n : Int) : List UInt8 := if 0 ≤ n then UInt8.ofNat (128 + (dg n.toNat).length) :: dgB n.toNat else UInt8.ofNat (127 - (dg (-n - 1).toNat).length) :: (dgB (-n - 1).toNat).map (255 - ·)

end Go.Proofs.YtaficbkaofhjeaaDoor
