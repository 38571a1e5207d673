/- The plain law of ranks: what grows with the ranks is a certificate, what is swapped is none. Conditions: the ranks grow along the edges. -/
import Derived.Test.YtkpjdanfpolimaaGreatLrDgA
namespace Go.Proofs.YtkpjdanfpolimaaGreat
open Go.RowKit Go.Shelf
/-- A list of ranks as integers. -/
def rkL (n : Nat) (f : Nat → Nat) : List Int := (List.range n).map fun i => (f i : Int)
theorem rkL_len (n : Nat) (f : Nat → Nat) : (rkL n f).length = n := by simp [rkL]
theorem rkL_get {n : Nat} {f : Nat → Nat} {i : Nat} (h : i < n) : (rkL n f).getD i 0 = (f i : Int) := by simp [rkL, h]
theorem rkL_nat (n : Nat) (f : Nat → Nat) : i64s (rkL n f) = natC ((List.range n).map f) := by simp [rkL, i64s, natC]
/-- What makes numbers a certificate. -/
structure Good (p : Prg) (f : Nat → Nat) : Prop where
  lock : ∀ i, i < p.obs.length → lockB (p.obs.getD i default) = true → 0 < f i
  free : ∀ i, i < p.obs.length → lockB (p.obs.getD i default) = false → f i = 0
  up : ∀ e ∈ graphOf p, f e.1 < f e.2
theorem Good.ver {p : Prg} (hW : Wf p) {f : Nat → Nat} (h : Good p f) : verE p 1 (rkL p.obs.length f) = 0 := by
  have h1 : (List.range p.obs.length).all (rkB p (rkL p.obs.length f)) = true := by
    rw [List.all_eq_true]
    intro i hi
    have hi := List.mem_range.1 hi
    unfold rkB
    rw [rkL_get hi]
    cases hl : lockB (p.obs.getD i default) with
    | true => have := h.lock i hi hl; simpa using this
    | false => have := h.free i hi hl; simpa using this
  have h2 : (graphOf p).any (badE (rkL p.obs.length f)) = false := by
    rw [List.any_eq_false]
    intro e he
    obtain ⟨r1, r2⟩ := graph_range hW e he
    have := h.up e he
    unfold badE
    rw [rkL_get r1, rkL_get r2]
    simp; omega
  have h3 : verB p 1 (rkL p.obs.length f) = true := by unfold verB; rw [h1, h2, rkL_len]; simp
  unfold verE
  rw [h3]; rfl
theorem bad_ver {p : Prg} {cs : List Int} {e : Nat × Nat} (he : e ∈ graphOf p) (h : cs.getD e.2 0 ≤ cs.getD e.1 0) : verE p 1 cs = 28 := by
  have h2 : (graphOf p).any (badE cs) = true := List.any_eq_true.2 ⟨e, he, by unfold badE; simpa using h⟩
  have h3 : verB p 1 cs = false := by unfold verB; rw [h2]; simp
  unfold verE
  rw [h3]; rfl
theorem lock_iff {p : Prg} {i : Nat} (h : isLock p i) : lockB (p.obs.getD i default) = true := by
  obtain ⟨o, h1, h2⟩ := h
  rw [List.getD_eq_getElem?_getD, h1]
  exact decide_eq_true h2
theorem crt_good {p : Prg} (hW : Wf p) {r : Nat → Nat} (h : Ranked p.obs.length (graphOf p) r) : Good p (crt p r) := by
  obtain ⟨o, ht, hr⟩ := h
  refine ⟨fun i _ hl => ?_, fun i _ hl => ?_, fun e he => ?_⟩
  · unfold crt; rw [hl]; simp
  · unfold crt; rw [hl]; rfl
  · have := hr.all ht (graph_range hW) (u := e.1) (v := e.2) he
    obtain ⟨l1, l2⟩ := graph_locks hW he
    unfold crt
    rw [lock_iff l1, lock_iff l2]
    simp; exact this
theorem crt_le {p : Prg} {r : Nat → Nat} (h : Ranked p.obs.length (graphOf p) r) (i : Nat) : crt p r i ≤ p.obs.length + 1 := by
  obtain ⟨o, ht, hr⟩ := h
  have := hr.le i
  unfold crt; split <;> omega
/-- Ranks that grow by b, or are multiplied. -/
def moreF (f : Nat → Nat) (b : Nat) (i : Nat) : Nat := if 0 < f i then f i + b else f i
def timesF (f : Nat → Nat) (b : Nat) (i : Nat) : Nat := if 0 < f i then f i * (1 + b) else f i
theorem Good.more {p : Prg} (hW : Wf p) {f : Nat → Nat} (h : Good p f) (b : Nat) : Good p (moreF f b) := by
  refine ⟨fun i hi hl => ?_, fun i hi hl => ?_, fun e he => ?_⟩
  · have := h.lock i hi hl; unfold moreF; rw [if_pos this]; omega
  · have := h.free i hi hl; unfold moreF; rw [this]; rfl
  · have h1 := h.up e he
    obtain ⟨l1, l2⟩ := graph_locks hW he
    obtain ⟨r1, r2⟩ := graph_range hW e he
    have k1 := h.lock _ r1 (lock_iff l1)
    have k2 := h.lock _ r2 (lock_iff l2)
    unfold moreF
    rw [if_pos k1, if_pos k2]; omega
theorem Good.times {p : Prg} (hW : Wf p) {f : Nat → Nat} (h : Good p f) (b : Nat) : Good p (timesF f b) := by
  refine ⟨fun i hi hl => ?_, fun i hi hl => ?_, fun e he => ?_⟩
  · have := h.lock i hi hl; unfold timesF; rw [if_pos this]; exact Nat.mul_pos this (by omega)
  · have := h.free i hi hl; unfold timesF; rw [this]; rfl
  · have h1 := h.up e he
    obtain ⟨l1, l2⟩ := graph_locks hW he
    obtain ⟨r1, r2⟩ := graph_range hW e he
    have k1 := h.lock _ r1 (lock_iff l1)
    have k2 := h.lock _ r2 (lock_iff l2)
    unfold timesF
    rw [if_pos k1, if_pos k2]
    exact Nat.mul_lt_mul_of_pos_right h1 (by omega)
/-- Two ranks swapped. -/
def swapF (f : Nat → Nat) (u v : Nat) (i : Nat) : Nat := if i = v then f u else if i = u then f v else f i
theorem Good.swap {p : Prg} (hW : Wf p) {f : Nat → Nat} (h : Good p f) {e : Nat × Nat} (he : e ∈ graphOf p) : verE p 1 (rkL p.obs.length (swapF f e.1 e.2)) = 28 := by
  obtain ⟨r1, r2⟩ := graph_range hW e he
  have h1 := h.up e he
  have hne : e.1 ≠ e.2 := fun z => by rw [z] at h1; omega
  refine bad_ver he ?_
  rw [rkL_get r1, rkL_get r2]
  unfold swapF
  rw [if_pos rfl, if_neg hne, if_pos rfl]
  omega
end Go.Proofs.YtkpjdanfpolimaaGreat
