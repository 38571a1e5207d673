/- Plain mathematics: decoding the runs of a list gives the list, and the other way round. Conditions: none. -/
import Derived.Test.YtaficbkaofhjeaaDoorTripM
namespace Go.Proofs.YtaficbkaofhjeaaDoor

theorem lead_rep (c : Ch) (n : Nat) (l : List Ch) (h : l.head? ≠ some c) : lead c (List.replicate n c ++ l) = n := by
  induction n with
  | zero =>
    cases l with
    | nil => rfl
    | cons x l =>
      have : x ≠ c := fun e => h (by rw [e]; rfl)
      simp [lead, this]
  | succ n ih => rw [List.replicate_succ, List.cons_append]; unfold lead; rw [if_pos rfl, ih]; omega
theorem rle_rep (c : Ch) (n : Nat) (l : List Ch) (hn : 1 ≤ n) (h : l.head? ≠ some c) : rle (List.replicate n c ++ l) = (n, c) :: rle l := by
  obtain ⟨k, rfl⟩ : ∃ k, n = k + 1 := ⟨n - 1, by omega⟩
  have hl := lead_rep c (k + 1) l h
  rw [List.replicate_succ, List.cons_append] at hl ⊢
  rw [rle_cons, hl]
  congr 2
  rw [List.drop_succ_cons, List.drop_left' (by simp)]
theorem take_lead (c : Ch) (l : List Ch) : l = List.replicate (lead c l) c ++ l.drop (lead c l) := by
  induction l with
  | nil => rfl
  | cons x l ih =>
    unfold lead
    split
    · rename_i hx
      rw [Nat.add_comm 1, List.replicate_succ, List.drop_succ_cons, List.cons_append, ← ih, hx]
    · simp
theorem nums_cons (x : Nat × Ch) (r : List (Nat × Ch)) : nums (x :: r) = (x.1 : Int) :: x.2.1 :: x.2.2 :: nums r := by simp [nums]
theorem last_rep (acc : List Ch) (n : Nat) (c : Ch) (hn : 1 ≤ n) : (acc ++ List.replicate n c).getLast? = some c := by
  obtain ⟨k, rfl⟩ : ∃ k, n = k + 1 := ⟨n - 1, by omega⟩
  rw [List.replicate_succ', ← List.append_assoc, List.getLast?_concat]

theorem decN_rle (acc l : List Ch) (hv : l.all validB = true) (hl : acc.length + l.length ≤ 2000) (hh : ∀ c, acc.getLast? = some c → l.head? ≠ some c) : decN acc (nums (rle l)) = some (acc ++ l) := by
  induction hk : l.length using Nat.strongRecOn generalizing acc l with
  | _ k ih =>
    subst hk
    cases l with
    | nil => rw [rle_nil]; simp [nums, decN_nil]
    | cons c l =>
      have h1 := lead_pos c l
      have h2 := lead_le c (c :: l)
      have h3 := take_lead c (c :: l)
      have h4 := lead_stop c (c :: l)
      rw [rle_cons, nums_cons]
      obtain ⟨n, hn⟩ : ∃ n, lead c (c :: l) = n := ⟨_, rfl⟩
      rw [hn] at h1 h2 h3 h4 ⊢
      have hvc : validB c = true := by simp only [List.all_cons, Bool.and_eq_true] at hv; exact hv.1
      have hok : runOk acc (n : Nat) c = true := by
        simp only [List.length_cons] at hl h2
        simp only [runOk, hvc, Bool.and_true, Bool.and_eq_true, decide_eq_true_eq, Bool.not_eq_true', beq_eq_false_iff_ne]
        exact ⟨⟨by omega, by omega⟩, fun e => hh c e rfl⟩
      have hd : ((c :: l).drop n).length = (c :: l).length - n := List.length_drop
      show decN acc ((n : Nat) :: c.1 :: c.2 :: nums (rle ((c :: l).drop n))) = _
      rw [decN_step hok, Int.toNat_natCast, ih _ (by omega) (acc ++ List.replicate n c) ((c :: l).drop n) ?_ ?_ ?_ rfl, List.append_assoc]
      · congr 2; exact h3.symm
      · rw [List.all_eq_true] at hv ⊢
        exact fun x hx => hv x (List.mem_of_mem_drop hx)
      · simp only [List.length_append, List.length_replicate]; omega
      · intro c2 e
        rw [last_rep acc n c h1] at e
        obtain rfl := Option.some.inj e
        rw [List.head?_drop]; exact h4
theorem decN_some (acc : List Ch) (ns : List Int) (m : List Ch) (hl : acc.length ≤ 2000) (h : decN acc ns = some m) :
    ∃ l, m = acc ++ l ∧ nums (rle l) = ns ∧ l.all validB = true ∧ m.length ≤ 2000 ∧ ∀ c, acc.getLast? = some c → l.head? ≠ some c := by
  induction hk : ns.length using Nat.strongRecOn generalizing acc ns with
  | _ k ih =>
    subst hk
    match ns, h with
    | [], h =>
      rw [decN_nil] at h
      obtain rfl := Option.some.inj h
      exact ⟨[], by simp, by rw [rle_nil]; rfl, rfl, hl, fun c _ => by simp⟩
    | [_], h => simp [decN] at h
    | [_, _], h => simp [decN] at h
    | n :: t :: d :: rest, h =>
      cases hok : runOk acc n (t, d)
      · rw [decN_no hok] at h; cases h
      · rw [decN_step hok] at h
        have hn := runOk_len hok
        obtain ⟨k, rfl⟩ : ∃ k : Nat, n = (k : Int) := ⟨n.toNat, by omega⟩
        rw [Int.toNat_natCast] at h
        obtain ⟨l, h1, h2, h3, h4, h5⟩ := ih rest.length (by simp; omega) (acc ++ List.replicate k (t, d)) rest (by simp; omega) h rfl
        simp only [runOk, Bool.and_eq_true, decide_eq_true_eq, Bool.not_eq_true', beq_eq_false_iff_ne] at hok
        have hk1 : 1 ≤ k := by omega
        have hhd := h5 (t, d) (last_rep acc k (t, d) hk1)
        refine ⟨List.replicate k (t, d) ++ l, by rw [h1, List.append_assoc], ?_, ?_, h4, ?_⟩
        · rw [rle_rep (t, d) k l hk1 hhd, nums_cons, h2]
        · rw [List.all_append, h3, Bool.and_true, List.all_eq_true]
          intro x hx
          rw [List.eq_of_mem_replicate hx]; exact hok.1.2
        · intro c e
          obtain ⟨j, rfl⟩ : ∃ j, k = j + 1 := ⟨k - 1, by omega⟩
          rw [List.replicate_succ, List.cons_append, List.head?_cons]
          intro e2
          rw [e, ← e2] at hok
          exact hok.2 rfl
end Go.Proofs.YtaficbkaofhjeaaDoor
