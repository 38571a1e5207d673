/- Plain mathematics: the round trip of schedules, and the reference's way to decode. Conditions: none. -/
import Derived.Test.YtaficbkaofhjeaaDoorTrip2M
namespace Go.Proofs.YtaficbkaofhjeaaDoor

theorem checkE_zero {l : List Ch} : checkE l = 0 ↔ l.length ≤ 2000 ∧ l.all validB = true := by
  unfold checkE
  by_cases h : 2000 < l.length
  · rw [if_pos h]; exact ⟨fun e => absurd e (by decide), fun e => absurd e.1 (by omega)⟩
  · rw [if_neg h]
    by_cases ha : l.any (fun c => !validB c) = true
    · rw [if_pos ha]
      refine ⟨fun e => absurd e (by decide), fun e => ?_⟩
      obtain ⟨x, hx, hb⟩ := List.any_eq_true.1 ha
      rw [List.all_eq_true.1 e.2 x hx] at hb; cases hb
    · rw [if_neg ha]
      refine ⟨fun _ => ⟨by omega, List.all_eq_true.2 fun x hx => ?_⟩, fun _ => rfl⟩
      cases hb : validB x
      · exact absurd (List.any_eq_true.2 ⟨x, hx, by rw [hb]; rfl⟩) ha
      · rfl
theorem rle_mem (l : List Ch) : ∀ x ∈ rle l, x.1 ≤ l.length ∧ x.2 ∈ l := by
  induction hk : l.length using Nat.strongRecOn generalizing l with
  | _ k ih =>
    subst hk
    cases l with
    | nil => rw [rle_nil]; simp
    | cons c l =>
      intro x hx
      have h1 := lead_pos c l
      have h2 := lead_le c (c :: l)
      rw [rle_cons] at hx
      have hd : ((c :: l).drop (lead c (c :: l))).length = (c :: l).length - lead c (c :: l) := List.length_drop
      rcases List.mem_cons.1 hx with rfl | hx
      · exact ⟨h2, by simp⟩
      · obtain ⟨i1, i2⟩ := ih _ (by omega) _ rfl x hx
        exact ⟨by omega, List.mem_of_mem_drop i2⟩
theorem listErr_rle {l : List Ch} (h : checkE l = 0) : listErr (nums (rle l)) = 0 := by
  obtain ⟨h1, h2⟩ := checkE_zero.1 h
  have h3 := rle_len l
  have h4 := nums_len (rle l)
  refine listErr_ok (by omega) (List.all_eq_true.2 fun n hn => ?_)
  obtain ⟨x, hx, hm⟩ := List.mem_flatMap.1 hn
  obtain ⟨i1, i2⟩ := rle_mem l x hx
  have hv := (validB_iff x.2.1 x.2.2).1 (List.all_eq_true.1 h2 x.2 i2)
  rw [inR_iff]
  simp only [List.mem_cons, List.not_mem_nil, or_false] at hm
  omega
theorem trip1 {l : List Ch} (h : checkE l = 0) : decS (listTxt (nums (rle l))) = (l, 0) := by
  obtain ⟨h1, h2⟩ := checkE_zero.1 h
  have hr := rdList_of_txt (listErr_rle h)
  have hd := decN_rle [] l h2 (by simpa using h1) (fun c e => by cases e)
  have h4 := nums_len (rle l)
  unfold decS
  rw [hr]
  simp only [hd]
  rw [if_neg (by rw [h4]; simp)]
  rfl
theorem decS_cases (L : List UInt8) : decS L = ([], 12) ∨ ∃ ns l, rdList L = (ns, L.length, 0) ∧ decN [] ns = some l ∧ decS L = (l, 0) := by
  unfold decS
  obtain ⟨⟨ns, n, e⟩, hr⟩ : ∃ r, rdList L = r := ⟨_, rfl⟩
  rw [hr]
  by_cases hb : e ≠ 0 ∨ n ≠ L.length ∨ ns.length % 3 ≠ 0
  · rw [if_pos hb]; exact .inl rfl
  · rw [if_neg hb]
    simp only
    cases hd : decN [] ns with
    | none => exact .inl rfl
    | some l =>
      have he : e = 0 := Decidable.byContradiction fun h => hb (.inl h)
      have hn : n = L.length := Decidable.byContradiction fun h => hb (.inr (.inl h))
      exact .inr ⟨ns, l, by rw [he, hn], hd, rfl⟩
theorem trip2 {L : List UInt8} {m : List Ch} (h : decS L = (m, 0)) : checkE m = 0 ∧ listTxt (nums (rle m)) = L := by
  rcases decS_cases L with e | ⟨ns, l, hr, hd, e⟩
  · rw [e] at h; cases h
  · rw [e] at h
    obtain rfl : l = m := (Prod.mk.inj h).1
    obtain ⟨l', h1, h2, h3, h4, _⟩ := decN_some [] ns l (by simp) hd
    rw [List.nil_append] at h1
    subst h1
    exact ⟨checkE_zero.2 ⟨h4, h3⟩, by rw [h2]; exact (rdList_full hr).1.symm⟩

/-- Whether the reference takes a run. -/
def refOk (acc : List Ch) (n : Int) : Bool := decide (1 ≤ n) && decide (n ≤ 2000) && decide (acc.length ≤ 2000)
/-- The choices of numbers, as the reference gathers them. -/
def decR : List Ch → List Int → Option (List Ch)
  | acc, n :: t :: d :: rest => if refOk acc n then decR (acc ++ List.replicate n.toNat (t, d)) rest else none
  | acc, [] => some acc
  | _, _ => none
theorem decR_step {acc : List Ch} {n t d : Int} {rest : List Int} (h : refOk acc n = true) : decR acc (n :: t :: d :: rest) = decR (acc ++ List.replicate n.toNat (t, d)) rest := by rw [decR, if_pos h]
theorem decR_no {acc : List Ch} {n t d : Int} {rest : List Int} (h : refOk acc n = false) : decR acc (n :: t :: d :: rest) = none := by rw [decR, h]; rfl
theorem decR_nil (acc : List Ch) : decR acc [] = some acc := rfl
theorem decR_of {acc : List Ch} {ns : List Int} {m : List Ch} (hl : acc.length ≤ 2000) (h : decN acc ns = some m) : decR acc ns = some m := by
  induction hk : ns.length using Nat.strongRecOn generalizing acc ns with
  | _ k ih =>
    subst hk
    match ns, h with
    | [], h => exact h
    | [_], h => simp [decN] at h
    | [_, _], h => simp [decN] at h
    | n :: t :: d :: rest, h =>
      cases hok : runOk acc n (t, d)
      · rw [decN_no hok] at h; cases h
      · rw [decN_step hok] at h
        have hn := runOk_len hok
        have hr : refOk acc n = true := by simp [refOk]; omega
        rw [decR_step hr]
        exact ih rest.length (by simp; omega) (by simp; omega) h rfl
/-- What the reference returns. -/
def decRS (L : List UInt8) : List Ch × Int :=
  if (rdList L).2.2 ≠ 0 ∨ (rdList L).2.1 ≠ L.length ∨ (rdList L).1.length % 3 ≠ 0 then ([], 12) else
  match decR [] (rdList L).1 with
  | none => ([], 12)
  | some l => if checkE l = 0 ∧ listTxt (nums (rle l)) = L then (l, 0) else ([], 12)
theorem decRS_eq (L : List UInt8) : decRS L = decS L := by
  obtain ⟨⟨ns, n, e⟩, hr⟩ : ∃ r, rdList L = r := ⟨_, rfl⟩
  by_cases hb : e ≠ 0 ∨ n ≠ L.length ∨ ns.length % 3 ≠ 0
  · unfold decRS decS; rw [hr, if_pos hb, if_pos hb]
  · have he : e = 0 := Decidable.byContradiction fun h => hb (.inl h)
    have hn : n = L.length := Decidable.byContradiction fun h => hb (.inr (.inl h))
    subst he hn
    have h1 : decRS L = match decR [] ns with | none => ([], 12) | some l => if checkE l = 0 ∧ listTxt (nums (rle l)) = L then (l, 0) else ([], 12) := by
      unfold decRS; rw [hr, if_neg hb]
    have h2 : decS L = match decN [] ns with | none => ([], 12) | some l => (l, 0) := by
      unfold decS; rw [hr, if_neg hb]; rfl
    cases hd : decN [] ns with
    | some m =>
      rw [hd] at h2
      have := trip2 (L := L) (m := m) h2
      rw [h1, h2, decR_of (by simp) hd]
      simp only [this, and_self, if_true]
    | none =>
      rw [hd] at h2
      rw [h1, h2]
      cases hR : decR [] ns with
      | none => rfl
      | some l =>
        simp only
        split
        · rename_i hc
          have h3 := rdList_of_txt (listErr_rle hc.1)
          rw [hc.2, hr] at h3
          obtain rfl : ns = nums (rle l) := (Prod.mk.inj h3).1
          obtain ⟨c1, c2⟩ := checkE_zero.1 hc.1
          rw [decN_rle [] l c2 (by simpa using c1) (fun c e => by cases e)] at hd
          cases hd
        · rfl
end Go.Proofs.YtaficbkaofhjeaaDoor
