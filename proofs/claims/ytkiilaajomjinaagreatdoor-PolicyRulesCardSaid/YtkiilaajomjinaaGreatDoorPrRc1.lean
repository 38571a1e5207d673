/- slices.Clone of rules, walked; a row of rules of the call's own whose expressions are older. Conditions: the rules lie in memory. -/
import Derived.Test.YtkiilaajomjinaaGreatDoorPrPs0
import Derived.Test.YtkiilaajomjinaaGreatDoorPrRnk
import Derived.Test.YtkiilaajomjinaaGreatDoorPrOpp
namespace Go.Proofs.YtkiilaajomjinaaGreatDoor
open Go.RowKit Go.Deep
/-- Ten cells that read as a rule, its expressions in blocks below B. -/
def RuleB (B : Nat) (W : World) (cs : List Value) (r : Rl) : Prop := ∃ (k o : Int) (n : ByteArray) (v : Int) (A1 : Option Addr) (m1 c1 : Nat) (k2 o2 : Int) (n2 : ByteArray) (v2 : Int) (A2 : Option Addr) (m2 c2 : Nat), cs = exC k o n v A1 m1 c1 ++ exC k2 o2 n2 v2 A2 m2 c2 ∧ LiesE W B (exC k o n v A1 m1 c1) r.cond ∧ LiesE W B (exC k2 o2 n2 v2 A2 m2 c2) r.key
theorem RuleB.below' {B C : Nat} {W W' : World} {cs : List Value} {r : Rl} (h : RuleB B W cs r) (hb : Below C W W') (hC : B ≤ C) : RuleB B W' cs r := by
  obtain ⟨k, o, n, v, A1, m1, c1, k2, o2, n2, v2, A2, m2, c2, e, h1, h2⟩ := h
  exact ⟨k, o, n, v, A1, m1, c1, k2, o2, n2, v2, A2, m2, c2, e, h1.below' hb hC, h2.below' hb hC⟩
theorem RuleB.len {B : Nat} {W : World} {cs : List Value} {r : Rl} (h : RuleB B W cs r) : cs.length = 10 := by
  obtain ⟨k, o, n, v, A1, m1, c1, k2, o2, n2, v2, A2, m2, c2, rfl, -, -⟩ := h
  rfl
theorem RuleB.one {B : Nat} {W : World} {cs : List Value} {r : Rl} (h : RuleB B W cs r) : ∀ u ∈ cs, u.oneCell' = true := by
  obtain ⟨k, o, n, v, A1, m1, c1, k2, o2, n2, v2, A2, m2, c2, rfl, -, -⟩ := h
  intro u hu
  simp only [exC, List.cons_append, List.nil_append, List.mem_cons, List.not_mem_nil, or_false] at hu
  rcases hu with rfl | rfl | rfl | rfl | rfl | rfl | rfl | rfl | rfl | rfl <;> rfl
/-- Rules in memory, as a list of rows of cells. -/
theorem LiesP.rows {W : World} {B c : Nat} {A : Option Addr} {rs : List Rl} (h : LiesP W B A c rs) : ∃ rcs : List (List Value), rcs.length = rs.length ∧ (∀ (i : Nat) (h1 : i < rs.length) (h2 : i < rcs.length), RuleB B W rcs[i] rs[i]) ∧ Rd W B 10 A rs.length rcs.flatten := by
  have hall : ∀ i, i < rs.length → ∃ cs : List Value, (∀ h1 : i < rs.length, RuleB B W cs rs[i]) ∧ ∃ b off : Nat, A = some ⟨b, off, none⟩ ∧ b < B ∧ ∀ j u, cs[j]? = some u → W.cell? ⟨b, off + i * 10 + j, none⟩ = some u := by
    intro i hi
    obtain ⟨b, off, k, o, n, v, A1, m1, c1, k2, o2, n2, v2, A2, m2, c2, rfl, hb, h1, h2, y0, y1, y2, y3, y4, y5, y6, y7, y8, y9⟩ := h.at_ i hi
    refine ⟨_, fun _ => ⟨k, o, n, v, A1, m1, c1, k2, o2, n2, v2, A2, m2, c2, rfl, h1, h2⟩, b, off, rfl, hb, fun j u hu => ?_⟩
    match j, hu with
    | 0, hu => injection hu with hu; subst hu; exact y0
    | 1, hu => injection hu with hu; subst hu; exact y1
    | 2, hu => injection hu with hu; subst hu; exact y2
    | 3, hu => injection hu with hu; subst hu; exact y3
    | 4, hu => injection hu with hu; subst hu; exact y4
    | 5, hu => injection hu with hu; subst hu; exact y5
    | 6, hu => injection hu with hu; subst hu; exact y6
    | 7, hu => injection hu with hu; subst hu; exact y7
    | 8, hu => injection hu with hu; subst hu; exact y8
    | 9, hu => injection hu with hu; subst hu; exact y9
    | j + 10, hu => simp [exC] at hu
  obtain ⟨F, hF⟩ := choose_lt hall
  have hlen : ((List.range rs.length).map F).length = rs.length := by simp
  have h10 : ∀ rc ∈ (List.range rs.length).map F, rc.length = 10 := fun rc hrc => by
    obtain ⟨i, hi, rfl⟩ := List.mem_map.1 hrc
    have hi := List.mem_range.1 hi
    exact ((hF i hi).1 hi).len
  refine ⟨(List.range rs.length).map F, hlen, fun i h1 h2 => by simpa using (hF i h1).1 h1, ?_, ?_⟩
  · rw [List.length_flatten]
    rw [show ((List.range rs.length).map F).map List.length = List.replicate rs.length 10 from by
      apply List.ext_getElem (by simp)
      intro i h1 h2
      simp only [List.getElem_map, List.getElem_range, List.getElem_replicate]
      exact ((hF i (by simpa using h1)).1 (by simpa using h1)).len]
    simp
  · by_cases h0 : rs.length = 0
    · exact .inl h0
    · right
      obtain ⟨b, off, rfl, hb, -⟩ := (hF 0 (by omega)).2
      refine ⟨b, off, rfl, hb, fun j u hu => ?_⟩
      have hj : j < rs.length * 10 := by
        have := (List.getElem?_eq_some_iff.1 hu).1
        rw [List.length_flatten] at this
        rw [show ((List.range rs.length).map F).map List.length = List.replicate rs.length 10 from by
          apply List.ext_getElem (by simp)
          intro i h1 h2
          simp only [List.getElem_map, List.getElem_range, List.getElem_replicate]
          exact ((hF i (by simpa using h1)).1 (by simpa using h1)).len] at this
        simpa [Nat.mul_comm] using this
      have hd : j / 10 < rs.length := by omega
      have hm : j % 10 < 10 := Nat.mod_lt _ (by omega)
      have e1 : j / 10 * 10 + j % 10 = j := by omega
      have hfa := flat10 ((List.range rs.length).map F) h10 (j / 10) (by rw [hlen]; exact hd) (j % 10) hm
      rw [e1] at hfa
      rw [hfa] at hu
      obtain ⟨b', off', e', -, hc⟩ := (hF (j / 10) hd).2
      injection e' with e'
      injection e' with e2 e3
      subst e2 e3
      have := hc (j % 10) u (by simpa using hu)
      rwa [Nat.add_assoc, e1] at this
/-- v is a row of the call's own that reads as the rules; their expressions lie in blocks below B. -/
structure OwnQ (B : Nat) (W : World) (base : Nat) (v : Value) (rs : List Rl) (rcs : List (List Value)) : Prop where
  row : W.ownsRow base 53 10 v rs.length rcs.flatten
  len : rcs.length = rs.length
  rul : ∀ (i : Nat) (h : i < rs.length) (h' : i < rcs.length), RuleB B W rcs[i] rs[i]
theorem OwnQ.lies {B : Nat} {W : World} {base n : Nat} {A : Option Addr} {c : Nat} {rs : List Rl} {rcs : List (List Value)} (h : OwnQ B W base (.slice A n c) rs rcs) (hn : n = rs.length) (hB : B ≤ W.heap.size) (hl : rs.length ≤ 9223372036854775807) : LiesP W W.heap.size A c rs := by
  subst hn
  refine ⟨hl, own_cap' h.row, fun i hi => ?_⟩
  have hlen := h.len
  have hi' : i < rcs.length := by omega
  have hz := h.rul i hi hi'
  have h10 : ∀ rc ∈ rcs, rc.length = 10 := fun rc hrc => by
    obtain ⟨q, hq, rfl⟩ := List.getElem_of_mem hrc
    exact (h.rul q (by omega) hq).len
  obtain ⟨b, off, hA, hb, hcell⟩ := (Rd.of_own h.row).addr (by omega)
  have g (j : Nat) (hj : j < 10) (u : Value) (hu : rcs[i][j]? = some u) : W.cell? ⟨b, off + i * 10 + j, none⟩ = some u := by
    have := hcell (i * 10 + j) u (by rw [flat10 rcs h10 i hi' j hj]; exact hu)
    rwa [← Nat.add_assoc] at this
  obtain ⟨k, o, n, v, A1, m1, c1, k2, o2, n2, v2, A2, m2, c2, e, h1, h2⟩ := hz
  rw [e] at g
  exact ⟨b, off, k, o, n, v, A1, m1, c1, k2, o2, n2, v2, A2, m2, c2, hA, hb, h1.more hB, h2.more hB, g 0 (by omega) _ rfl, g 1 (by omega) _ rfl, g 2 (by omega) _ rfl, g 3 (by omega) _ rfl, g 4 (by omega) _ rfl, g 5 (by omega) _ rfl, g 6 (by omega) _ rfl, g 7 (by omega) _ rfl, g 8 (by omega) _ rfl, g 9 (by omega) _ rfl⟩
theorem rules_nil (w : World) : (binOp BinOp.eql 22 (.slice none 0 0) (.slice none 0 0)).run Tryz.prog w = .ok (.bool true) w := by kernel_rfl
theorem rules_some (a : Addr) (n c : Nat) (w : World) : (binOp BinOp.eql 22 (.slice (some a) n c) (.slice none 0 0)).run Tryz.prog w = .ok (.bool false) w := by kernel_rfl
set_option maxRecDepth 100000 in
set_option maxHeartbeats 3200000 in
theorem rclone_any (A : Option Addr) (c B : Nat) (rs : List Rl) (w : World) (hP : LiesP w B A c rs) (hB : B ≤ w.heap.size) (h16 : rs.length ≤ 64) :
    Calls Tryz.prog 21 #[.slice A rs.length c] w (fun e W => Below w.heap.size w W ∧ ∃ v rcs, e = .returned v ∧ OwnQ B W w.heap.size v rs rcs) := by
  obtain ⟨rcs, hlen, hrul, hrd⟩ := hP.rows
  cases A with
  | none =>
    have h0 : rs.length = 0 := by
      rcases hrd.2 with h | ⟨b, off, h, -⟩
      · exact h
      · cases h
    obtain rfl : rs = [] := List.eq_nil_of_length_eq_zero h0
    have hq := rules_nil
    have hq2 : ∀ w : World, (binOp BinOp.eql 22 (.slice none 0 c) (.slice none 0 0)).run Tryz.prog w = .ok (.bool true) w := fun w => by kernel_rfl
    go_enter Tryz.func21, Tryz.ntmps21
    go_wp2_with fail
    go_ret
    exact ⟨Below.refl _ _, _, [], rfl, World.ownsRow_nil _ _ _ _, rfl, fun i h => by simp at h⟩
  | some a =>
    have hq := rules_some a rs.length c
    obtain ⟨i0, hi, hy0, hy1, hy2⟩ := info_parts ruleInfo
    have hba := below_alloc w (.cells #[] 53)
    have hown0 : (w.alloc (.cells #[] 53)).ownsRow w.heap.size 53 10 (.slice (some ⟨w.heap.size, 0, none⟩) 0 0) 0 [] := ⟨rfl, .inr ⟨w.heap.size, 0, #[], rfl, Nat.le_refl _, heap_alloc_new w _, Nat.le_refl _, Nat.zero_le _, rfl, rfl⟩⟩
    have hone : ∀ u ∈ rcs.flatten, u.oneCell' = true := fun u hu => by
      obtain ⟨rc, hrc, hu⟩ := List.mem_flatten.1 hu
      obtain ⟨q, hq, rfl⟩ := List.getElem_of_mem hrc
      exact (hrul q (by omega) hq).one u hu
    have HONE := Lib.hid hone
    have HRD := Lib.hid (Rd.below' hrd hba hB)
    have HRUL := Lib.hid hrul
    have HOWN := Lib.hid hown0
    clear hone hrd hrul hown0 hP
    go_enter Tryz.func21, Tryz.ntmps21
    go_wp2_with (at_builtin; refine wpList_append_rd rfl (.tmp 5) (.tmp 6) _ rfl w.heap.size 53 i0 (.agg #[.int .i64 0, .int .i64 0, .string ⟨#[]⟩, .int .i64 0, .slice none 0 0, .int .i64 0, .int .i64 0, .string ⟨#[]⟩, .int .i64 0, .slice none 0 0]) 10 128 Tryz.underlying22 hi hy0 hy1 hy2 rfl (by omega) _ _ _ rfl HOWN.out B (some a) rs.length c rcs.flatten rfl HRD.out HONE.out (by unfold maxLen; omega) (by omega) (by simp) ?_; intro v2 w3 hown2 hg2 hob2)
    have HB3 := Lib.hid (hba.grown hg2 (by simp) (fun g hg => by cases hg; exact Nat.le_refl _))
    have HO2 := Lib.hid hown2
    clear hg2 hob2 hown2 hq hi hy0 hy1 hy2
    go_wp2_with fail
    go_ret
    refine ⟨HB3.out, v2, rcs, rfl, ?_, hlen, fun i h1 h2 => (HRUL.out i h1 h2).below' HB3.out hB⟩
    have := HO2.out
    rwa [Nat.zero_add, List.nil_append] at this
end Go.Proofs.YtkiilaajomjinaaGreatDoor

/- The condition 1 < 0 as an expression in memory; a rule put behind a row of rules. Conditions: none. -/
namespace Go.Proofs.YtkiilaajomjinaaGreatDoor
open Go.RowKit
theorem num_lies {W : World} (B : Nat) (v : Int) (hv : I64 v) : LiesE W B (exC 1 0 ByteArray.empty v none 0 0) (exNum v) :=
  LiesE.mk (w := W) (B := B) 1 0 ByteArray.empty v none 0 [] (fun _ => []) ⟨by unfold I64; omega, by unfold I64; omega, hv, by decide, by decide, Nat.le_refl _⟩ (.inl rfl) (fun i hi => by simp at hi)
theorem nv_lies {W : World} {K B : Nat} {T : TypeId} {fz : Nat × Nat} (hK : K < B) (hk : W.heap[K]? = some (.cells #[.int .i64 1, .int .i64 0, .string ByteArray.empty, .int .i64 1, .slice none 0 0, .int .i64 1, .int .i64 0, .string ByteArray.empty, .int .i64 0, .slice none 0 0] T fz)) :
    LiesE W B (exC 4 10 ByteArray.empty 0 (some ⟨K, 0, none⟩) 2 2) nvE := by
  refine LiesE.mk (w := W) (B := B) 4 10 ByteArray.empty 0 (some ⟨K, 0, none⟩) 2 [exNum 1, exNum 0] (fun i => if i = 0 then exC 1 0 ByteArray.empty 1 none 0 0 else exC 1 0 ByteArray.empty 0 none 0 0) ⟨by unfold I64; omega, by unfold I64; omega, by unfold I64; omega, by decide, by decide, Nat.le_refl _⟩ (.inr ⟨K, 0, rfl, hK, fun i hi j u hu => ?_⟩) (fun i hi => ?_)
  · have hi : i < 2 := hi
    have hj : j < 5 := by
      have := (List.getElem?_eq_some_iff.1 hu).1
      split at this <;> exact this
    have := cell_of_row W K (i * 5 + j) _ _ _ hk
    rw [show 0 + i * 5 + j = i * 5 + j from by omega, this, ← hu]
    match i, hi, j, hj with
    | 0, _, 0, _ | 0, _, 1, _ | 0, _, 2, _ | 0, _, 3, _ | 0, _, 4, _ | 1, _, 0, _ | 1, _, 1, _ | 1, _, 2, _ | 1, _, 3, _ | 1, _, 4, _ => rfl
    | 0, _, j + 5, hj => omega
    | 1, _, j + 5, hj => omega
    | i + 2, hi, _, _ => omega
  · match i, hi with
    | 0, _ => exact num_lies B 1 (by unfold I64; omega)
    | 1, _ => exact num_lies B 0 (by unfold I64; omega)
    | i + 2, hi => exact absurd hi (by show ¬ i + 2 < 2; omega)
/-- A rule put behind. -/
theorem OwnQ.app {B C : Nat} {W W' : World} {base : Nat} {v v' : Value} {rs : List Rl} {rcs : List (List Value)} {cs : List Value} {r : Rl} (h : OwnQ B W base v rs rcs) (hr : RuleB B W cs r) (hown : W'.ownsRow base 53 10 v' (rs.length + 1) (rcs.flatten ++ cs)) (hb : Below C W W') (hC : B ≤ C) : OwnQ B W' base v' (rs ++ [r]) (rcs ++ [cs]) := by
  refine ⟨by rw [List.length_append, List.flatten_append]; simpa using hown, by rw [List.length_append, List.length_append, h.len]; rfl, fun i h1 h2 => ?_⟩
  rw [List.length_append] at h1
  rcases Nat.lt_or_ge i rs.length with h9 | h9
  · rw [List.getElem_append_left (by rw [h.len]; exact h9), List.getElem_append_left h9]
    exact (h.rul i h9 (by rw [h.len]; exact h9)).below' hb hC
  · have e1 : i = rs.length := by simp at h1; omega
    subst e1
    rw [List.getElem_append_right (Nat.le_refl _), List.getElem_append_right (by rw [h.len]; exact Nat.le_refl _)]
    simp only [h.len, Nat.sub_self, List.getElem_cons_zero]
    exact hr.below' hb hC
end Go.Proofs.YtkiilaajomjinaaGreatDoor
