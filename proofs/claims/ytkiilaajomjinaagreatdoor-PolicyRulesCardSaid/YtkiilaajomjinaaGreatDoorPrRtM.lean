/- What is printed of an expression is read back as that expression. Plain Lean; no program in sight. -/
import Derived.Test.YtkiilaajomjinaaGreatDoorPrLexM
import Derived.Test.YtkiilaajomjinaaGreatDoorPrPolM
namespace Go.Proofs.YtkiilaajomjinaaGreatDoor

def precO (o : Int) : Nat := if o = 15 then 1 else if o = 14 then 2 else if o = 3 ∨ o = 4 then 4 else if o = 5 ∨ o = 6 ∨ o = 7 then 5 else 3
def precK (k o : Int) : Nat := if k = 3 then 6 else if k = 4 then precO o else 7
def precE (e : Ex) : Nat := precK e.kind e.op
def signO (o : Int) : List UInt8 := if o = 3 then [43] else if o = 4 then [45] else if o = 5 then [42] else if o = 6 then [47] else if o = 7 then [37] else if o = 8 then [61, 61] else if o = 9 then [33, 61] else if o = 10 then [60] else if o = 11 then [60, 61] else if o = 12 then [62] else if o = 13 then [62, 61] else if o = 14 then [38, 38] else [124, 124]
def leftP (o : Int) : Nat := if precO o = 3 then 4 else precO o
/-- An argument's text, in parentheses if its precedence is less than a limit. -/
def parB (lim : Nat) (w : Nat × List UInt8) : List UInt8 := if w.1 < lim then 40 :: (w.2 ++ [41]) else w.2
def outB (k o : Int) (n : ByteArray) (v : Int) (ws : List (Nat × List UInt8)) : List UInt8 :=
  if k = 1 then decL v.toNat else if k = 2 then n.data.toList
  else if k = 3 then (if o = 2 then 33 else 45) :: parB 6 (ws.getD 0 (0, []))
  else parB (leftP o) (ws.getD 0 (0, [])) ++ 32 :: (signO o ++ 32 :: parB (precO o + 1) (ws.getD 1 (0, [])))
mutual
/-- An expression's text. -/
def wrE : Ex → List UInt8 | .mk k o n v as => outB k o n v (wrL as)
def wrL : List Ex → List (Nat × List UInt8) | [] => [] | a :: as => (precE a, wrE a) :: wrL as
end
def tk0 (k : Int) (t : List UInt8) (v : Int) : Tk := ⟨k, ⟨t.toArray⟩, v, 0⟩
def parT (lim : Nat) (w : Nat × List Tk) : List Tk := if w.1 < lim then tk0 3 [40] 0 :: (w.2 ++ [tk0 3 [41] 0]) else w.2
def outT (k o : Int) (n : ByteArray) (v : Int) (ws : List (Nat × List Tk)) : List Tk :=
  if k = 1 then [tk0 2 (decL v.toNat) v] else if k = 2 then [⟨1, n, 0, 0⟩]
  else if k = 3 then tk0 3 [if o = 2 then 33 else 45] 0 :: parT 6 (ws.getD 0 (0, []))
  else parT (leftP o) (ws.getD 0 (0, [])) ++ tk0 3 (signO o) 0 :: parT (precO o + 1) (ws.getD 1 (0, []))
mutual
/-- An expression's tokens. -/
def tkE : Ex → List Tk | .mk k o n v as => outT k o n v (tkL as)
def tkL : List Ex → List (Nat × List Tk) | [] => [] | a :: as => (precE a, tkE a) :: tkL as
end
def strip (t : Tk) : Tk := { t with pos := 0 }

/-! ### the four forms of a valid expression -/
theorem size0 {n : ByteArray} (h : n.size = 0) : n = ByteArray.empty := by
  obtain ⟨a⟩ := n
  have : a = #[] := Array.eq_empty_of_size_eq_zero h
  subst this; rfl
inductive Form : Ex → Prop where
  | num (v : Int) (h : 0 ≤ v ∧ v ≤ 1099511627776) : Form (exNum v)
  | name (n : ByteArray) (h : nmB n = true) : Form (exName n)
  | un (o : Int) (a : Ex) (h : o = 1 ∨ o = 2) : Form (exUn o a)
  | bin (o : Int) (a b : Ex) (h : 3 ≤ o ∧ o ≤ 15) : Form (exBin o a b)
theorem form_of {e : Ex} (h : Good e) : Form e := by
  have hP := part_of h.self
  obtain ⟨k, o, n, v, as⟩ := e
  obtain ⟨lo, hi, hval, hname, hop, hlen, hrange, hnm, hun, hbin⟩ := hP
  simp only [Ex.kind, Ex.op, Ex.name, Ex.val, Ex.args] at *
  have hk : k = 1 ∨ k = 2 ∨ k = 3 ∨ k = 4 := by omega
  rcases hk with rfl | rfl | rfl | rfl
  · obtain rfl := size0 (hname (by decide))
    obtain rfl := hop (by decide)
    obtain rfl : as = [] := List.eq_nil_of_length_eq_zero (by rw [hlen]; rfl)
    exact .num v (hrange rfl)
  · obtain rfl := hval (by decide)
    obtain rfl := hop (by decide)
    obtain rfl : as = [] := List.eq_nil_of_length_eq_zero (by rw [hlen]; rfl)
    exact .name n (hnm rfl)
  · obtain rfl := hval (by decide)
    obtain rfl := size0 (hname (by decide))
    have h1 : as.length = 1 := hlen
    match as, h1 with
    | [a], _ => exact .un o a (hun rfl)
  · obtain rfl := hval (by decide)
    obtain rfl := size0 (hname (by decide))
    have h1 : as.length = 2 := hlen
    match as, h1 with
    | [a, b], _ => exact .bin o a b (hbin rfl)
theorem ops13 {o : Int} (h : 3 ≤ o ∧ o ≤ 15) : o = 3 ∨ o = 4 ∨ o = 5 ∨ o = 6 ∨ o = 7 ∨ o = 8 ∨ o = 9 ∨ o = 10 ∨ o = 11 ∨ o = 12 ∨ o = 13 ∨ o = 14 ∨ o = 15 := by omega
theorem wr_num (v : Int) : wrE (exNum v) = decL v.toNat := by simp [exNum, wrE, outB]
theorem wr_name (n : ByteArray) : wrE (exName n) = n.data.toList := by simp [exName, wrE, outB]
theorem wr_un (o : Int) (a : Ex) : wrE (exUn o a) = (if o = 2 then 33 else 45) :: parB 6 (precE a, wrE a) := by simp [exUn, wrE, wrL, outB]
theorem wr_bin (o : Int) (a b : Ex) : wrE (exBin o a b) = parB (leftP o) (precE a, wrE a) ++ 32 :: (signO o ++ 32 :: parB (precO o + 1) (precE b, wrE b)) := by simp [exBin, wrE, wrL, outB]
theorem tk_num (v : Int) : tkE (exNum v) = [tk0 2 (decL v.toNat) v] := by simp [exNum, tkE, outT]
theorem tk_name (n : ByteArray) : tkE (exName n) = [⟨1, n, 0, 0⟩] := by simp [exName, tkE, outT]
theorem tk_un (o : Int) (a : Ex) : tkE (exUn o a) = tk0 3 [if o = 2 then 33 else 45] 0 :: parT 6 (precE a, tkE a) := by simp [exUn, tkE, tkL, outT]
theorem tk_bin (o : Int) (a b : Ex) : tkE (exBin o a b) = parT (leftP o) (precE a, tkE a) ++ tk0 3 (signO o) 0 :: parT (precO o + 1) (precE b, tkE b) := by simp [exBin, tkE, tkL, outT]
theorem Good.un {o : Int} {a : Ex} (h : Good (exUn o a)) : Good a := h.arg (by simp)
theorem Good.binl {o : Int} {a b : Ex} (h : Good (exBin o a b)) : Good a := h.arg (by simp)
theorem Good.binr {o : Int} {a b : Ex} (h : Good (exBin o a b)) : Good b := h.arg (by simp)
/-- Induction on the form. -/
theorem good_ind {P : Ex → Prop} (hn : ∀ v, 0 ≤ v ∧ v ≤ 1099511627776 → P (exNum v)) (hm : ∀ n, nmB n = true → P (exName n)) (hu : ∀ o a, (o = 1 ∨ o = 2) → Good a → P a → P (exUn o a)) (hb : ∀ o a b, (3 ≤ o ∧ o ≤ 15) → Good a → Good b → P a → P b → P (exBin o a b)) : ∀ e, Good e → P e := by
  intro e
  induction e using Ex.ind with
  | h k o n v as ih =>
    intro h
    have hf := form_of h
    generalize he : Ex.mk k o n v as = e at h hf
    cases hf with
    | num v h1 => exact hn v h1
    | name n h1 => exact hm n h1
    | un o a h1 =>
      injection he with _ _ _ _ he
      subst he
      exact hu o a h1 h.un (ih a (by simp) h.un)
    | bin o a b h1 =>
      injection he with _ _ _ _ he
      subst he
      exact hb o a b h1 h.binl h.binr (ih a (by simp) h.binl) (ih b (by simp) h.binr)

/-! ### texts -/
/-- What a text begins with. -/
def Hd (c : UInt8) : Prop := c.toNat = 40 ∨ c.toNat = 33 ∨ c.toNat = 45 ∨ (48 ≤ c.toNat ∧ c.toNat ≤ 57) ∨ (97 ≤ c.toNat ∧ c.toNat ≤ 122)
def HdL (l : List UInt8) : Prop := ∃ c r, l = c :: r ∧ Hd c
theorem HdL.app {l m : List UInt8} (h : HdL l) : HdL (l ++ m) := by obtain ⟨c, r, rfl, h⟩ := h; exact ⟨c, r ++ m, rfl, h⟩
theorem ofNat_dig {n : Nat} (h : n < 10) : (UInt8.ofNat (48 + n)).toNat = 48 + n := by simp [UInt8.toNat_ofNat]; omega
theorem dec_dig : ∀ (f n : Nat), ∀ c ∈ decF f n, 48 ≤ c.toNat ∧ c.toNat ≤ 57
  | 0, _, c, h => by cases h
  | f + 1, n, c, h => by
    unfold decF at h
    split at h
    · next h1 => obtain rfl := List.mem_singleton.1 h; rw [ofNat_dig h1]; omega
    · rcases List.mem_append.1 h with h | h
      · exact dec_dig f _ c h
      · obtain rfl := List.mem_singleton.1 h; rw [ofNat_dig (Nat.mod_lt _ (by decide))]; have := Nat.mod_lt n (show 10 > 0 by decide); omega
theorem dec_ne (n : Nat) : decL n ≠ [] := by
  unfold decL decF
  split
  · simp
  · simp
/-- Its first digit is no zero, unless it is alone. -/
theorem dec_head : ∀ (f n : Nat), n < 10 ^ (f + 1) → ∀ c r, decF (f + 1) n = c :: r → r = [] ∨ c.toNat ≠ 48
  | 0, n, h, c, r, e => by
    unfold decF at e
    rw [if_pos (by simpa using h)] at e
    injection e with _ e; exact .inl e.symm
  | f + 1, n, h, c, r, e => by
    rw [decF] at e
    split at e
    · injection e with _ e; exact .inl e.symm
    · next h1 =>
      right
      have hd : n / 10 < 10 ^ (f + 1) := by rw [Nat.pow_succ] at h; omega
      cases hc : decF (f + 1) (n / 10) with
      | nil =>
        have := dec_ne (n / 10)
        unfold decF at hc
        split at hc
        · cases hc
        · simp at hc
      | cons c' r' =>
        rw [hc] at e
        injection e with e1 e2
        subst e1
        rcases dec_head f (n / 10) hd c' r' hc with h2 | h2
        · subst h2
          have h3 : n / 10 < 10 := by
            refine Decidable.byContradiction fun h3 => ?_
            rw [decF, if_neg h3] at hc
            have := congrArg List.length hc
            simp at this
            cases f with
            | zero => simp at hd; omega
            | succ f =>
              unfold decF at this
              split at this <;> simp at this
          rw [decF, if_pos h3] at hc
          injection hc with hc _
          rw [← hc, ofNat_dig h3]; omega
        · exact h2
theorem num_dec : ∀ (f n : Nat), n < 10 ^ f → numV (decF f n) = n
  | 0, n, h => by simp at h; subst h; rfl
  | f + 1, n, h => by
    unfold decF
    split
    · next h1 => show 0 * 10 + ((UInt8.ofNat (48 + n)).toNat - 48) = n; rw [ofNat_dig h1]; omega
    · have hd : n / 10 < 10 ^ f := by rw [Nat.pow_succ] at h; omega
      have := num_dec f (n / 10) hd
      unfold numV at this ⊢
      rw [List.foldl_append, this]
      simp only [List.foldl_cons, List.foldl_nil]
      rw [ofNat_dig (Nat.mod_lt _ (by decide))]
      omega
theorem nm_parts {n : ByteArray} (h : nmB n = true) : ∃ c r, n.data.toList = c :: r ∧ letB c = true ∧ (∀ d ∈ n.data.toList, inB d = true) ∧ n.data.toList.length ≤ 30 := by
  unfold nmB nmL at h
  simp only [Bool.and_eq_true, decide_eq_true_eq, List.all_eq_true] at h
  obtain ⟨⟨⟨h1, h2⟩, h3⟩, h4⟩ := h
  cases hl : n.data.toList with
  | nil => rw [hl] at h1; simp at h1
  | cons c r => rw [hl] at h2 h3 h4; exact ⟨c, r, rfl, h3, h4, h2⟩
theorem par_head {lim p : Nat} {w : List UInt8} (h : HdL w) : HdL (parB lim (p, w)) := by
  unfold parB
  split
  · exact ⟨40, _, rfl, .inl rfl⟩
  · exact h
theorem wr_head : ∀ e, Good e → HdL (wrE e) := by
  refine good_ind (fun v h => ?_) (fun n h => ?_) (fun o a h _ ih => ?_) (fun o a b h _ _ ia ib => ?_)
  · rw [wr_num]
    cases hd : decL v.toNat with
    | nil => exact absurd hd (dec_ne _)
    | cons c r => exact ⟨c, r, rfl, .inr (.inr (.inr (.inl (dec_dig 20 v.toNat c (by unfold decL at hd; rw [hd]; simp)))))⟩
  · rw [wr_name]
    obtain ⟨c, r, e, h1, -⟩ := nm_parts h
    refine ⟨c, r, e, .inr (.inr (.inr (.inr ?_)))⟩
    unfold letB at h1; simpa using h1
  · rw [wr_un]
    refine ⟨_, _, rfl, ?_⟩
    split
    · exact .inr (.inl rfl)
    · exact .inr (.inr (.inl rfl))
  · rw [wr_bin]; exact (par_head ia).app

/-! ### tokens of a text -/
/-- What may follow a token of an expression. -/
def Safe (l : List UInt8) : Prop := ∀ c r, l = c :: r → c.toNat = 32 ∨ c.toNat = 41 ∨ c.toNat = 59
theorem safe_cons {c : UInt8} {l : List UInt8} (h : c.toNat = 32 ∨ c.toNat = 41 ∨ c.toNat = 59) : Safe (c :: l) := fun _ _ e => by injection e with e _; rw [← e]; exact h
def skipL (l : List UInt8) : List UInt8 := l.drop (skipN false l)
theorem skip_head {l : List UInt8} (h : HdL l) : skipL l = l := by
  obtain ⟨c, r, rfl, h⟩ := h
  unfold skipL skipN
  unfold Hd at h
  rw [if_neg (by omega), if_neg (by simp), if_neg (by omega), if_neg (by omega)]
  rfl
theorem skip_blank (c : UInt8) (l : List UInt8) (h : c.toNat = 32 ∨ c.toNat = 9) : skipL (c :: l) = skipL l := by
  unfold skipL
  conv => lhs; rw [skipN]
  rw [if_neg (by omega), if_neg (by simp), if_neg (by omega), if_pos h]
  rfl
theorem skip_other (c : UInt8) (l : List UInt8) (h : c.toNat ≠ 10 ∧ c.toNat ≠ 35 ∧ c.toNat ≠ 32 ∧ c.toNat ≠ 9) : skipL (c :: l) = c :: l := by
  unfold skipL skipN
  rw [if_neg (by omega), if_neg (by simp), if_neg (by omega), if_neg (by omega)]
  rfl
/-- A text's tokens, from one's beginning on. -/
inductive LexR : List UInt8 → List Tk → Prop where
  | nil : LexR [] []
  | tok (c : UInt8) (l : List UInt8) (k : Int) (n v : Nat) (ts : List Tk) (h : tok1 (c :: l) = .ok k n v) (r : LexR (skipL ((c :: l).drop n)) ts) : LexR (c :: l) (tk0 k ((c :: l).take n) v :: ts)
theorem run_app (p : UInt8 → Bool) : ∀ (l r : List UInt8), (∀ c ∈ l, p c = true) → (∀ c s, r = c :: s → p c = false) → runN p (l ++ r) = l.length
  | [], r, _, h2 => by
    cases r with
    | nil => rfl
    | cons c s => simp [runN, h2 c s rfl]
  | c :: l, r, h1, h2 => by
    rw [List.cons_append, runN, if_pos (h1 c (by simp)), run_app p l r (fun d hd => h1 d (by simp [hd])) h2]
    rfl
theorem safe_in {r : List UInt8} (h : Safe r) : ∀ c s, r = c :: s → inB c = false := fun c s e => by
  have := h c s e
  unfold inB letB digB
  simp; omega
theorem tok_name {n : ByteArray} (h : nmB n = true) {r : List UInt8} (hr : Safe r) : tok1 (n.data.toList ++ r) = .ok 1 n.data.toList.length 0 := by
  obtain ⟨c, s, e, h1, h2, h3⟩ := nm_parts h
  have hrun := run_app inB n.data.toList r h2 (safe_in hr)
  rw [e] at hrun h3 ⊢
  rw [List.cons_append] at hrun ⊢
  unfold tok1
  simp only [h1, if_true]
  unfold nameT
  rw [hrun, if_neg (by omega)]
theorem tok_num {v : Nat} (h : v ≤ 1099511627776) {r : List UInt8} (hr : Safe r) : tok1 (decL v ++ r) = .ok 2 (decL v).length v := by
  have hdig : ∀ c ∈ decL v, 48 ≤ c.toNat ∧ c.toNat ≤ 57 := dec_dig 20 v
  have hrun := run_app digB (decL v) r (fun c hc => by unfold digB; have := hdig c hc; simp; omega) (fun c s e => by have := safe_in hr c s e; unfold inB at this; simp at this; exact this.1.2)
  have hv : numV (decL v) = v := num_dec 20 v (by omega)
  have hh := dec_head 19 v (by omega)
  cases hd : decL v with
  | nil => exact absurd hd (dec_ne _)
  | cons c s =>
    have hc := hdig c (by rw [hd]; simp)
    rw [hd] at hrun hv
    have hh' := hh c s hd
    rw [List.cons_append] at hrun ⊢
    have e1 : letB c = false := by unfold letB; simp; omega
    have e2 : digB c = true := by unfold digB; simp; omega
    unfold tok1
    simp only [e1, e2, if_true, Bool.false_eq_true, if_false]
    have ed : (c :: (s ++ r)).drop (c :: s).length = r := by rw [← List.cons_append]; exact List.drop_left
    have et : (c :: (s ++ r)).take (c :: s).length = c :: s := by rw [← List.cons_append]; exact List.take_left
    have hb : badN (c :: (s ++ r)) = false := by
      unfold badN
      rw [hrun, ed]
      rw [Bool.or_eq_false_iff]
      constructor
      · rcases hh' with h1 | h1
        · subst h1; simp
        · simp [h1]
      · cases hr' : r with
        | nil => rfl
        | cons d q =>
          have := hr d q hr'
          unfold letB; simp; omega
    unfold numT
    rw [hb, hrun, et, hv, if_neg (by simp), if_neg (by omega)]
theorem tok_one {c : UInt8} (hc : c.toNat = 40 ∨ c.toNat = 41 ∨ c.toNat = 45 ∨ c.toNat = 59) (r : List UInt8) : tok1 (c :: r) = .ok 3 1 0 := by
  have hc' : c = 40 ∨ c = 41 ∨ c = 45 ∨ c = 59 := by
    rcases hc with h | h | h | h
    · exact .inl (UInt8.toNat_inj.1 h)
    · exact .inr (.inl (UInt8.toNat_inj.1 h))
    · exact .inr (.inr (.inl (UInt8.toNat_inj.1 h)))
    · exact .inr (.inr (.inr (UInt8.toNat_inj.1 h)))
  rcases hc' with rfl | rfl | rfl | rfl <;> (cases r with
    | nil => rfl
    | cons d q => simp [tok1, letB, digB, signT, dblS, sglS])
theorem tok_not {r : List UInt8} (hr : HdL r) : tok1 (33 :: r) = .ok 3 1 0 := by
  obtain ⟨d, q, rfl, h⟩ := hr
  have hd : d ≠ 61 := by rintro rfl; unfold Hd at h; revert h; decide
  simp [tok1, letB, digB, signT, dblS, sglS, hd]
theorem tok_op {o : Int} (h : 3 ≤ o ∧ o ≤ 15) (r : List UInt8) : tok1 (signO o ++ 32 :: r) = .ok 3 (signO o).length 0 := by
  rcases ops13 h with rfl | rfl | rfl | rfl | rfl | rfl | rfl | rfl | rfl | rfl | rfl | rfl | rfl <;> simp [signO, tok1, letB, digB, signT, dblS, sglS]
theorem sign_head {o : Int} (h : 3 ≤ o ∧ o ≤ 15) : ∃ c r, signO o = c :: r ∧ c.toNat ≠ 10 ∧ c.toNat ≠ 35 ∧ c.toNat ≠ 32 ∧ c.toNat ≠ 9 := by
  rcases ops13 h with rfl | rfl | rfl | rfl | rfl | rfl | rfl | rfl | rfl | rfl | rfl | rfl | rfl <;> exact ⟨_, _, rfl, by decide, by decide, by decide, by decide⟩
theorem lex_tok {l : List UInt8} {k : Int} {v : Nat} {r : List UInt8} {ts : List Tk} (hl : l ≠ []) (h : tok1 (l ++ r) = .ok k l.length v) (hr : LexR (skipL r) ts) : LexR (l ++ r) (tk0 k l v :: ts) := by
  cases l with
  | nil => exact absurd rfl hl
  | cons c s =>
    have e1 : (c :: (s ++ r)).drop (c :: s).length = r := by rw [← List.cons_append]; exact List.drop_left
    have e2 : (c :: (s ++ r)).take (c :: s).length = c :: s := by rw [← List.cons_append]; exact List.take_left
    have := LexR.tok c (s ++ r) k (c :: s).length v ts h (by rw [e1]; exact hr)
    rw [e2] at this
    exact this
/-- A text reads as tokens, whatever may follow. -/
def LexE (w : List UInt8) (t : List Tk) : Prop := ∀ r ts, Safe r → LexR (skipL r) ts → LexR (w ++ r) (t ++ ts)
theorem lex_par {w : List UInt8} {t : List Tk} (hw : HdL w) (h : LexE w t) (lim p : Nat) : LexE (parB lim (p, w)) (parT lim (p, t)) := by
  intro r ts hs hr
  unfold parB parT
  dsimp only
  split
  · have h1 := h (41 :: r) (tk0 3 [41] 0 :: ts) (safe_cons (.inr (.inl rfl))) (by
      rw [skip_other _ _ (by decide)]
      exact lex_tok (l := [41]) (by simp) (tok_one (.inr (.inl rfl)) r) hr)
    have h2 := lex_tok (l := [40]) (k := 3) (v := 0) (r := w ++ 41 :: r) (by simp) (tok_one (.inl rfl) _) (by rw [skip_head hw.app]; exact h1)
    simpa using h2
  · exact h r ts hs hr
theorem lex_wr : ∀ e, Good e → LexE (wrE e) (tkE e) := by
  refine good_ind (fun v h => ?_) (fun n h => ?_) (fun o a h ha ih => ?_) (fun o a b h ha hb ia ib => ?_)
  · intro r ts hs hr
    rw [wr_num, tk_num]
    have := lex_tok (l := decL v.toNat) (dec_ne _) (tok_num (v := v.toNat) (by omega) hs) hr
    rwa [show ((v.toNat : Nat) : Int) = v from by omega] at this
  · intro r ts hs hr
    rw [wr_name, tk_name]
    obtain ⟨c, s, e, -⟩ := nm_parts h
    exact lex_tok (l := n.data.toList) (by rw [e]; simp) (tok_name h hs) hr
  · intro r ts hs hr
    rw [wr_un, tk_un]
    have hp := lex_par (wr_head a ha) ih 6 (precE a) r ts hs hr
    have hh := (par_head (lim := 6) (p := precE a) (wr_head a ha)).app (m := r)
    rcases h with rfl | rfl
    · exact lex_tok (l := [45]) (r := parB 6 (precE a, wrE a) ++ r) (by simp) (tok_one (.inr (.inr (.inl rfl))) _) (by rw [skip_head hh]; exact hp)
    · exact lex_tok (l := [33]) (r := parB 6 (precE a, wrE a) ++ r) (by simp) (tok_not hh) (by rw [skip_head hh]; exact hp)
  · intro r ts hs hr
    rw [wr_bin, tk_bin]
    have hpb := lex_par (wr_head b hb) ib (precO o + 1) (precE b) r ts hs hr
    have hhb := (par_head (lim := precO o + 1) (p := precE b) (wr_head b hb)).app (m := r)
    obtain ⟨c, q, hc, hne⟩ := sign_head h
    have hsk (m : List UInt8) : skipL (signO o ++ m) = signO o ++ m := by rw [hc, List.cons_append]; exact skip_other _ _ hne
    have h1 : LexR (signO o ++ 32 :: (parB (precO o + 1) (precE b, wrE b) ++ r)) (tk0 3 (signO o) 0 :: (parT (precO o + 1) (precE b, tkE b) ++ ts)) :=
      lex_tok (by rw [hc]; simp) (tok_op h _) (by rw [skip_blank _ _ (.inl rfl), skip_head hhb]; exact hpb)
    have h2 := lex_par (wr_head a ha) ia (leftP o) (precE a) (32 :: (signO o ++ 32 :: (parB (precO o + 1) (precE b, wrE b) ++ r))) _ (safe_cons (.inl rfl)) (by
      rw [skip_blank _ _ (.inl rfl), hsk]
      exact h1)
    simpa using h2
theorem tok_pos {c : UInt8} {l : List UInt8} {k : Int} {n v : Nat} (h : tok1 (c :: l) = .ok k n v) : 1 ≤ n := by
  unfold tok1 at h
  simp only at h
  split at h
  · next hc =>
    unfold nameT at h
    split at h
    · cases h
    · injection h with _ h _
      rw [← h, runN, if_pos (by unfold inB; simp [hc])]; omega
  · split at h
    · next hc =>
      unfold numT at h
      split at h
      · cases h
      · split at h
        · cases h
        · injection h with _ h _
          rw [← h, runN, if_pos hc]; omega
    · unfold signT at h
      by_cases h1 : dblS.contains (List.take 2 (c :: l)) = true
      · rw [if_pos h1] at h; injection h with _ h _; omega
      · rw [if_neg h1] at h
        simp only at h
        by_cases h2 : sglS.contains c = true
        · rw [if_pos h2] at h; injection h with _ h _; omega
        · rw [if_neg h2] at h; cases h
theorem lex_toks (s : ByteArray) {l : List UInt8} {ts : List Tk} (h : LexR l ts) : ∀ (f i : Nat) (acc : List Tk), s.data.toList.drop i = l → l.length < f → ∃ us, toksF s f i acc = .ok (acc ++ us ++ [⟨0, ByteArray.empty, 0, s.size⟩]) ∧ us.map strip = ts := by
  induction h with
  | nil =>
    intro f i acc hd hf
    obtain ⟨g, rfl⟩ : ∃ g, f = g + 1 := ⟨f - 1, by omega⟩
    have hi : ¬ i < s.size := by
      intro hi
      have := congrArg List.length hd
      simp at this
      have h2 : s.size = s.data.size := rfl
      omega
    exact ⟨[], by unfold toksF; rw [if_neg hi]; simp, rfl⟩
  | tok c l k n v ts h r ih =>
    intro f i acc hd hf
    obtain ⟨g, rfl⟩ : ∃ g, f = g + 1 := ⟨f - 1, by omega⟩
    have hi : i < s.size := by
      refine Decidable.byContradiction fun hi => ?_
      rw [List.drop_eq_nil_of_le (by simp; have h2 : s.size = s.data.size := rfl; omega)] at hd
      cases hd
    have hn := tok_pos h
    have hd2 : s.data.toList.drop (i + n) = (c :: l).drop n := by rw [← hd, List.drop_drop]
    have hd3 : s.data.toList.drop (i + n + skipN false (s.data.toList.drop (i + n))) = skipL ((c :: l).drop n) := by
      unfold skipL
      rw [← hd2, List.drop_drop]
    obtain ⟨us, hu, hm⟩ := ih g _ (acc ++ [⟨k, subB s i n, v, i⟩]) hd3 (by
      unfold skipL
      rw [List.length_drop, List.length_drop]; simp at hf ⊢; omega)
    refine ⟨⟨k, subB s i n, v, i⟩ :: us, ?_, ?_⟩
    · unfold toksF
      rw [if_pos hi, hd, h]
      simp only
      rw [hu]
      simp
    · rw [List.map_cons, hm]
      congr 1
      unfold strip tk0 subB
      rw [hd]
end Go.Proofs.YtkiilaajomjinaaGreatDoor
