/- Policies' texts in plain Lean: what is parsed and printed; what was printed is parsed to the same. No program in sight. -/
import Derived.Test.YtkiilaajomjinaaGreatDoorPrRtP
import Derived.MapKept
namespace Go.Proofs.YtkiilaajomjinaaGreatDoor

def ex0 : Ex := .mk 0 0 ByteArray.empty 0 []
def whenL : List UInt8 := [119, 104, 101, 110]
def byL : List UInt8 := [98, 121]
def semL : List UInt8 := [59]
/-- A reader's place and error. -/
structure PSt where
  k : Nat
  err : Nat
def needP (ts : List Tk) (kind : Int) (text : List UInt8) (s : PSt) : PSt := if s.err ≠ 0 then s else (match ts[s.k]? with
  | none => s
  | some t => if t.kind = kind ∧ t.text.data.toList = text then ⟨s.k + 1, 0⟩ else ⟨s.k, 3⟩)
/-- The expression at the beginning of tokens, how many were read, an error. -/
def exprR (l : List Tk) : Ex × Nat × Nat := match readP l with
  | .ok e n => if chkE e = 0 then (e, n, 0) else (ex0, 0, chkE e)
  | .bad n => (ex0, n, 3)
  | .out => (ex0, 0, 3)
def movP (ts : List Tk) (k : Nat) (r : Ex × Nat × Nat) : PSt := ⟨if r.2.2 = 0 ∨ r.2.2 = 3 then min (k + r.2.1) (ts.length - 1) else k, r.2.2⟩
def exprP (ts : List Tk) (s : PSt) : Ex × PSt := if s.err ≠ 0 then (ex0, s) else ((exprR (ts.drop s.k)).1, movP ts s.k (exprR (ts.drop s.k)))
def kindAt (ts : List Tk) (k : Nat) : Int := match ts[k]? with | none => 0 | some t => t.kind
def posAt (ts : List Tk) (k : Nat) : Nat := match ts[k]? with | none => 0 | some t => t.pos
/-- The five parts of a rule. -/
def r1P (ts : List Tk) (s : PSt) : PSt := needP ts 1 whenL s
def r2P (ts : List Tk) (s : PSt) : Ex × PSt := exprP ts (r1P ts s)
def r3P (ts : List Tk) (s : PSt) : PSt := needP ts 1 byL (r2P ts s).2
def r4P (ts : List Tk) (s : PSt) : Ex × PSt := exprP ts (r3P ts s)
def r5P (ts : List Tk) (s : PSt) : PSt := needP ts 3 semL (r4P ts s).2
def loopP (ts : List Tk) : Nat → PSt → List Rl → PSt × List Rl
  | 0, s, acc => (s, acc)
  | f + 1, s, acc => if s.err = 0 ∧ kindAt ts s.k ≠ 0 then loopP ts f (r5P ts s) (acc ++ [⟨(r2P ts s).1, (r4P ts s).1⟩]) else (s, acc)
inductive PolR where
  | ok (rs : List Rl)
  | er (at_ f : Nat)
def endP (ts : List Tk) (r : PSt × List Rl) : PolR := if r.1.err = 3 then .er (posAt ts r.1.k) 3 else if r.1.err ≠ 0 then .er 0 r.1.err else if chkP r.2 ≠ 0 then .er 0 (chkP r.2) else .ok r.2
/-- What Parse returns. -/
def parseM (s : ByteArray) : PolR := match toksE s with
  | .er a f => .er a f
  | .ok ts => endP ts (loopP ts (ts.length + 1) ⟨0, 0⟩ [])
def ruleB (r : Rl) : List UInt8 := whenL ++ 32 :: (wrE r.cond ++ 32 :: (byL ++ 32 :: (wrE r.key ++ [59, 10])))
/-- What Print returns, of a valid policy. -/
def printM (rs : List Rl) : List UInt8 := rs.flatMap ruleB
def ruleT (r : Rl) : List Tk := tk0 1 whenL 0 :: (tkE r.cond ++ tk0 1 byL 0 :: (tkE r.key ++ [tk0 3 semL 0]))

/-! ### valid rules -/
theorem typ1_nz {l : List Bd} {k o : Int} {n : ByteArray} {ts : List Int} {f : Nat} (h : typ1 l k o n ts = .er f) : f ≠ 0 := by
  unfold typ1 at h
  repeat' split at h
  all_goals first | (injection h with h; omega) | (cases h)
theorem typL_nz {l : List Bd} {zs : List Ex} (h : ∀ a ∈ zs, ∀ f, typE l a = .er f → f ≠ 0) : ∀ (acc : List Int) (f : Nat), typL l (.ok acc) zs = .er f → f ≠ 0 := by
  induction zs with
  | nil => intro acc f h; simp [typL] at h
  | cons a zs ih =>
    intro acc f hf
    simp only [typL] at hf
    cases e : typE l a with
    | er g =>
      rw [e] at hf
      simp only [AnsL.push] at hf
      rw [typL_er] at hf
      injection hf with hf
      subst hf
      exact h a (by simp) g e
    | ok n =>
      rw [e] at hf
      exact ih (fun b hb => h b (by simp [hb])) _ f hf
theorem typE_nz (l : List Bd) : ∀ (e : Ex) (f : Nat), typE l e = .er f → f ≠ 0 := by
  intro e
  induction e using Ex.ind with
  | h k o n v zs ih =>
    intro f hf
    rw [typE_mk] at hf
    cases hL : typL l (.ok []) zs with
    | er g => rw [hL] at hf; injection hf with hf; subst hf; exact typL_nz ih _ _ hL
    | ok ts => rw [hL] at hf; exact typ1_nz hf
theorem typL_all {l : List Bd} : ∀ (as : List Ex) (acc ts : List Int), typL l (.ok acc) as = .ok ts → ∀ a ∈ as, ∃ t, typE l a = .ok t
  | [], _, _, _, a, ha => by cases ha
  | b :: as, acc, ts, h, a, ha => by
    simp only [typL] at h
    cases e : typE l b with
    | er f => rw [e] at h; simp only [AnsL.push] at h; rw [typL_er] at h; cases h
    | ok n =>
      rw [e] at h
      rcases List.mem_cons.1 ha with rfl | ha
      · exact ⟨n, e⟩
      · exact typL_all as _ _ h a ha
theorem mem_preL_iff {l : List Ex} {x : Ex} (h : x ∈ preL l) : ∃ a ∈ l, x ∈ pre a := by
  induction l with
  | nil => cases h
  | cons b l ih =>
    simp only [preL, List.mem_append] at h
    rcases h with h | h
    · exact ⟨b, by simp, h⟩
    · obtain ⟨a, ha, hx⟩ := ih h; exact ⟨a, by simp [ha], hx⟩
theorem typE_names (l : List Bd) : ∀ (e : Ex) (t : Int), typE l e = .ok t → ∀ x ∈ pre e, x.kind = 2 → ∃ b, findB l x.name = some b := by
  intro e
  induction e using Ex.ind with
  | h k o n v as ih =>
    intro t ht x hx hk
    rw [typE_mk] at ht
    cases hL : typL l (.ok []) as with
    | er f => rw [hL] at ht; cases ht
    | ok ts =>
      rw [hL] at ht
      simp only [pre, List.mem_cons] at hx
      rcases hx with rfl | hx
      · simp only [Ex.kind] at hk
        subst hk
        replace ht : typ1 l 2 o n ts = .ok t := ht
        unfold typ1 at ht
        rw [if_neg (by decide), if_pos rfl] at ht
        simp only [Ex.name]
        cases hf : findB l n with
        | none => rw [hf] at ht; cases ht
        | some b => exact ⟨b, rfl⟩
      · obtain ⟨a, ha, hxa⟩ := mem_preL_iff hx
        obtain ⟨t', ht'⟩ := typL_all as _ _ hL a ha
        exact ih a ha t' ht' x hxa hk
theorem kd_kw : (kdB.all fun b => !kwB b.name) = true := by decide +kernel
theorem find_kw {n : ByteArray} {b : Bd} (h : findB kdB n = some b) : kwB n = false := by
  unfold findB at h
  have h1 := List.mem_of_find?_eq_some h
  have h2 := List.find?_some h
  have h3 := List.all_eq_true.1 kd_kw b h1
  simp only [MapKept.bytes_beq] at h2
  rw [h2] at h3
  simpa using h3
theorem tyE_good {e : Ex} {t : Int} (h : tyE e t = 0) : chkE e = 0 ∧ Good e ∧ NK e := by
  unfold tyE typeE at h
  by_cases hc : chkE e = 0
  · rw [if_pos hc] at h
    refine ⟨hc, (good_of e hc).1, fun x hx hk => ?_⟩
    cases ht : typE kdB e with
    | er f => rw [ht] at h; exact absurd h (typE_nz _ _ _ ht)
    | ok n =>
      obtain ⟨b, hb⟩ := typE_names kdB e n ht x hx hk
      exact find_kw hb
  · rw [if_neg hc] at h; exact absurd h hc
theorem chkR_rule : ∀ {rs : List Rl}, chkR rs = 0 → ∀ r ∈ rs, tyE r.cond 2 = 0 ∧ tyE r.key 1 = 0
  | [], _, r, hr => by cases hr
  | a :: rs, h, r, hr => by
    unfold chkR at h
    split at h
    · next h1 =>
      split at h
      · next h2 =>
        rcases List.mem_cons.1 hr with rfl | hr
        · exact ⟨h1, h2⟩
        · exact chkR_rule h r hr
      · next h2 => exact absurd h h2
    · next h1 => exact absurd h h1
theorem chkP_rule {rs : List Rl} (h : chkP rs = 0) : rs.length ≤ 16 ∧ ∀ r ∈ rs, tyE r.cond 2 = 0 ∧ tyE r.key 1 = 0 := by
  unfold chkP at h
  split at h
  · cases h
  · exact ⟨by omega, chkR_rule h⟩

/-! ### the tokens of what was printed -/
theorem nm_when : nmB ⟨whenL.toArray⟩ = true := by decide
theorem nm_by : nmB ⟨byL.toArray⟩ = true := by decide
theorem skip_nl (l : List UInt8) : skipL (10 :: l) = skipL l := by
  unfold skipL
  conv => lhs; rw [skipN]
  rw [if_pos (by decide)]
  rfl
theorem tok_word {w : List UInt8} (h : nmB ⟨w.toArray⟩ = true) {r : List UInt8} (hr : Safe r) : tok1 (w ++ r) = .ok 1 w.length 0 := by
  have := tok_name h hr
  simpa using this
theorem lex_rule (r : Rl) (hc : Good r.cond) (hk : Good r.key) (q : List UInt8) (ts : List Tk) (h : LexR (skipL q) ts) : LexR (skipL (ruleB r ++ q)) (ruleT r ++ ts) := by
  have h5 : LexR (semL ++ 10 :: q) (tk0 3 semL 0 :: ts) := lex_tok (l := semL) (by decide) (tok_one (.inr (.inr (.inr rfl))) _) (by rw [skip_nl]; exact h)
  have h4 := lex_wr r.key hk (semL ++ 10 :: q) _ (safe_cons (.inr (.inr rfl))) (by
    show LexR (skipL (59 :: 10 :: q)) _
    rw [skip_other _ _ (by decide)]; exact h5)
  have h3 : LexR (byL ++ 32 :: (wrE r.key ++ (semL ++ 10 :: q))) (tk0 1 byL 0 :: (tkE r.key ++ tk0 3 semL 0 :: ts)) := lex_tok (l := byL) (by decide) (tok_word nm_by (safe_cons (.inl rfl))) (by rw [skip_blank _ _ (.inl rfl), skip_head (wr_head r.key hk).app]; exact h4)
  have h2 := lex_wr r.cond hc (32 :: (byL ++ 32 :: (wrE r.key ++ (semL ++ 10 :: q)))) _ (safe_cons (.inl rfl)) (by
    rw [skip_blank _ _ (.inl rfl)]
    show LexR (skipL (98 :: 121 :: _)) _
    rw [skip_other _ _ (by decide)]; exact h3)
  have h1 : LexR (whenL ++ 32 :: (wrE r.cond ++ (32 :: (byL ++ 32 :: (wrE r.key ++ (semL ++ 10 :: q)))))) (tk0 1 whenL 0 :: (tkE r.cond ++ tk0 1 byL 0 :: (tkE r.key ++ tk0 3 semL 0 :: ts))) :=
    lex_tok (l := whenL) (by decide) (tok_word nm_when (safe_cons (.inl rfl))) (by rw [skip_blank _ _ (.inl rfl), skip_head (wr_head r.cond hc).app]; exact h2)
  have e1 : ruleB r ++ q = whenL ++ 32 :: (wrE r.cond ++ (32 :: (byL ++ 32 :: (wrE r.key ++ (semL ++ 10 :: q))))) := by simp [ruleB, semL]
  have e2 : ruleT r ++ ts = tk0 1 whenL 0 :: (tkE r.cond ++ tk0 1 byL 0 :: (tkE r.key ++ tk0 3 semL 0 :: ts)) := by simp [ruleT]
  rw [e1, e2]
  show LexR (skipL (119 :: _)) _
  rw [skip_other _ _ (by decide)]
  exact h1
theorem lex_rules : ∀ rs : List Rl, (∀ r ∈ rs, Good r.cond ∧ Good r.key) → LexR (skipL (printM rs)) (rs.flatMap ruleT)
  | [], _ => LexR.nil
  | r :: rs, h => by
    have h1 := h r (by simp)
    have := lex_rule r h1.1 h1.2 (printM rs) _ (lex_rules rs fun x hx => h x (by simp [hx]))
    simpa [printM] using this
theorem toks_print {rs : List Rl} (h : ∀ r ∈ rs, Good r.cond ∧ Good r.key) (hl : (printM rs).length ≤ 4000) : ∃ ts, toksE ⟨(printM rs).toArray⟩ = .ok ts ∧ ts.map strip = rs.flatMap ruleT ++ [⟨0, ByteArray.empty, 0, 0⟩] := by
  have hs : (⟨(printM rs).toArray⟩ : ByteArray).size = (printM rs).length := by simp [ByteArray.size]
  have hd : (⟨(printM rs).toArray⟩ : ByteArray).data.toList = printM rs := by simp
  obtain ⟨us, h1, h2⟩ := lex_toks ⟨(printM rs).toArray⟩ (lex_rules rs h) ((printM rs).length + 1) (skipN false (printM rs)) [] (by rw [hd]; rfl) (by unfold skipL; rw [List.length_drop]; omega)
  refine ⟨us ++ [⟨0, ByteArray.empty, 0, (printM rs).length⟩], ?_, ?_⟩
  · unfold toksE
    rw [if_neg (by rw [hs]; omega), hs, hd, h1, hs]
    simp
  · rw [List.map_append, h2]; rfl

/-! ### and what they are parsed to -/
theorem need_at {ts : List Tk} {k : Nat} {t : Tk} {us : List Tk} (h : AtT ts k (t :: us)) : needP ts t.kind t.text.data.toList ⟨k, 0⟩ = ⟨k + 1, 0⟩ ∧ AtT ts (k + 1) us := by
  obtain ⟨t', h1, h2, h3⟩ := h.head
  refine ⟨?_, h3⟩
  unfold needP
  simp only [ne_eq, not_true_eq_false, if_false, h1]
  rw [if_pos ⟨by rw [← h2]; rfl, by rw [← h2]; rfl⟩]
theorem AtT.len {ts : List Tk} {k : Nat} {us : List Tk} (h : AtT ts k us) : us.length = ts.length - k := by
  unfold AtT at h
  rw [← h]; simp
theorem expr_at {ts : List Tk} {k : Nat} {e : Ex} {us : List Tk} (hc : chkE e = 0) (hG : Good e) (hK : NK e) (h : AtT ts k (tkE e ++ us)) (hn : nxt us = 0) (hu : us ≠ []) : exprP ts ⟨k, 0⟩ = (e, ⟨k + (tkE e).length, 0⟩) ∧ AtT ts (k + (tkE e).length) us := by
  have hr := read_tk hG hK (ts := ts.drop k) (us := us) h hn
  have hl := h.len
  have hup : 1 ≤ us.length := by
    cases us with
    | nil => exact absurd rfl hu
    | cons a b => simp
  rw [List.length_append] at hl
  refine ⟨?_, h.skip⟩
  unfold exprP exprR movP
  simp only [ne_eq, not_true_eq_false, if_false, hr, hc, if_true, true_or]
  rw [Nat.min_eq_left (by omega)]
theorem loop_at {ts : List Tk} : ∀ (rs : List Rl) (f k : Nat) (acc : List Rl), (∀ r ∈ rs, tyE r.cond 2 = 0 ∧ tyE r.key 1 = 0) → AtT ts k (rs.flatMap ruleT ++ [⟨0, ByteArray.empty, 0, 0⟩]) → rs.length < f → ∃ j, loopP ts f ⟨k, 0⟩ acc = (⟨j, 0⟩, acc ++ rs)
  | [], f, k, acc, _, h, hf => by
    obtain ⟨g, rfl⟩ : ∃ g, f = g + 1 := ⟨f - 1, by omega⟩
    obtain ⟨t, h1, h2, -⟩ := AtT.head (t := ⟨0, ByteArray.empty, 0, 0⟩) (us := []) h
    have hk0 : t.kind = 0 := (congrArg Tk.kind h2 : (strip t).kind = 0)
    have hk : kindAt ts k = 0 := by unfold kindAt; rw [h1]; exact hk0
    refine ⟨k, ?_⟩
    unfold loopP
    rw [if_neg (by rw [hk]; simp)]
    simp
  | r :: rs, f, k, acc, hv, h, hf => by
    obtain ⟨g, rfl⟩ : ∃ g, f = g + 1 := ⟨f - 1, by omega⟩
    obtain ⟨v1, v2⟩ := hv r (by simp)
    obtain ⟨c1, c2, c3⟩ := tyE_good v1
    obtain ⟨d1, d2, d3⟩ := tyE_good v2
    have h0 : AtT ts k (tk0 1 whenL 0 :: (tkE r.cond ++ tk0 1 byL 0 :: (tkE r.key ++ tk0 3 semL 0 :: (rs.flatMap ruleT ++ [⟨0, ByteArray.empty, 0, 0⟩])))) := by simpa [ruleT] using h
    obtain ⟨e1, h1⟩ := need_at h0
    obtain ⟨e2, h2⟩ := expr_at c1 c2 c3 h1 rfl (by simp)
    obtain ⟨e3, h3⟩ := need_at h2
    obtain ⟨e4, h4⟩ := expr_at d1 d2 d3 h3 (by simp [nxt, tk0, semL, opS]) (by simp)
    obtain ⟨e5, h5⟩ := need_at h4
    have hk : kindAt ts k = 1 := by
      obtain ⟨t, t1, t2, -⟩ := h0.head
      have hk0 : t.kind = 1 := (congrArg Tk.kind t2 : (strip t).kind = 1)
      unfold kindAt; rw [t1]; exact hk0
    have q1 : r1P ts ⟨k, 0⟩ = ⟨k + 1, 0⟩ := e1
    have q2 : r2P ts ⟨k, 0⟩ = (r.cond, ⟨k + 1 + (tkE r.cond).length, 0⟩) := by unfold r2P; rw [q1]; exact e2
    have q3 : r3P ts ⟨k, 0⟩ = ⟨k + 1 + (tkE r.cond).length + 1, 0⟩ := by unfold r3P; rw [q2]; exact e3
    have q4 : r4P ts ⟨k, 0⟩ = (r.key, ⟨k + 1 + (tkE r.cond).length + 1 + (tkE r.key).length, 0⟩) := by unfold r4P; rw [q3]; exact e4
    have q5 : r5P ts ⟨k, 0⟩ = ⟨k + 1 + (tkE r.cond).length + 1 + (tkE r.key).length + 1, 0⟩ := by unfold r5P; rw [q4]; exact e5
    obtain ⟨j, hj⟩ := loop_at rs g _ (acc ++ [⟨r.cond, r.key⟩]) (fun x hx => hv x (by simp [hx])) h5 (by simp at hf; omega)
    refine ⟨j, ?_⟩
    unfold loopP
    rw [if_pos ⟨rfl, by rw [hk]; decide⟩, q5, q2, q4]
    simp only
    rw [hj]
    simp
theorem rule_len (rs : List Rl) : rs.length ≤ (rs.flatMap ruleT).length := by
  induction rs with
  | nil => simp
  | cons r rs ih => simp [ruleT] at ih ⊢; omega
/-- PARSING WHAT WAS PRINTED YIELDS IT. -/
theorem parse_print {rs : List Rl} (h : chkP rs = 0) (hl : (printM rs).length ≤ 4000) : parseM ⟨(printM rs).toArray⟩ = .ok rs := by
  obtain ⟨-, hv⟩ := chkP_rule h
  obtain ⟨ts, h1, h2⟩ := toks_print (rs := rs) (fun r hr => ⟨(tyE_good (hv r hr).1).2.1, (tyE_good (hv r hr).2).2.1⟩) hl
  have hlen := congrArg List.length h2
  have hrl := rule_len rs
  simp only [List.length_map, List.length_append, List.length_cons, List.length_nil] at hlen
  obtain ⟨j, hj⟩ := loop_at rs (ts.length + 1) 0 [] hv (by unfold AtT; simpa using h2) (by omega)
  unfold parseM
  rw [h1]
  simp only
  rw [hj]
  unfold endP
  simp [h]
/-- What was parsed is valid. -/
theorem parse_valid {s : ByteArray} {rs : List Rl} (h : parseM s = .ok rs) : chkP rs = 0 := by
  unfold parseM at h
  split at h
  · cases h
  · unfold endP at h
    split at h
    · cases h
    · split at h
      · cases h
      · split at h
        · cases h
        · next hc => injection h with h; rw [← h]; exact Decidable.byContradiction hc
theorem toksF_pos (s : ByteArray) : ∀ (f i : Nat) (acc : List Tk), (∀ t ∈ acc, t.pos ≤ s.size) → (∀ ts, toksF s f i acc = .ok ts → ∀ t ∈ ts, t.pos ≤ s.size) ∧ ∀ a e, toksF s f i acc = .er a e → a ≤ s.size
  | 0, i, acc, h => by
    unfold toksF
    refine ⟨fun ts e => ?_, fun a e h => ?_⟩
    · injection e with e; rw [← e]; exact h
    · cases h
  | f + 1, i, acc, h => by
    unfold toksF
    split
    · next hi =>
      split
      · refine ⟨fun ts e => ?_, fun a e h => ?_⟩
        · cases e
        · injection h with h _; omega
      · exact toksF_pos s f _ _ (fun t ht => by
          rcases List.mem_append.1 ht with ht | ht
          · exact h t ht
          · rw [List.mem_singleton.1 ht]; exact Nat.le_of_lt hi)
    · refine ⟨fun ts e => ?_, fun a e h => ?_⟩
      rotate_left
      · cases h
      injection e with e
      rw [← e]
      intro t ht
      rcases List.mem_append.1 ht with ht | ht
      · exact h t ht
      · rw [List.mem_singleton.1 ht]; exact Nat.le_refl _
/-- An error's place lies within the text. -/
theorem parse_place {s : ByteArray} {a f : Nat} (h : parseM s = .er a f) : a ≤ s.size := by
  unfold parseM at h
  split at h
  · next x f' ht =>
    injection h with h _
    subst h
    unfold toksE at ht
    split at ht
    · injection ht with ht _; omega
    · exact (toksF_pos s _ _ [] (fun t ht => by cases ht)).2 _ _ ht
  · next ts ht =>
    have hpos : ∀ t ∈ ts, t.pos ≤ s.size := by
      unfold toksE at ht
      split at ht
      · cases ht
      · exact (toksF_pos s _ _ [] (fun t ht => by cases ht)).1 _ ht
    unfold endP at h
    split at h
    · injection h with h _
      rw [← h]
      unfold posAt
      split
      · omega
      · next t htk => exact hpos t (List.mem_of_getElem? htk)
    · split at h
      · injection h with h _; omega
      · split at h
        · injection h with h _; omega
        · cases h
end Go.Proofs.YtkiilaajomjinaaGreatDoor
