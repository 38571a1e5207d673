/- The parser reads the tokens of an expression as that expression. Plain Lean; no program in sight. -/
import Derived.Test.YtkiilaajomjinaaGreatDoorPrRtM
namespace Go.Proofs.YtkiilaajomjinaaGreatDoor

/-- In the end, with steps enough. -/
def Ev (ts : List Tk) (m : Md) (k : Nat) (r : PR) : Prop := ∃ f0, ∀ f, f0 ≤ f → pP ts f m k = r
/-- The tokens from an index on, apart from their places. -/
def AtT (ts : List Tk) (k : Nat) (us : List Tk) : Prop := (ts.drop k).map strip = us
/-- The precedence of the operator that comes next; 0 if none does. -/
def nxt (us : List Tk) : Nat := match us with | [] => 0 | t :: _ => if t.kind = 3 then (opS t.text.data.toList).2 else 0
theorem AtT.head {ts : List Tk} {k : Nat} {t : Tk} {us : List Tk} (h : AtT ts k (t :: us)) : ∃ t', ts[k]? = some t' ∧ strip t' = t ∧ AtT ts (k + 1) us := by
  unfold AtT at h
  cases hd : ts.drop k with
  | nil => rw [hd] at h; cases h
  | cons t' r =>
    rw [hd, List.map_cons] at h
    injection h with h1 h2
    refine ⟨t', ?_, h1, ?_⟩
    · have := congrArg (fun l => l[0]?) hd
      simpa using this
    · unfold AtT
      rw [show ts.drop (k + 1) = (ts.drop k).drop 1 from by rw [List.drop_drop], hd]
      exact h2
theorem AtT.skip {ts : List Tk} {k : Nat} {us vs : List Tk} (h : AtT ts k (us ++ vs)) : AtT ts (k + us.length) vs := by
  unfold AtT at h ⊢
  rw [← List.drop_drop, List.map_drop, h]
  exact List.drop_left
theorem nxt_none {ts : List Tk} {k : Nat} {us : List Tk} (h : AtT ts k us) (p : Nat) (hp : nxt us ≠ p) : ts[k]? = none ∨ ∃ t, ts[k]? = some t ∧ opK t p = false := by
  cases us with
  | nil =>
    left
    unfold AtT at h
    have := congrArg List.length h
    simp at this
    exact List.getElem?_eq_none (by omega)
  | cons t us =>
    right
    obtain ⟨t', h2, h3, -⟩ := h.head
    refine ⟨t', h2, ?_⟩
    have hp' : (if t'.kind = 3 then (opS t'.text.data.toList).2 else 0) ≠ p := by
      rw [← h3] at hp
      exact hp
    unfold opK
    by_cases hk : t'.kind = 3
    · rw [if_pos hk] at hp'
      simp [hk, hp']
    · simp [hk]
theorem ev_stop {ts : List Tk} {k p : Nat} {us : List Tk} (e : Ex) (h : AtT ts k us) (hp : nxt us ≠ p) : Ev ts (.loop p e) k (.ok e k) := by
  refine ⟨1, fun f hf => ?_⟩
  obtain ⟨g, rfl⟩ : ∃ g, f = g + 1 := ⟨f - 1, by omega⟩
  rw [pP_l]
  rcases nxt_none h p hp with h2 | ⟨t, h2, h3⟩
  · rw [h2]
  · rw [h2]
    simp only [h3, Bool.false_eq_true, if_false]
theorem ev_bin {ts : List Tk} {k i p : Nat} {e : Ex} {r : PR} (hp : p ≤ 5) (h1 : Ev ts (.bin (p + 1)) k (.ok e i)) (h2 : Ev ts (.loop p e) i r) : Ev ts (.bin p) k r := by
  obtain ⟨f1, h1⟩ := h1
  obtain ⟨f2, h2⟩ := h2
  refine ⟨max f1 f2 + 1, fun f hf => ?_⟩
  obtain ⟨g, rfl⟩ : ∃ g, f = g + 1 := ⟨f - 1, by omega⟩
  rw [pP_b, if_neg (by omega), h1 g (by omega)]
  exact h2 g (by omega)
theorem ev_bin6 {ts : List Tk} {k p : Nat} {r : PR} (hp : 5 < p) (h1 : Ev ts .opd k r) : Ev ts (.bin p) k r := by
  obtain ⟨f1, h1⟩ := h1
  refine ⟨f1 + 1, fun f hf => ?_⟩
  obtain ⟨g, rfl⟩ : ∃ g, f = g + 1 := ⟨f - 1, by omega⟩
  rw [pP_b, if_pos hp]
  exact h1 g (by omega)
/-- An operand stands for an expression of each precedence. -/
theorem ev_lift {ts : List Tk} {k i : Nat} {e : Ex} {us : List Tk} (h : Ev ts .opd k (.ok e i)) (ha : AtT ts i us) : ∀ (q p : Nat), 6 - p ≤ q → 1 ≤ p → nxt us < p → Ev ts (.bin p) k (.ok e i)
  | 0, p, hq, h1, hn => ev_bin6 (by omega) h
  | q + 1, p, hq, h1, hn => by
    by_cases h6 : 5 < p
    · exact ev_bin6 h6 h
    · exact ev_bin (by omega) (ev_lift h ha q (p + 1) (by omega) (by omega) (by omega)) (ev_stop e ha (by omega))
theorem ev_loop {ts : List Tk} {k i p : Nat} {e e2 : Ex} {t : Tk} {r : PR} (ht : ts[k]? = some t) (ho : opK t p = true) (h1 : Ev ts (.bin (p + 1)) (k + 1) (.ok e2 i)) (hp : p ≠ 3) (h2 : Ev ts (.loop p (exBin (opS t.text.data.toList).1 e e2)) i r) : Ev ts (.loop p e) k r := by
  obtain ⟨f1, h1⟩ := h1
  obtain ⟨f2, h2⟩ := h2
  refine ⟨max f1 f2 + 1, fun f hf => ?_⟩
  obtain ⟨g, rfl⟩ : ∃ g, f = g + 1 := ⟨f - 1, by omega⟩
  rw [pP_l, ht]
  simp only [ho, if_true]
  rw [h1 g (by omega)]
  simp only [PR.bind]
  rw [if_neg hp]
  exact h2 g (by omega)
theorem ev_loop3 {ts : List Tk} {k i : Nat} {e e2 : Ex} {t : Tk} (ht : ts[k]? = some t) (ho : opK t 3 = true) (h1 : Ev ts (.bin 4) (k + 1) (.ok e2 i)) : Ev ts (.loop 3 e) k (.ok (exBin (opS t.text.data.toList).1 e e2) i) := by
  obtain ⟨f1, h1⟩ := h1
  refine ⟨f1 + 1, fun f hf => ?_⟩
  obtain ⟨g, rfl⟩ : ∃ g, f = g + 1 := ⟨f - 1, by omega⟩
  rw [pP_l, ht]
  simp only [ho, if_true]
  rw [h1 g (by omega)]
  rfl
/-- Names that are no keywords. -/
def NK (e : Ex) : Prop := ∀ x ∈ pre e, x.kind = 2 → kwB x.name = false
theorem NK.un {o : Int} {a : Ex} (h : NK (exUn o a)) : NK a := fun x hx => h x (mem_pre_arg (by simp) hx)
theorem NK.binl {o : Int} {a b : Ex} (h : NK (exBin o a b)) : NK a := fun x hx => h x (mem_pre_arg (by simp) hx)
theorem NK.binr {o : Int} {a b : Ex} (h : NK (exBin o a b)) : NK b := fun x hx => h x (mem_pre_arg (by simp) hx)
theorem precO_bd (o : Int) : 1 ≤ precO o ∧ precO o ≤ 5 := by
  unfold precO
  repeat' split
  all_goals omega
theorem prec_num (v : Int) : precE (exNum v) = 7 := by simp [precE, precK, exNum, Ex.kind]
theorem prec_name (n : ByteArray) : precE (exName n) = 7 := by simp [precE, precK, exName, Ex.kind]
theorem prec_un (o : Int) (a : Ex) : precE (exUn o a) = 6 := by simp [precE, precK, exUn, Ex.kind]
theorem prec_bin (o : Int) (a b : Ex) : precE (exBin o a b) = precO o := by simp [precE, precK, exBin, Ex.kind, Ex.op]
theorem prec_pos (e : Ex) : 1 ≤ precE e := by
  unfold precE precK
  have := precO_bd e.op
  split
  · omega
  · split <;> omega
theorem op_sign {o : Int} (h : 3 ≤ o ∧ o ≤ 15) : opS (signO o) = (o, precO o) := by
  rcases ops13 h with rfl | rfl | rfl | rfl | rfl | rfl | rfl | rfl | rfl | rfl | rfl | rfl | rfl <;> decide
structure RtE (e : Ex) : Prop where
  opd : 6 ≤ precE e → ∀ ts k us, AtT ts k (tkE e ++ us) → Ev ts .opd k (.ok e (k + (tkE e).length))
  bin : ∀ p, 1 ≤ p → p ≤ 6 → p ≤ precE e → ∀ ts k us, AtT ts k (tkE e ++ us) → nxt us < p → Ev ts (.bin p) k (.ok e (k + (tkE e).length))
  chain : ∀ q, 1 ≤ q → q ≤ 5 → q ≠ 3 → q ≤ precE e → ∀ ts k us r, AtT ts k (tkE e ++ us) → nxt us ≤ q → Ev ts (.loop q e) (k + (tkE e).length) r → Ev ts (.bin q) k r
theorem RtE.of_opd {e : Ex} (h : ∀ ts k us, AtT ts k (tkE e ++ us) → Ev ts .opd k (.ok e (k + (tkE e).length))) : RtE e := by
  have hb : ∀ p, 1 ≤ p → ∀ ts k us, AtT ts k (tkE e ++ us) → nxt us < p → Ev ts (.bin p) k (.ok e (k + (tkE e).length)) :=
    fun p h1 ts k us ha hn => ev_lift (h ts k us ha) ha.skip 6 p (by omega) h1 hn
  exact ⟨fun _ => h, fun p h1 _ _ => hb p h1, fun q h1 h5 h3 _ ts k us r ha hn hr => ev_bin h5 (hb (q + 1) (by omega) ts k us ha (by omega)) hr⟩
/-- Within parentheses. -/
theorem ev_paren {e : Ex} (h : RtE e) {ts : List Tk} {k : Nat} {us : List Tk} (ha : AtT ts k (tk0 3 [40] 0 :: (tkE e ++ (tk0 3 [41] 0 :: us)))) : Ev ts .opd k (.ok e (k + (tkE e).length + 2)) := by
  obtain ⟨t, h1, h2, h3⟩ := ha.head
  have hb := h.bin 1 (by omega) (by omega) (prec_pos e) ts (k + 1) _ h3 (by simp [nxt, tk0, opS])
  obtain ⟨u, h4, h5, -⟩ := h3.skip.head
  obtain ⟨f0, hb⟩ := hb
  refine ⟨f0 + 1, fun f hf => ?_⟩
  obtain ⟨g, rfl⟩ : ∃ g, f = g + 1 := ⟨f - 1, by omega⟩
  have e1 : numK t = false := by rw [show numK t = numK (strip t) from rfl, h2]; simp [numK, tk0]
  have e2 : nameK t = false := by rw [show nameK t = nameK (strip t) from rfl, h2]; simp [nameK, tk0]
  have e3 (c : List UInt8) : isS t c = ([40] == c) := by rw [show isS t c = isS (strip t) c from rfl, h2]; simp [isS, tk0]
  have e4 : isS u [41] = true := by rw [show isS u [41] = isS (strip u) [41] from rfl, h5]; simp [isS, tk0]
  rw [pP_o, h1]
  simp only [e1, e2, e3, Bool.false_eq_true, if_false]
  rw [if_neg (by decide), if_neg (by decide), if_pos (by decide), hb g (by omega)]
  simp only [PR.bind, closeP]
  rw [h4]
  simp only [e4, if_true]
  congr 1
  omega
theorem parT_len (lim p : Nat) (t : List Tk) : (parT lim (p, t)).length = if p < lim then t.length + 2 else t.length := by
  unfold parT; dsimp only; split <;> simp
/-- An argument as an operand. -/
theorem arg_opd {e : Ex} (h : RtE e) {ts : List Tk} {k : Nat} {us : List Tk} (ha : AtT ts k (parT 6 (precE e, tkE e) ++ us)) : Ev ts .opd k (.ok e (k + (parT 6 (precE e, tkE e)).length)) := by
  rw [parT_len]
  unfold parT at ha
  dsimp only at ha
  split
  · next hl =>
    rw [if_pos hl] at ha
    have := ev_paren h (ts := ts) (k := k) (us := us) (by simpa using ha)
    rwa [show k + ((tkE e).length + 2) = k + (tkE e).length + 2 from by omega]
  · next hl =>
    rw [if_neg hl] at ha
    exact h.opd (by omega) ts k us ha
/-- An argument as an expression of a precedence. -/
theorem arg_bin {e : Ex} (h : RtE e) {ts : List Tk} {k : Nat} {us : List Tk} {lim p : Nat} (h1 : 1 ≤ p) (h6 : p ≤ 6) (hl : p ≤ lim) (ha : AtT ts k (parT lim (precE e, tkE e) ++ us)) (hn : nxt us < p) : Ev ts (.bin p) k (.ok e (k + (parT lim (precE e, tkE e)).length)) := by
  have hs := ha.skip
  rw [parT_len] at hs ⊢
  unfold parT at ha
  dsimp only at ha
  split
  · next hlt =>
    rw [if_pos hlt] at ha hs
    have h2 := ev_paren h (ts := ts) (k := k) (us := us) (by simpa using ha)
    rw [show k + (tkE e).length + 2 = k + ((tkE e).length + 2) from by omega] at h2
    exact ev_lift h2 hs 6 p (by omega) h1 hn
  · next hlt =>
    rw [if_neg hlt] at ha
    exact h.bin p h1 h6 (by omega) ts k us ha hn
/-- An argument as the beginning of a chain. -/
theorem arg_chain {e : Ex} (h : RtE e) {ts : List Tk} {k : Nat} {us : List Tk} {q : Nat} (h1 : 1 ≤ q) (h5 : q ≤ 5) (h3 : q ≠ 3) {r : PR} (ha : AtT ts k (parT q (precE e, tkE e) ++ us)) (hn : nxt us ≤ q) (hr : Ev ts (.loop q e) (k + (parT q (precE e, tkE e)).length) r) : Ev ts (.bin q) k r := by
  have hs := ha.skip
  rw [parT_len] at hs hr
  unfold parT at ha
  dsimp only at ha
  by_cases hlt : precE e < q
  · rw [if_pos hlt] at ha hs hr
    have h2 := ev_paren h (ts := ts) (k := k) (us := us) (by simpa using ha)
    rw [show k + (tkE e).length + 2 = k + ((tkE e).length + 2) from by omega] at h2
    exact ev_bin h5 (ev_lift h2 hs 6 (q + 1) (by omega) (by omega) (by omega)) hr
  · rw [if_neg hlt] at ha hr
    exact h.chain q h1 h5 h3 (by omega) ts k us r ha hn hr
theorem rt_num (v : Int) (h : 0 ≤ v ∧ v ≤ 1099511627776) : RtE (exNum v) := by
  refine RtE.of_opd fun ts k us ha => ?_
  rw [tk_num] at ha ⊢
  obtain ⟨t, h1, h2, h3⟩ := ha.head
  refine ⟨1, fun f hf => ?_⟩
  obtain ⟨g, rfl⟩ : ∃ g, f = g + 1 := ⟨f - 1, by omega⟩
  have e1 : numK t = true := by rw [show numK t = numK (strip t) from rfl, h2]; simp [numK, tk0, h.1, h.2]
  have e2 : t.val = v := by rw [show t.val = (strip t).val from rfl, h2]; rfl
  rw [pP_o, h1]
  simp only [e1, if_true, e2]
  rfl
theorem rt_name (n : ByteArray) (h : nmB n = true) (hk : kwB n = false) : RtE (exName n) := by
  refine RtE.of_opd fun ts k us ha => ?_
  rw [tk_name] at ha ⊢
  obtain ⟨t, h1, h2, h3⟩ := ha.head
  refine ⟨1, fun f hf => ?_⟩
  obtain ⟨g, rfl⟩ : ∃ g, f = g + 1 := ⟨f - 1, by omega⟩
  have e1 : numK t = false := by rw [show numK t = numK (strip t) from rfl, h2]; simp [numK]
  have e2 : nameK t = true := by rw [show nameK t = nameK (strip t) from rfl, h2]; simp [nameK, h, hk]
  have e3 : t.text = n := by rw [show t.text = (strip t).text from rfl, h2]
  rw [pP_o, h1]
  simp only [e1, e2, if_true, e3, Bool.false_eq_true, if_false]
  rfl
theorem rt_un (o : Int) (a : Ex) (h : o = 1 ∨ o = 2) (ih : RtE a) : RtE (exUn o a) := by
  refine RtE.of_opd fun ts k us ha => ?_
  rw [tk_un] at ha ⊢
  obtain ⟨t, h1, h2, h3⟩ := ha.head
  obtain ⟨f0, hb⟩ := arg_opd ih h3
  refine ⟨f0 + 1, fun f hf => ?_⟩
  obtain ⟨g, rfl⟩ : ∃ g, f = g + 1 := ⟨f - 1, by omega⟩
  have e1 : numK t = false := by rw [show numK t = numK (strip t) from rfl, h2]; simp [numK, tk0]
  have e2 : nameK t = false := by rw [show nameK t = nameK (strip t) from rfl, h2]; simp [nameK, tk0]
  have e3 (c : List UInt8) : isS t c = ([if o = 2 then 33 else 45] == c) := by rw [show isS t c = isS (strip t) c from rfl, h2]; simp [isS, tk0]
  have e4 : k + 1 + (parT 6 (precE a, tkE a)).length = k + (tk0 3 [if o = 2 then 33 else 45] 0 :: parT 6 (precE a, tkE a)).length := by simp; omega
  rw [pP_o, h1]
  simp only [e1, e2, e3, Bool.false_eq_true, if_false]
  rw [hb g (by omega), e4]
  rcases h with rfl | rfl
  · rw [if_pos (by decide)]; rfl
  · rw [if_neg (by decide), if_pos (by decide)]; rfl
theorem rt_bin (o : Int) (a b : Ex) (h : 3 ≤ o ∧ o ≤ 15) (ia : RtE a) (ib : RtE b) : RtE (exBin o a b) := by
  have hq := precO_bd o
  -- the operator's token
  have hop : ∀ {ts : List Tk} {k : Nat} {us : List Tk}, AtT ts k (tkE (exBin o a b) ++ us) → ∃ t, ts[k + (parT (leftP o) (precE a, tkE a)).length]? = some t ∧ opK t (precO o) = true ∧ (opS t.text.data.toList).1 = o ∧
      AtT ts k (parT (leftP o) (precE a, tkE a) ++ tk0 3 (signO o) 0 :: (parT (precO o + 1) (precE b, tkE b) ++ us)) ∧ AtT ts (k + (parT (leftP o) (precE a, tkE a)).length + 1) (parT (precO o + 1) (precE b, tkE b) ++ us) ∧
      k + (parT (leftP o) (precE a, tkE a)).length + 1 + (parT (precO o + 1) (precE b, tkE b)).length = k + (tkE (exBin o a b)).length ∧ nxt (tk0 3 (signO o) 0 :: (parT (precO o + 1) (precE b, tkE b) ++ us)) = precO o := by
    intro ts k us ha
    rw [tk_bin] at ha ⊢
    have ha' : AtT ts k (parT (leftP o) (precE a, tkE a) ++ tk0 3 (signO o) 0 :: (parT (precO o + 1) (precE b, tkE b) ++ us)) := by simpa using ha
    obtain ⟨t, h1, h2, h3⟩ := ha'.skip.head
    have hk : t.kind = 3 := by rw [show t.kind = (strip t).kind from rfl, h2]; rfl
    have ht : t.text.data.toList = signO o := by rw [show t.text = (strip t).text from rfl, h2]; simp [tk0]
    refine ⟨t, h1, ?_, ?_, ha', h3, ?_, ?_⟩
    · unfold opK; rw [hk, ht, op_sign h]; simp
    · rw [ht, op_sign h]
    · simp; omega
    · unfold nxt tk0
      simp [op_sign h]
  -- the whole, at its own precedence
  have hchain : precO o ≠ 3 → ∀ ts k us r, AtT ts k (tkE (exBin o a b) ++ us) → nxt us ≤ precO o → Ev ts (.loop (precO o) (exBin o a b)) (k + (tkE (exBin o a b)).length) r → Ev ts (.bin (precO o)) k r := by
    intro h3 ts k us r ha hn hr
    obtain ⟨t, t1, t2, t3, t4, t5, t6, t7⟩ := hop ha
    have hl : leftP o = precO o := by unfold leftP; rw [if_neg h3]
    rw [hl] at t1 t4 t5 t6
    have hb := arg_bin ib (p := precO o + 1) (by omega) (by omega) (Nat.le_refl _) t5 (by omega)
    refine arg_chain ia hq.1 hq.2 h3 t4 (by omega) (ev_loop t1 t2 hb h3 ?_)
    rw [t3, t6]
    exact hr
  have hbin : ∀ q p, precO o - p ≤ q → 1 ≤ p → p ≤ precO o → ∀ ts k us, AtT ts k (tkE (exBin o a b) ++ us) → nxt us < p → Ev ts (.bin p) k (.ok (exBin o a b) (k + (tkE (exBin o a b)).length)) := by
    intro q
    induction q with
    | zero =>
      intro p hpq h1 hp ts k us ha hn
      obtain rfl : p = precO o := by omega
      by_cases h3 : precO o = 3
      · obtain ⟨t, t1, t2, t3, t4, t5, t6, t7⟩ := hop ha
        have hl : leftP o = 4 := by unfold leftP; rw [if_pos h3]
        rw [hl] at t1 t4 t5 t6
        rw [h3] at t2 t4 t5 t6 t7 hn ⊢
        have h1 := arg_bin ia (p := 4) (by omega) (by omega) (Nat.le_refl _) t4 (by omega)
        have h2 := arg_bin ib (p := 4) (by omega) (by omega) (Nat.le_refl _) t5 (by omega)
        have h4 := ev_bin (p := 3) (by omega) h1 (ev_loop3 t1 t2 h2)
        rw [t3, t6] at h4
        exact h4
      · exact hchain h3 ts k us _ ha (by omega) (ev_stop _ ha.skip (by omega))
    | succ q ih =>
      intro p hpq h1 hp ts k us ha hn
      by_cases e : p = precO o
      · exact ih p (by omega) h1 hp ts k us ha hn
      · exact ev_bin (by omega) (ih (p + 1) (by omega) (by omega) (by omega) ts k us ha (by omega)) (ev_stop _ ha.skip (by omega))
  refine ⟨fun h6 => ?_, fun p h1 h6 hp => ?_, fun q h1 h5 h3 hp ts k us r ha hn hr => ?_⟩
  · rw [prec_bin] at h6; omega
  · rw [prec_bin] at hp; exact hbin (precO o) p (by omega) h1 hp
  · rw [prec_bin] at hp
    by_cases e : q = precO o
    · subst e; exact hchain h3 ts k us r ha hn hr
    · exact ev_bin h5 (hbin (precO o) (q + 1) (by omega) (by omega) (by omega) ts k us ha (by omega)) hr
theorem rt_all : ∀ e, Good e → NK e → RtE e := by
  intro e hG
  refine good_ind (P := fun e => NK e → RtE e) (fun v h _ => rt_num v h) (fun n h hk => rt_name n h (hk _ (mem_pre_self _) rfl)) (fun o a h _ ih hk => rt_un o a h (ih hk.un)) (fun o a b h _ _ ia ib hk => rt_bin o a b h (ia hk.binl) (ib hk.binr)) e hG
/-- What stands at the beginning of tokens is read. -/
theorem read_tk {e : Ex} (hG : Good e) (hK : NK e) {ts us : List Tk} (ha : ts.map strip = tkE e ++ us) (hn : nxt us = 0) : readP ts = .ok e (tkE e).length := by
  obtain ⟨f0, h⟩ := (rt_all e hG hK).bin 1 (by omega) (by omega) (prec_pos e) ts 0 us (by unfold AtT; simpa using ha) (by omega)
  have := readP_of (h f0 (Nat.le_refl _)) (by intro h; cases h)
  simpa using this
end Go.Proofs.YtkiilaajomjinaaGreatDoor
