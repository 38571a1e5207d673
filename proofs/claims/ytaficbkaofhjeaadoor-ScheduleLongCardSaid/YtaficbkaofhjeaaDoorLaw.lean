/- What every law's row asks, once a walk has shown that the law returns true and that nothing older than the call has changed. Conditions: every parameter's type is a readable one. -/
import Derived.Test.YtaficbkaofhjeaaDoorChs
import Derived.Carry
import Derived.OpenShut
import Derived.WalkKit
import Derived.Deep.DeepHandedRow
import Derived.ProofKit
import Derived.Deep.SlicePairs
import Derived.Lib.LaidTab
namespace Go.Proofs.YtaficbkaofhjeaaDoor
open Go.ChangeShapes Go.WideShapes Go.ChangeAt Go.RowKit Go.Deep

section
variable {H : Type} {enc : TypeId × Value → H} {P : Program}

theorem trodAll_stays (hl : laidOutB P = true) {W W' : World} {sp : Nat → Bool} (hb : Below W.heap.size W W') :
    ∀ {ts : List TypeId} {vs : List Value} {ds : List (DataW H)} {p : List MemPlace}, (∀ t ∈ ts, P.readableRec t = true ∧ t < P.types.size) →
      DataW.TrodAll enc P W 0 (fun _ => true) true ts vs ds p → (∀ x ∈ p, x.block < W.heap.size) → (∀ x ∈ p, sp x.block = true) → DataW.TrodAll enc P W' 0 sp true ts vs ds p
  | [], _, _, _, _, h, _, _ => by
    obtain ⟨rfl, rfl, rfl⟩ := trodAll_nil h
    exact trodAll_mk0
  | t :: ts, _, _, _, hr, h, hlt, hs => by
    obtain ⟨v, vs1, d, ds1, a, b, rfl, rfl, rfl, h1, h2⟩ := trodAll_cons h
    have ht := hr t (by simp)
    refine ⟨a, b, Go.WideElems.Trod_stays hl ht.1 ht.2 h1 (fun x hx => hb.same (hlt x (by simp [hx]))) (fun x hx => hs x (by simp [hx])), trodAll_stays hl hb (fun t h => hr t (by simp [h])) h2 (fun x hx => hlt x (by simp [hx])) (fun x hx => hs x (by simp [hx])), rfl⟩

/-- THE POST OF A LAW, from 'it returned true' and 'what lay below the heap's end is as it was'. -/
theorem post_law {f : Func} {s : ChangeSpec} {apart fresh handsOn again : Bool} {W W' : World} {args : Array Value} {ds gs : List (DataW H)} {before : List MemPlace} {tb : TypeId}
    (hl : laidOutB P = true) (hr : ∀ t ∈ f.params.toList, P.readableRec t = true ∧ t < P.types.size) (hv : s.vars = [])
    (hrt : f.resultTypes = #[tb]) (htb : P.underlying tb = some .bool)
    (hW : DataW.Whole enc P f.params.toList s.vars apart W args.toList ds gs before)
    (hres : (s.fn H (ds ++ gs)).results = [.lit (.bool true)]) (hargs : (s.fn H (ds ++ gs)).args = ds) (hvars : (s.fn H (ds ++ gs)).vars = [])
    (hb : Below W.heap.size W W') : s.post enc P f apart fresh handsOn again W args (.bool true) W' := by
  have hlt := hW.lt
  have hW0 := hW
  obtain ⟨p, q, hA, hV, rfl, hz, hn⟩ := hW
  rw [hv] at hV
  obtain ⟨rfl, rfl⟩ := trodVars_none hV
  rw [List.append_nil] at hlt hz hn
  have hR : ∀ (b : Nat) (sp : Nat → Bool) (hd : Bool), DataW.TrodAll enc P W' b sp hd f.resultTypes.toList ((Value.bool true).resultList f.resultTypes.size) (s.fn H (ds ++ [])).results [] := by
    intro b sp hd
    rw [hres, hrt]
    exact trodAll_cons_mk (shut_bool htb _) trodAll_mk0
  have hA' : ∀ sp : Nat → Bool, (∀ x ∈ p, sp x.block = true) → DataW.TrodAll enc P W' 0 sp true f.params.toList args.toList (s.fn H (ds ++ [])).args p := by
    intro sp hs
    rw [hargs]
    exact trodAll_stays hl hb hr hA hlt hs
  have hV' : ∀ sp, DataW.TrodVars enc P W' sp s.vars (s.fn H (ds ++ [])).vars [] := by
    intro sp
    rw [hvars, hv]
    rfl
  refine ⟨ds, [], p ++ [], [], p, [], hW0, hR _ _ _, hA' _ (fun x hx => by simpa using hlt x hx), hV' _, hb.frame _, fun _ => ⟨?_, _, _, [] ++ p, ⟨[] ++ p, [], trodAll_append (hA' _ (fun _ _ => rfl)) (hR _ _ _), hV' _, by simp, ?_, ?_⟩, ?_⟩⟩
  · exact ok_one hrt rfl (okWide_bool_mk htb _)
  · intro b off hp
    have hp' : MemPlace.cell b off ∈ p := by simpa using hp
    rw [hb.frozen (hlt _ hp')]
    exact hz b off hp'
  · intro ha
    simpa using hn ha
  · intro x hx _
    simpa using hx

/-- A TABLE LATER ON THE LIST. -/
theorem laidVars_tail {w : World} {x : String × DataW Unit} {r : List (String × DataW Unit)} {ps : List MemPlace} (h : DataW.LaidVars P w (x :: r) ps) : ∃ q, DataW.LaidVars P w r q := by
  obtain ⟨_, _, _, _, _, q, _, _, _, _, h2, _⟩ := h
  exact ⟨q, h2⟩
theorem tabIs_of_vars {W : World} {name : String} {k : IntKind} {zs : List Int} {rest : List (String × DataW Unit)} {ps : List MemPlace} {g : Nat} {t e : TypeId} {n : Nat}
    (hg : P.globalNamed name = some g) (hty : (P.globals[g]?).map (·.type) = some t) (ht : P.underlying t = some (.array n e)) (he : P.underlying e = some (.int k)) (hce : P.cellsOf e = 1) (hct : P.cellsOf t = n)
    (h : DataW.LaidVars P W ((name, Lib.tabData k zs) :: rest) ps) : Lib.TabIs P W name k zs := by
  obtain ⟨g', t', cs, fuel, p, q, hg', ht', hvar, hd, _, _⟩ := h
  obtain rfl := Option.some.inj (hg.symm.trans hg')
  obtain rfl := Option.some.inj (hty.symm.trans ht')
  unfold Lib.TabIs
  rw [hvar, ← Lib.cells_of_tab ht he hce hct hd]

/-- AN ARGUMENT THAT IS A SLICE OF CHOICES. -/
theorem open_chs {W : World} {t e : TypeId} {f0 f1 : Field} {v : Value} {d : DataW H} {ps : List MemPlace} {b0 : Nat} (ht : P.underlying t = some (.slice e)) (he : P.underlying e = some (.struct #[f0, f1]))
    (ce : P.cellsOf e = 2) (o0 : f0.offset = 0) (o1 : f1.offset = 1) (c0 : P.cellsOf f0.type = 1) (c1 : P.cellsOf f1.type = 1) (t0 : P.underlying f0.type = some (.int .i64)) (t1 : P.underlying f1.type = some (.int .i64))
    (hval : Value.okWide P W .any b0 t v) (h : DataW.Trod enc P W 0 (fun _ => true) true t v d ps) :
    ∃ (A : Option Addr) (c : Nat) (l : List Ch), v = .slice A l.length c ∧ Chs W W.heap.size A l ∧ l.length ≤ c ∧ l.length ≤ maxLen ∧ (∀ x ∈ l, (-9223372036854775808 ≤ x.1 ∧ x.1 ≤ 9223372036854775807) ∧ (-9223372036854775808 ≤ x.2 ∧ x.2 ≤ 9223372036854775807)) ∧
      ((A = none ∧ l = [] ∧ d = .nil) ∨ ∃ es sp, d = .slice es sp ∧ es.length = l.length) := by
  obtain ⟨A, len, cap, rfl⟩ := okWide_slice ht hval
  obtain ⟨fuel, hf⟩ := h
  rcases open_slice_pairs ht he ce o0 o1 c0 c1 hf with ⟨h1, h2⟩ | ⟨a, len', cap', m, n, V0, V1, D0, D1, P0, P1, hcs, _, hlc, hcm, hm, hx, hall⟩
  · simp [Value.cells] at h1
    obtain ⟨rfl, rfl, rfl⟩ := h1
    exact ⟨none, 0, [], rfl, Rd.nil_, Nat.le_refl _, by simp, by simp, .inl ⟨rfl, rfl, congrArg Prod.fst h2⟩⟩
  · simp [Value.cells] at hcs
    obtain ⟨rfl, rfl, rfl⟩ := hcs
    have hall' : ∀ i, i < len → ∃ y : Int × Int, W.cell? (a.add (i * 2)) = some (.int .i64 y.1) ∧ W.cell? (a.add (i * 2 + 1)) = some (.int .i64 y.2) ∧ (Lit.int .i64 y.1).wf = true ∧ (Lit.int .i64 y.2).wf = true := by
      intro i hi
      obtain ⟨e0, e1, u0, u1⟩ := hall i (by simp at hm; omega)
      obtain ⟨z0, q0, _, w0⟩ := DataW.trod_int t0 u0
      obtain ⟨z1, q1, _, w1⟩ := DataW.trod_int t1 u1
      simp only [List.cons.injEq, and_true] at q0 q1
      exact ⟨(z0, z1), q0 ▸ e0, q1 ▸ e1, w0, w1⟩
    obtain ⟨F, hF⟩ := choose_lt hall'
    have hl : ((List.range len).map F).length = len := by simp
    refine ⟨some a, cap, (List.range len).map F, by rw [hl], ?_, by rw [hl]; exact hlc, by rw [hl]; exact Nat.le_trans hlc hcm, ?_, .inr ⟨_, _, congrArg Prod.fst hx, by simp⟩⟩
    · refine ⟨by rw [chCells_len], ?_⟩
      by_cases h0 : len = 0
      · left; rw [hl]; exact h0
      · right
        have hc0 := (hF 0 (by omega)).1
        obtain ⟨b, off, spot⟩ := a
        have hsp : spot = none := by
          simp only [World.cell?, Addr.add, Nat.zero_mul, if_true] at hc0
          split at hc0
          · split at hc0
            · cases hc0
            · rename_i hs; simpa using hs
          · cases hc0
        subst hsp
        have hbl : b < W.heap.size := by
          simp only [World.cell?, Addr.add, Nat.zero_mul, if_true] at hc0
          rcases Nat.lt_or_ge b W.heap.size with h9 | h9
          · exact h9
          · rw [Array.getElem?_eq_none h9] at hc0; cases hc0
        refine ⟨b, off, rfl, hbl, fun j u hu => ?_⟩
        have hj : j < 2 * len := by
          rcases Nat.lt_or_ge j (2 * len) with h9 | h9
          · exact h9
          · rw [List.getElem?_eq_none (by rw [chCells_len, hl]; omega)] at hu; cases hu
        have hi := hF (j / 2) (by omega)
        rcases Nat.mod_two_eq_zero_or_one j with hp | hp
        · obtain ⟨i, rfl⟩ : ∃ i, j = i * 2 := ⟨j / 2, by omega⟩
          rw [chCells_fst _ _ (by rw [hl]; omega)] at hu
          rw [show i * 2 / 2 = i by omega, add_plain] at hi
          rw [hi.1, ← hu]
          simp
        · obtain ⟨i, rfl⟩ : ∃ i, j = i * 2 + 1 := ⟨j / 2, by omega⟩
          rw [chCells_snd _ _ (by rw [hl]; omega)] at hu
          rw [show (i * 2 + 1) / 2 = i by omega, add_plain, add_plain] at hi
          rw [hi.2.1, ← hu]
          simp
    · intro x hx
      obtain ⟨i, hi, rfl⟩ := List.mem_map.1 hx
      obtain ⟨_, _, w0, w1⟩ := hF i (List.mem_range.1 hi)
      exact ⟨bounds_i64 w0, bounds_i64 w1⟩
end
end Go.Proofs.YtaficbkaofhjeaaDoor
