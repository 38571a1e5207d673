/- slices.Equal of edges, the reference's SameInts and SameLists, walked where both sides rea · The reference's Graph and Held, walked. Conditions: the program lies in memory, its number · lockorder's Graph and Held of any program, walked. Con -/
import Derived.Test.YtkpjdanfpolimaaGreatLgDg9
import Derived.Test.YtkpjdanfpolimaaGreatLgDg8
import Derived.Test.YtkpjdanfpolimaaGreatLgRaZ
import Derived.Test.YtkpjdanfpolimaaGreatLgRchk
import Derived.Maps.AppendAt
import Derived.Laws.OwnMore
import Derived.Test.YtkpjdanfpolimaaGreatLgLoM
import Derived.Test.YtkpjdanfpolimaaGreatLgDg0
import Derived.Lib.QuietBelow
set_option maxRecDepth 100000
set_option maxHeartbeats 6400000
namespace Go.Proofs.YtkpjdanfpolimaaGreat
section
open Go.RowKit Go.Shelf
theorem run_neq_ed (a b c d : Int) (W : World) : (binOp .neq 47 (.agg #[.int .i64 a, .int .i64 b]) (.agg #[.int .i64 c, .int .i64 d])).run Tryz.prog W = .ok (.bool (!edB a b c d)) W := by
 rw [run_neq_struct];unfold edB;by_cases h : a = c
 ·by_cases g : b = d <;> simp [go_sem, h, g]
 ·simp [go_sem, h]
attribute [local go_sem ↓] run_neq_ed
theorem edEqual_same (A1 : Option Addr) (c1 : Nat) (A2 : Option Addr) (c2 : Nat) (l : List (Nat × Nat)) (hl : l.length ≤ 2000) (w : World) (h1 : Eds w w.heap.size A1 l) (h2 : Eds w w.heap.size A2 l) :
  Calls Tryz.prog 23 #[.slice A1 l.length c1, .slice A2 l.length c2] w (Ret (.bool true) w) := by
 have e0 : ((l.length : Int) != (l.length : Int)) = false := by simp
 go_enter Tryz.func23, Tryz.ntmps23;go_upto_region 4 with fail;go_loopw [5, 13] (fun _ i wr => ∃ k : Nat, i = .int .i64 (k : Nat) ∧ k ≤ l.length ∧ Below w.heap.size w wr) (fun _ i _ => l.length - (intOf i).toNat)
 case atStart => exact ⟨0, rfl, by omega, Below.refl _ _⟩
 case round =>
  obtain ⟨k, rfl, hk, hb⟩ := hrel;have hk0 := zi k;have hwr := Wi k (by omega);by_cases hlt : k < l.length
  ·have hd1 := Dt (show (k : Int) < l.length by omega)
   have hd2 := Dt hlt;have hjl : (k : Int) < (l.length : Int) := by omega
   obtain ⟨b, off, rfl, -, p1, p2⟩ := (h1.below hb).at_ hlt;obtain ⟨b', off', rfl, -, q1, q2⟩ := (h2.below hb).at_ hlt;generalize l[k] = x at p1 p2 q1 q2;obtain ⟨a1, a2⟩ := x;dsimp only at p1 p2 q1 q2;have hcb : edB a1 a2 a1 a2 = true := by unfold edB; simp
   go_wp2_with fail;go_quiet (fail);go_wp2_with fail;go_round
   case rel => exact ⟨k + 1, rfl, by omega, hb.trans (below_drews _ _ _)⟩
   case measure => exact ms (by omega)
  ·have hd1 := Df (show ¬ (k : Int) < l.length by omega)
   have hd2 := Df hlt;go_wp2_with fail;go_ret;exact ⟨rfl, hb⟩
theorem sameInts_same (A1 : Option Addr) (c1 : Nat) (A2 : Option Addr) (c2 : Nat) (l : List Nat) (hl : l.length ≤ 2000) (w : World) (h1 : Nts w w.heap.size A1 l) (h2 : Nts w w.heap.size A2 l) :
  Calls Tryz.prog 41 #[.slice A1 l.length c1, .slice A2 l.length c2] w (Ret (.bool true) w) := by
 have e0 : ((l.length : Int) != (l.length : Int)) = false := by simp
 go_enter Tryz.func41, Tryz.ntmps41;go_upto_region 4 with fail;go_loopw [5] (fun i wr => ∃ k : Nat, i = .int .i64 (k : Nat) ∧ k ≤ l.length ∧ Below w.heap.size w wr) (fun i _ => l.length - (intOf i).toNat)
 case atStart => exact ⟨0, rfl, by omega, Below.refl _ _⟩
 case round =>
  obtain ⟨k, rfl, hk, hb⟩ := hrel;have hk0 := zi k;have hwr := Wi k (by omega);by_cases hlt : k < l.length
  ·have hd1 := Dt (show (k : Int) < l.length by omega)
   have hd2 := Dt hlt;have hjl : (k : Int) < (l.length : Int) := by omega
   obtain ⟨b, off, rfl, -, p1⟩ := (h1.below' hb (Nat.le_refl _)).at_ hlt;obtain ⟨b', off', rfl, -, q1⟩ := (h2.below' hb (Nat.le_refl _)).at_ hlt;generalize l[k] = x at p1 q1;have hcb : ((x : Int) != (x : Int)) = false := by simp
   go_wp2_with fail;go_quiet (fail);go_wp2_with fail;go_round
   case rel => exact ⟨k + 1, rfl, by omega, hb.trans (below_drews _ _ _)⟩
   case measure => exact ms (by omega)
  ·have hd1 := Df (show ¬ (k : Int) < l.length by omega)
   have hd2 := Df hlt;go_wp2_with fail;go_ret;exact ⟨rfl, hb⟩
def NLs (W : World) (B : Nat) (A : Option Addr) (ls : List (List Nat)) : Prop := ∃ vs : List Value, Rd W B 1 A ls.length vs ∧ ∀ (i : Nat) (c : List Nat), ls[i]? = some c → ∃ A' cap, vs[i]? = some (Value.slice A' c.length cap) ∧ Nts W B A' c
theorem NLs.below' {W W' : World} {B C : Nat} {A : Option Addr} {ls : List (List Nat)} (h : NLs W B A ls) (hb : Below C W W') (hB : B ≤ C) : NLs W' B A ls := by
 obtain ⟨vs, h1, h2⟩ := h;refine ⟨vs, h1.below' hb hB, fun i c hc => ?_⟩;obtain ⟨A', cap, k1, k2⟩ := h2 i c hc;exact ⟨A', cap, k1, k2.below' hb hB⟩
theorem NLs.more {W : World} {B C : Nat} {A : Option Addr} {ls : List (List Nat)} (h : NLs W B A ls) (hB : B ≤ C) : NLs W C A ls := by
 obtain ⟨vs, h1, h2⟩ := h;refine ⟨vs, Rd.more h1 hB, fun i c hc => ?_⟩;obtain ⟨A', cap, k1, k2⟩ := h2 i c hc;exact ⟨A', cap, k1, Rd.more k2 hB⟩
theorem OwnLL.nls {W : World} {base : Nat} {v : Value} {ls : List (List Nat)} (h : OwnLL W base v ls) : ∃ A c, v = .slice A ls.length c ∧ NLs W W.heap.size A ls := by
 obtain ⟨vs, h1, h2⟩ := h;obtain ⟨A, c, rfl⟩ := own_form h1;refine ⟨A, c, rfl, vs, Rd.of_own h1, fun i cl hc => ?_⟩;obtain ⟨g, cap, k1, k2, k3, k4, k5⟩ := h2 i cl hc
 exact ⟨_, cap, k1, by simp [natC], .inr ⟨g, 0, rfl, k3, fun j u hu => by
  have hj : j < cl.length := by have := (List.getElem?_eq_some_iff.1 hu).1; simpa [natC] using this
  have e : u = .int .i64 cl[j] := by simpa [natC, hj] using hu.symm
  rw [e, Nat.zero_add]; exact k5 j hj⟩⟩
theorem sameLists_same (A1 : Option Addr) (c1 : Nat) (A2 : Option Addr) (c2 : Nat) (ls : List (List Nat)) (hl : ls.length ≤ 2000) (hc : ∀ c ∈ ls, c.length ≤ 2000) (w : World) (h1 : NLs w w.heap.size A1 ls) (h2 : NLs w w.heap.size A2 ls) :
  Calls Tryz.prog 16 #[.slice A1 ls.length c1, .slice A2 ls.length c2] w (Ret (.bool true) w) := by
 have e0 : ((ls.length : Int) != (ls.length : Int)) = false := by simp
 go_enter Tryz.func16, Tryz.ntmps16;go_upto_region 4 with fail;go_loopw [5] (fun i wr => ∃ k : Nat, i = .int .i64 (k : Nat) ∧ k ≤ ls.length ∧ Below w.heap.size w wr) (fun i _ => ls.length - (intOf i).toNat)
 case atStart => exact ⟨0, rfl, by omega, Below.refl _ _⟩
 case round =>
  obtain ⟨k, rfl, hk, hb⟩ := hrel;have hk0 := zi k;have hwr := Wi k (by omega);by_cases hlt : k < ls.length
  ·have hd1 := Dt (show (k : Int) < ls.length by omega)
   have hd2 := Dt hlt;have hjl : (k : Int) < (ls.length : Int) := by omega
   obtain ⟨vs1, r1, s1⟩ := h1.below' hb (Nat.le_refl _);obtain ⟨vs2, r2, s2⟩ := h2.below' hb (Nat.le_refl _);obtain ⟨b, off, rfl, -, p1⟩ := r1.addr (by omega);obtain ⟨b', off', rfl, -, p2⟩ := r2.addr (by omega);obtain ⟨B1, k1, t1, n1⟩ := s1 k _ (List.getElem?_eq_getElem hlt);obtain ⟨B2, k2, t2, n2⟩ := s2 k _ (List.getElem?_eq_getElem hlt);have x1 := p1 k _ t1;have x2 := p2 k _ t2;have HSI := hid (sameInts_same B1 k1 B2 k2 ls[k] (hc _ (List.getElem_mem hlt)) wr.drew (Rd.more n1 hb.size) (Rd.more n2 hb.size));clear r1 s1 r2 s2 p1 p2 t1 t2 n1 n2;generalize ls[k].length = m at x1 x2 HSI;go_wp2_with fail;go_still_tail 8, (by kernel_rfl)
   change wpList _ _ _ _ _ wr.drew;have hb2 := hb.drew;clear x1 x2 hb;generalize wr.drew = wd at HSI hb2 ⊢;go_wp2_with fail;refine HSI.out.mono ?_;rintro e w5 ⟨rfl, hb5⟩;have hb6 := hb2.trans (hb5.mono hb2.size);clear hb2 hb5 HSI;go_wp2_with fail;go_round
   case rel => exact ⟨k + 1, rfl, by omega, hb6⟩
   case measure => exact ms (by omega)
  ·have hd1 := Df (show ¬ (k : Int) < ls.length by omega)
   have hd2 := Df hlt;go_wp2_with fail;go_ret;exact ⟨rfl, hb⟩
end
section
open Go.RowKit Go.Shelf
def InnerOk (W : World) (base : Nat) (own : Option Nat) (v : Value) (c : List Nat) : Prop :=
 (v = .slice none 0 0 ∧ c = []) ∨ ∃ g cap, v = .slice (some ⟨g, 0, none⟩) c.length cap ∧ base ≤ g ∧ g < W.heap.size ∧ own ≠ some g ∧ ∀ k (hk : k < c.length), W.cell? ⟨g, k, none⟩ = some (.int .i64 c[k])
theorem InnerOk.keep {W W' : World} {base : Nat} {own : Option Nat} {v : Value} {c : List Nat} (h : InnerOk W base own v c) (hk : ∀ k, base ≤ k → k < W.heap.size → own ≠ some k → W'.heap[k]? = W.heap[k]?) (hz : W.heap.size ≤ W'.heap.size) : InnerOk W' base own v c := by
 rcases h with h | ⟨g, cap, h1, h2, h3, h4, h5⟩
 ·exact .inl h
 ·exact .inr ⟨g, cap, h1, h2, by omega, h4, fun k hk' => (World.cell?_of_block (hk g h2 h3 h4)).trans (h5 k hk')⟩
theorem InnerOk.of_own {W : World} {base : Nat} {v : Value} {c : List Nat} (h : OwnI W base v (nats c)) : InnerOk W base none v c := by
 have hnl : (nats c).length = c.length := by simp [nats]
 have h1 : W.ownsRow base 3 1 v (nats c).length (i64s (nats c)) := h;rw [hnl] at h1;rcases h1.2 with ⟨rfl, h0⟩ | ⟨g, cap, cur, rfl, hgb, hgh, -⟩
 ·exact .inl ⟨rfl, List.eq_nil_of_length_eq_zero h0⟩
 ·refine .inr ⟨g, cap, rfl, hgb, (h1.lt g rfl).2, nofun, fun k hk => ?_⟩
  rw [h1.cellAt k (by omega)];simp [i64s, nats, hk]
theorem InnerOk.nts {W : World} {base : Nat} {own : Option Nat} {v : Value} {c : List Nat} (h : InnerOk W base own v c) : ∃ A cap, v = .slice A c.length cap ∧ Nts W W.heap.size A c := by
 rcases h with ⟨rfl, rfl⟩ | ⟨g, cap, rfl, h2, h3, h4, h5⟩
 ·exact ⟨none, 0, rfl, by simp [natC], .inl rfl⟩
 ·exact ⟨_, cap, rfl, by simp [natC], .inr ⟨g, 0, rfl, h3, fun j u hu => by
   have hj : j < c.length := by have := (List.getElem?_eq_some_iff.1 hu).1; simpa [natC] using this
   have e : u = .int .i64 c[j] := by simpa [natC, hj] using hu.symm
   rw [e, Nat.zero_add]; exact h5 j hj⟩⟩
def OwnLN (W : World) (base : Nat) (v : Value) (ls : List (List Nat)) : Prop := ∃ vs : List Value, W.ownsRow base 27 1 v ls.length vs ∧ ∀ (i : Nat) (c : List Nat), ls[i]? = some c → ∃ u, vs[i]? = some u ∧ InnerOk W base v.ownBlock u c
theorem OwnLN.nls {W : World} {base : Nat} {v : Value} {ls : List (List Nat)} (h : OwnLN W base v ls) : ∃ A c, v = .slice A ls.length c ∧ NLs W W.heap.size A ls := by
 obtain ⟨vs, h1, h2⟩ := h;obtain ⟨A, c, rfl⟩ := own_form h1;refine ⟨A, c, rfl, vs, Rd.of_own h1, fun i cl hc => ?_⟩;obtain ⟨u, k1, k2⟩ := h2 i cl hc;obtain ⟨A', cap, rfl, k3⟩ := k2.nts;exact ⟨A', cap, k1, k3⟩
theorem OwnLN.keep {W W' : World} {base : Nat} {v : Value} {ls : List (List Nat)} (h : OwnLN W base v ls) (hk : ∀ k, base ≤ k → k < W.heap.size → W'.heap[k]? = W.heap[k]?) (hz : W.heap.size ≤ W'.heap.size) : OwnLN W' base v ls := by
 obtain ⟨vs, h1, h2⟩ := h;refine ⟨vs, own_blocks h1 hk, fun i c hc => ?_⟩;obtain ⟨u, k1, k2⟩ := h2 i c hc;exact ⟨u, k1, k2.keep (fun k a b _ => hk k a b) hz⟩
theorem OwnLN.below {W W' : World} {base : Nat} {v : Value} {ls : List (List Nat)} (h : OwnLN W base v ls) (hb : Below W.heap.size W W') : OwnLN W' base v ls := h.keep (fun k _ hk => hb.block k hk) hb.size
theorem OwnLN.push {W1 W3 : World} {base : Nat} {v v' : Value} {ls : List (List Nat)} {vs : List Value} {c : List Nat} {u : Value} (h1 : W1.ownsRow base 27 1 v ls.length vs)
  (h2 : ∀ (i : Nat) (c : List Nat), ls[i]? = some c → ∃ u, vs[i]? = some u ∧ InnerOk W1 base v.ownBlock u c)
  (ho : W3.ownsRow base 27 1 v' (ls.length + 1) (vs ++ [u])) (hg : W1.grownBy W3 v.ownBlock) (hv : v'.ownBlock = v.ownBlock ∨ v'.ownBlock = some W1.heap.size) (hu : InnerOk W1 base v.ownBlock u c) : OwnLN W3 base v' (ls ++ [c]) := by
 have hnew : ∀ {u c}, InnerOk W1 base v.ownBlock u c → InnerOk W3 base v'.ownBlock u c := fun {u c} h => by
  rcases h with h | ⟨g, cap, k1, k2, k3, k4, k5⟩
  ·exact .inl h
  ·refine .inr ⟨g, cap, k1, k2, Nat.lt_of_lt_of_le k3 hg.size, fun e => ?_, fun k hk => hg.cell (k5 k hk) (fun z => k4 z.symm)⟩
   rcases hv with hv | hv
   ·exact k4 (hv ▸ e)
   ·rw [hv] at e; injection e with e; omega
 have hvl : vs.length = ls.length := by have := h1.1; omega
 refine ⟨_, by rw [List.length_append]; exact ho, fun i c' hc' => ?_⟩;by_cases e : i < ls.length
 ·rw [List.getElem?_append_left e] at hc'
  obtain ⟨u', k1, k2⟩ := h2 i c' hc';exact ⟨u', by rw [List.getElem?_append_left (by omega)]; exact k1, hnew k2⟩
 ·rw [List.getElem?_append_right (by omega)] at hc'
  have hi : i - ls.length = 0 := by
   have := (List.getElem?_eq_some_iff.1 hc').1;simp at this; omega
  rw [hi] at hc';have hcc : c = c' := by simpa using hc'
  subst hcc;exact ⟨u, by rw [List.getElem?_append_right (by omega), hvl, hi]; rfl, hnew hu⟩
theorem nls_nil (W : World) (B : Nat) (A : Option Addr) : NLs W B A [] := ⟨[], ⟨rfl, .inl rfl⟩, fun i c hc => by simp at hc⟩
theorem eds_nil (W : World) (B : Nat) (A : Option Addr) : Eds W B A [] := ⟨rfl, .inl rfl⟩
def heldL (p : Prg) (f : Nat) : List (List Nat) := (List.range (p.len f)).map (fun i => listE ((analysis p).get (.at_ f i)))
def heldTo (p : Prg) (f j : Nat) : List (List Nat) := (List.range j).map (fun i => listE ((analysis p).get (.at_ f i)))
theorem heldTo_succ (p : Prg) (f j : Nat) : heldTo p f (j + 1) = heldTo p f j ++ [listE ((analysis p).get (.at_ f j))] := by unfold heldTo; rw [List.range_succ, List.map_append]; rfl
def GraphR (p : Prg) (w : World) : Ending → World → Prop := fun e W => ∃ (l : List (Nat × Nat)) (A : Option Addr) (c : Nat) (er : Int), e = .returned (.tuple #[.slice A l.length c, .int .i64 er]) ∧ Eds W W.heap.size A l ∧ Below w.heap.size w W ∧ (prgOk p → er = 0 ∧ l = graphOf p) ∧ (¬ prgOk p → er = 1 ∧ l = [])
def HeldR (p : Prg) (f : Int) (w : World) : Ending → World → Prop := fun e W => ∃ (ls : List (List Nat)) (A : Option Addr) (c : Nat) (er : Int), e = .returned (.tuple #[.slice A ls.length c, .int .i64 er]) ∧ NLs W W.heap.size A ls ∧ Below w.heap.size w W ∧
 (¬ prgOk p → er = 1 ∧ ls = []) ∧ (prgOk p → f < 0 ∨ (p.funs.length : Int) ≤ f → er = 2 ∧ ls = []) ∧ (prgOk p → 0 ≤ f → f < (p.funs.length : Int) → er = 0 ∧ ls = heldL p f.toNat)
theorem rgraph_any (p : Prg) (w : World) (h : Lies w w.heap.size p) : Calls Tryz.prog 20 #[p.val] w (GraphR p w) := by
 have HCH := hid (fun (W : World) (hb : Below w.heap.size w W) => refCheck_any p W (h.next hb));have HGO := hid (fun (hv : prgOk p) (W : World) (hb : Below w.heap.size w W) => rgraphOf_any p hv W (h.next hb));obtain ⟨V, hV⟩ : ∃ V, V = prgOk p := ⟨_, rfl⟩
 unfold GraphR;rw [← hV] at HCH HGO ⊢;clear hV h;unfold Prg.val at HCH HGO ⊢;have hT := one_new w #[.slice p.funA p.funs.length p.funC, .slice p.obA p.obs.length p.obC, .slice p.vrA p.vrs.length p.vrC] 26;go_enter Tryz.func20, Tryz.ntmps20;go_upto_region 1 with fail;generalize w.alloc _ = W1 at hT ⊢;obtain ⟨x0, x1, x2⟩ := bx3 hT.fst;go_wp2_with fail;refine (HCH.out _ hT.below).mono ?_;rintro e W2 ⟨n, rfl, hn, hb2⟩;have HN := hid hn;have hT2 := hT.next hb2;clear hT hn x0 x1 x2;obtain ⟨x0, x1, x2⟩ := bx3 hT2.fst;by_cases hn0 : n = 0
 ·subst hn0
  have HY := hid (HN.out.1 rfl);have HG1 := hid (HGO.out HY.out W2 hT2.below);clear HN HGO;go_wp2_with fail;refine HG1.out.mono ?_;rintro e W3 ⟨v, rfl, hE, hb3⟩;obtain ⟨A, c, rfl, hE6⟩ := own_eds hE;have hT3 := hT2.next hb3;go_wp2_with fail;go_ret2;exact ⟨_, A, c, 0, rfl, hE6, hT3.below, fun _ => ⟨rfl, rfl⟩, fun z => absurd HY.out z⟩
 ·have en : (n != 0) = true := by simpa using hn0
  have HNO := hid (show ¬ V from fun v => hn0 (HN.out.2 v));clear HN hn0;go_wp2_with fail;have hba := below_alloc W2 (.cells #[] 47);have hT3 := hT2.next hba;go_ret2;exact ⟨[], some ⟨W2.heap.size, 0, none⟩, 0, 1, rfl, eds_nil _ _ _, hT3.below, fun v => absurd v HNO.out, fun _ => ⟨rfl, rfl⟩⟩
theorem rheld_any (p : Prg) (f : Int) (w : World) (h : Lies w w.heap.size p) : Calls Tryz.prog 22 #[p.val, .int .i64 f] w (HeldR p f w) := by
 obtain ⟨i1, hi1, hy⟩ := Option.map_eq_some_iff.1 listInfo;have hy0 : i1.zero = some (.slice none 0 0) := congrArg (fun t => t.1) hy;have hy1 : i1.size = 1 := congrArg (fun t => t.2.1) hy;have hy2 : i1.bytes = 24 := congrArg (fun t => t.2.2) hy;clear hy;have HCH := hid (fun (W : World) (hb : Below w.heap.size w W) => refCheck_any p W (h.next hb));have HAN := hid (fun (hv : prgOk p) (W : World) (hb : Below w.heap.size w W) => ranalyze_any p hv W (h.next hb));have HAS := hid (fun (hv : prgOk p) => analysis_same (wf_of hv));have HLN := hid (fun (hv : prgOk p) => (wf_of hv).len);have hn := h.funN;unfold maxLen at hn;obtain ⟨V, hV⟩ : ∃ V, V = prgOk p := ⟨_, rfl⟩
 unfold HeldR;rw [← hV] at HCH HAN HAS HLN ⊢;clear hV h;unfold Prg.val at HCH HAN ⊢;have hT := one_new w #[.slice p.funA p.funs.length p.funC, .slice p.obA p.obs.length p.obC, .slice p.vrA p.vrs.length p.vrC] 26;go_enter Tryz.func22, Tryz.ntmps22;go_upto_region 1 with fail;generalize w.alloc _ = W1 at hT ⊢;obtain ⟨x0, x1, x2⟩ := bx3 hT.fst;go_wp2_with fail;refine (HCH.out _ hT.below).mono ?_;rintro e W2 ⟨n, rfl, hn0, hb2⟩;have HN := hid hn0;have hT2 := hT.next hb2;clear hT hn0 x0 x1 x2;obtain ⟨x0, x1, x2⟩ := bx3 hT2.fst;by_cases hn0 : n = 0;rotate_left
 ·have en : (n != 0) = true := by simpa using hn0
  have HNO := hid (show ¬ V from fun v => hn0 (HN.out.2 v));clear HN hn0;go_wp2_with fail;have hba := below_alloc W2 (.cells #[] 27);have hT3 := hT2.next hba;go_ret2;exact ⟨[], some ⟨W2.heap.size, 0, none⟩, 0, 1, rfl, nls_nil _ _ _, hT3.below, fun _ => ⟨rfl, rfl⟩, fun v => absurd v HNO.out, fun v => absurd v HNO.out⟩
 subst hn0;have HY := hid (HN.out.1 rfl);clear HN;by_cases hneg : f < 0
 ·have g1 := Dt hneg
  have HF := hid hneg;clear hneg;go_wp2_with fail;have hba := below_alloc W2 (.cells #[] 27);have hT3 := hT2.next hba;go_ret2;exact ⟨[], some ⟨W2.heap.size, 0, none⟩, 0, 2, rfl, nls_nil _ _ _, hT3.below, fun v => absurd HY.out v, fun _ _ => ⟨rfl, rfl⟩, fun _ z => by have := HF.out; omega⟩
 obtain ⟨j, rfl⟩ : ∃ j : Nat, f = j := ⟨f.toNat, by omega⟩
 have g1 : decide ((j : Int) < 0) = false := decide_eq_false hneg;clear hneg;by_cases hlt : j < p.funs.length;rotate_left
 ·have g2 := Dt (show (p.funs.length : Int) ≤ (j : Int) by omega)
  have g3 := Dt (show p.funs.length ≤ j by omega);have HF := hid hlt;clear hlt;go_wp2_with fail;have hba := below_alloc W2 (.cells #[] 27);have hT3 := hT2.next hba;go_ret2;exact ⟨[], some ⟨W2.heap.size, 0, none⟩, 0, 2, rfl, nls_nil _ _ _, hT3.below, fun v => absurd HY.out v, fun _ _ => ⟨rfl, rfl⟩, fun _ z1 z2 => by have := HF.out; omega⟩
 have g2 := Df (show ¬ ((p.funs.length : Int) ≤ (j : Int)) by omega);have g3 := Df (show ¬ (p.funs.length ≤ j) by omega);have hj0 := zi j;have hj1 : (j : Int) < (p.funs.length : Int) := by omega
 have hl200 := HLN.out HY.out j hlt;have HSA := HAS.out HY.out;have HAS2 := hid HSA;clear HSA HLN HAS;go_upto_region 6 with fail;have hba := below_alloc W2 (.cells #[] 27);have hO0 : (W2.alloc (.cells #[] 27)).ownsRow W2.heap.size 27 1 (.slice (some ⟨W2.heap.size, 0, none⟩) 0 0) 0 [] := World.ownsRow_lit (e := 27) W2 #[] 0 (Nat.le_refl _) (by decide) rfl;have hT3 := hT2.next hba;have hz2 := hT2.size;have hb23 : W2.heap.size < (W2.alloc (.cells #[] 27)).heap.size := by simp
 clear hba hT2 x0 x1 x2;generalize W2.alloc _ = W3 at hT3 hO0 hb23 ⊢;generalize (Value.slice (some ⟨W2.heap.size, 0, none⟩) 0 0) = u0 at hO0 ⊢;obtain ⟨x0, x1, x2⟩ := bx3 hT3.fst;have HA1 := hid (HAN.out HY.out W3 hT3.below);clear HAN HCH;go_upto_region 6 with fail;go_wp2_with fail;refine HA1.out.mono ?_;rintro e W4 ⟨L, rfl, hm, hlo, hb4⟩;have hT4 := hT3.below.trans (hb4.mono hT3.below.size);have hO4 : OwnLN W4 W2.heap.size u0 (heldTo p j 0) := ⟨[], own_blocks hO0 (fun k _ hk => hb4.block k hk), fun i c hc => by simp [heldTo] at hc⟩
 have c3 := hm.c3;have ob := hm.outB j hlt;have hlo2 : w.heap.size ≤ W2.heap.size := by omega
 have hbb := hm.ok.rngB j hlt;have hhi := hm.hi
 have hcc : ∀ k, k < p.len j → W4.cell? ⟨L.bb j, k, none⟩ = some (.int .i64 (rv ((analysis p).get (.at_ j k)))) := fun k hk => by
  have := (hm.slot (.at_ j k) ⟨hlt, hk⟩).1;rw [HAS2.out] at this;exact this
 have hob0 : ∀ g, u0.ownBlock = some g → g ≠ L.bb j := fun g e => by
  have := (World.ownsRow.lt hO0 g e).2;omega
 have hzb : L.bb j < W4.heap.size := by omega
 have HLO := hid hlo2;clear hO0 x0 x1 x2 hT3 hb4 HA1;go_upto_region 8 with fail;clear c3 ob hm hhi;go_loopw [6, 8] (fun a i wr => ∃ k : Nat, i = .int .i64 k ∧ k ≤ p.len j ∧ OwnLN wr W2.heap.size a (heldTo p j k) ∧ (∀ k, k < p.len j → wr.cell? ⟨L.bb j, k, none⟩ = some (.int .i64 (rv ((analysis p).get (.at_ j k))))) ∧ (∀ g, a.ownBlock = some g → g ≠ L.bb j) ∧ L.bb j < wr.heap.size ∧ Below w.heap.size w wr ∧ W2.heap.size ≤ wr.heap.size) (fun _ i _ => p.len j - (intOf i).toNat)
 case atStart => exact ⟨0, rfl, by omega, hO4, hcc, hob0, hzb, hT4, by omega⟩
 case round =>
  clear hO4 hcc hob0 hzb hT4;obtain ⟨k, rfl, hk, hO, hcc, hob, hzb, hB, hz⟩ := hrel;have hk0 := zi k;have hwr1 := Wi k (by omega);have HSU := hid (heldTo_succ p j k);by_cases hltk : k < p.len j
  ·have hd1 := Dt (show (k : Int) < p.len j by omega)
   have hd2 := Dt hltk;have hkl : (k : Int) < (p.len j : Int) := by omega
   have hll : (heldTo p j k).length = k := by simp [heldTo]
   generalize heldTo p j k = ls at hO HSU hll;have hls : ls.length ≤ 200 := by omega
   clear hll;have cs := hcc k hltk;have HCC := hid hcc;clear hcc;generalize (analysis p).get (.at_ j k) = v at cs HSU;have HLS := hid (fun W => relem_any v W);generalize listE v = c at HSU HLS;generalize rv v = rvv at cs HLS;go_wp2_with fail;refine (HLS.out _).mono ?_;rintro e w5 ⟨v5, rfl, hown, hb5⟩;obtain ⟨vs, h1, h2⟩ := hO.below hb5;have hin := InnerOk.of_own hown;obtain ⟨A5, c5, rfl⟩ := own_form hown;obtain ⟨A0, c0, rfl⟩ := own_form h1;have hcl : (nats c).length = c.length := by simp [nats]
   rw [hcl] at hin ⊢;have hba := below_alloc w5 (.cells #[.slice A5 c.length c5] 27);have h1a := own_blocks h1 (fun k _ hk => hba.block k hk);have h5 := hb5.size
   have hin2 : InnerOk (w5.alloc (.cells #[.slice A5 c.length c5] 27)) W2.heap.size (Value.slice A0 ls.length c0).ownBlock (.slice A5 c.length c5) c := by
    rcases hin with h | ⟨g, cap, k1, k2, k3, k4, k5⟩
    ·exact .inl h
    ·refine .inr ⟨g, cap, k1, by omega, by simp; omega, fun e => ?_, fun k hk => (hba.cell (p := ⟨g, k, none⟩) k3).trans (k5 k hk)⟩
     obtain ⟨vs', h1', -⟩ := hO;have := (World.ownsRow.lt h1' g e).2;omega
   have h2a : ∀ (i : Nat) (c' : List Nat), ls[i]? = some c' → ∃ u, vs[i]? = some u ∧ InnerOk (w5.alloc (.cells #[.slice A5 c.length c5] 27)) W2.heap.size (Value.slice A0 ls.length c0).ownBlock u c' := fun i c' hc => by
    obtain ⟨u, k1, k2⟩ := h2 i c' hc;exact ⟨u, k1, k2.keep (fun k _ hk _ => hba.block k hk) hba.size⟩
   have hown0 : ∀ g, (Value.slice A0 ls.length c0).ownBlock = some g → W2.heap.size ≤ g := fun g e => (World.ownsRow.lt h1 g e).1
   have HH := hid (And.intro h2a hin2);have hmx : ls.length + 1 ≤ maxLen := by unfold maxLen; omega
   have hby : (ls.length + 1) * 24 ≤ 140737488355328 := by omega
   have hbs : W2.heap.size ≤ (w5.alloc (.cells #[.slice A5 c.length c5] 27)).heap.size := by simp; omega
   have HBA := hid hba;have HB5 := hid hb5;have HOB := hid hob;clear hin hin2 h2 h2a hown hO hba hb5 hob h1 cs HLS hcl;go_wp2_with (at_builtin; refine wpList_append_own_at _ rfl (.tmp 38) (.tmp 44) _ rfl W2.heap.size 27 i1 (.slice none 0 0) 1 24 Tryz.underlying35 hi1 hy0 hy1 hy2 rfl (by omega) _ _ _ rfl h1a ⟨w5.heap.size, 0, none⟩ 1 1 [.slice A5 c.length c5] rfl rfl (cell_one_new _ _ _) (by simp [Value.oneCell']) hmx hby hbs ?_; intro v3 w3 hown3 hg3 _ hob3);have hLN := OwnLN.push h1a HH.out.1 hown3 hg3 hob3 HH.out.2;have hz3 := hg3.size;have hz3' : w5.heap.size + 1 ≤ w3.heap.size := by simpa using hz3
   have hB3 : Below w.heap.size w w3 := ((hB.trans (HB5.out.mono hB.size)).trans (HBA.out.mono (by omega))).grown hg3 (by simp; omega) (fun g e => by have := hown0 g e; have := HLO.out; omega)
   have hcc3 : ∀ k, k < p.len j → w3.cell? ⟨L.bb j, k, none⟩ = some (.int .i64 (rv ((analysis p).get (.at_ j k)))) := fun k hk =>
    hg3.cell ((HBA.out.cell (p := ⟨L.bb j, k, none⟩) (by show L.bb j < _; omega)).trans ((HB5.out.cell (p := ⟨L.bb j, k, none⟩) hzb).trans (HCC.out k hk))) (fun e => HOB.out _ e.symm rfl)
   have hob4 : ∀ g, v3.ownBlock = some g → g ≠ L.bb j := fun g e => by
    rcases hob3 with z | z
    ·rw [z] at e; exact HOB.out g e
    ·rw [z] at e; injection e with e; simp at e; omega
   exact ⟨⟨k + 1, by go_num, by omega, by rw [HSU.out]; exact hLN, hcc3, hob4, by omega, hB3, by omega⟩, by simp [intOf]; omega⟩
  ·have hd1 := Df (show ¬ (k : Int) < p.len j by omega)
   have hd2 := Df hltk;have hke : k = p.len j := by omega
   obtain ⟨A, c, rfl, hNL⟩ := hO.nls;have HKE := hid hke;have HNL := hid hNL;clear hke hltk hO hNL;go_wp2_with fail;go_ret2;exact ⟨heldTo p j k, A, c, 0, rfl, HNL.out, hB, fun v => absurd HY.out v, fun _ z => z.elim (fun z => by omega) (fun z => by omega), fun _ _ _ => ⟨rfl, by rw [HKE.out]; rfl⟩⟩
end
section
open Go.RowKit Go.Shelf
theorem analyze_no (p : Prg) (hfit : Fits p) (hv : ¬ prgOk p) (w : World) (h : Lies w w.heap.size p) : Calls Tryz.prog 45 #[p.val] w fun e W => e = .returned (.tuple #[.pointer none, .bool false]) ∧ Below w.heap.size w W := by
 have HCH := hid (fun (W : World) (hb : Below w.heap.size w W) => check_any p hfit W (h.next hb));unfold Prg.val at HCH ⊢;have HNV := hid hv;clear h hv;have hT := one_new w #[.slice p.funA p.funs.length p.funC, .slice p.obA p.obs.length p.obC, .slice p.vrA p.vrs.length p.vrC] 26;go_enter Tryz.func45, Tryz.ntmps45;go_upto_region 1 with fail;generalize w.alloc _ = W1 at hT ⊢;obtain ⟨x0, x1, x2⟩ := bx3 hT.fst;go_wp2_with fail;refine (HCH.out _ hT.below).mono ?_;rintro e W2 ⟨n, rfl, hn, hb2⟩;have en : (n != 0) = true := by simpa using (fun z : n = 0 => HNV.out (hn.1 z))
 have hT2 := hT.next hb2;clear hn;go_wp2_with fail;go_ret2;exact ⟨rfl, hT2.below⟩
theorem lograph_any (p : Prg) (hfit : Fits p) (w : World) (h : Lies w w.heap.size p) : Calls Tryz.prog 18 #[p.val] w (GraphR p w) := by
 by_cases hv : prgOk p
 ·refine (graph_any p hfit hv w h).mono ?_
  rintro e W ⟨v, rfl, hE, hb⟩;obtain ⟨A, c, rfl, hE6⟩ := own_eds hE;exact ⟨_, A, c, 0, rfl, hE6, hb, fun _ => ⟨rfl, rfl⟩, fun z => absurd hv z⟩
 ·have HAN := hid (fun (W : World) (hb : Below w.heap.size w W) => analyze_no p hfit hv W (h.next hb))
  unfold Prg.val at HAN ⊢;have HNV := hid hv;clear h hv;have hT := one_new w #[.slice p.funA p.funs.length p.funC, .slice p.obA p.obs.length p.obC, .slice p.vrA p.vrs.length p.vrC] 26;go_enter Tryz.func18, Tryz.ntmps18;go_upto_region 1 with fail;generalize w.alloc _ = W1 at hT ⊢;obtain ⟨x0, x1, x2⟩ := bx3 hT.fst;go_wp2_with fail;refine (HAN.out _ hT.below).mono ?_;rintro e W2 ⟨rfl, hb2⟩;have hT2 := hT.next hb2;go_wp2_with fail;go_ret2;exact ⟨[], none, 0, 1, rfl, eds_nil _ _ _, hT2.below, fun v => absurd v HNV.out, fun _ => ⟨rfl, rfl⟩⟩
def heldAt (p : Prg) (f j i : Nat) : List Nat := if i < j then listE ((analysis p).get (.at_ f i)) else []
theorem held_any (p : Prg) (hfit : Fits p) (f : Int) (w : World) (h : Lies w w.heap.size p) : Calls Tryz.prog 21 #[p.val, .int .i64 f] w (HeldR p f w) := by
 by_cases hv : prgOk p;rotate_left
 ·have HAN := hid (fun (W : World) (hb : Below w.heap.size w W) => analyze_no p hfit hv W (h.next hb))
  unfold Prg.val at HAN ⊢;have HNV := hid hv;clear h hv;have hT := one_new w #[.slice p.funA p.funs.length p.funC, .slice p.obA p.obs.length p.obC, .slice p.vrA p.vrs.length p.vrC] 26;go_enter Tryz.func21, Tryz.ntmps21;go_upto_region 1 with fail;generalize w.alloc _ = W1 at hT ⊢;obtain ⟨x0, x1, x2⟩ := bx3 hT.fst;go_wp2_with fail;refine (HAN.out _ hT.below).mono ?_;rintro e W2 ⟨rfl, hb2⟩;have hT2 := hT.next hb2;go_wp2_with fail;go_ret2;exact ⟨[], none, 0, 1, rfl, nls_nil _ _ _, hT2.below, fun _ => ⟨rfl, rfl⟩, fun v => absurd v HNV.out, fun v => absurd v HNV.out⟩
 have hW := wf_of hv;have HAN := hid (fun (W : World) (hb : Below w.heap.size w W) => analyze_any p hfit hv W (h.next hb));have hn := h.funN;unfold maxLen at hn;have HY := hid hv;obtain ⟨b, off, hA, hbl, -⟩ := h.fn hW.funs.1;have HLN := hid hW.len;unfold Prg.val at HAN ⊢;rw [hA] at HAN ⊢;have HA := hid hA;clear hv hW h hA;have hT := one_new w #[.slice (some ⟨b, off, none⟩) p.funs.length p.funC, .slice p.obA p.obs.length p.obC, .slice p.vrA p.vrs.length p.vrC] 26;go_enter Tryz.func21, Tryz.ntmps21;go_upto_region 1 with fail;generalize w.alloc _ = W1 at hT ⊢;obtain ⟨x0, x1, x2⟩ := bx3 hT.fst;have HA1 := hid (HAN.out W1 hT.below);clear HAN;go_wp2_with fail;refine HA1.out.mono ?_;rintro e W2 ⟨L, rfl, hm, hlo, hb2⟩;have hT2 := hT.next hb2;have hz1 := hT.size;clear hT x0 x1 x2 HA1;obtain ⟨x0, x1, x2⟩ := bx3 hT2.fst;by_cases hneg : f < 0
 ·have g1 := Dt hneg
  have HF := hid hneg;clear hneg;go_wp2_with fail;go_ret2;exact ⟨[], none, 0, 2, rfl, nls_nil _ _ _, hT2.below, fun v => absurd HY.out v, fun _ _ => ⟨rfl, rfl⟩, fun _ z => by have := HF.out; omega⟩
 obtain ⟨j, rfl⟩ : ∃ j : Nat, f = j := ⟨f.toNat, by omega⟩
 have g1 : decide ((j : Int) < 0) = false := decide_eq_false hneg;clear hneg;by_cases hlt : j < p.funs.length;rotate_left
 ·have g2 := Dt (show (p.funs.length : Int) ≤ (j : Int) by omega)
  have g3 := Dt (show p.funs.length ≤ j by omega);have HF := hid hlt;clear hlt;go_wp2_with fail;go_ret2;exact ⟨[], none, 0, 2, rfl, nls_nil _ _ _, hT2.below, fun v => absurd HY.out v, fun _ _ => ⟨rfl, rfl⟩, fun _ z1 z2 => by have := HF.out; omega⟩
 have g2 := Df (show ¬ ((p.funs.length : Int) ≤ (j : Int)) by omega);have g3 := Df (show ¬ (p.funs.length ≤ j) by omega);have hj0 := zi j;have hj1 : (j : Int) < (p.funs.length : Int) := by omega
 have hl200 := HLN.out j hlt;obtain ⟨-, -, -, -, -, q5⟩ := fn_at hm.prog HA.out hlt (Turn.refl L.lo L.hi W2);have hmk := fun W => run_make_row' (P := Tryz.prog) 35 27 (.slice none 0 0) 24 Tryz.underlying35 (by kernel_rfl) rfl .i64 .i64 (p.len j) (by omega) (by omega) W
 have hl0 := zi (p.len j);go_upto_region 7 with fail;have hba := below_alloc W2 (.cells (madeCells #[.slice none 0 0] (p.len j)) 27);have hro := World.rowIs_made W2 (.slice none 0 0) (p.len j) 27;have hma := hm.below hba;have hTa := hT2.below.trans (hba.mono hT2.below.size);have hzT : L.hi ≤ W2.heap.size := hm.hi.2;have hzw := hT2.size;clear x0 x1 x2 hm hT2 hb2 hba hmk q5;generalize World.alloc W2 _ = wa at hro hma hTa ⊢;generalize W2.heap.size = T at hro hzT hzw ⊢;go_upto_region 8 with fail;go_loopw [36] (fun i wr => ∃ k : Nat, i = .int .i64 k ∧ k ≤ p.len j ∧ Mem p L wr (analysis p) ∧ Below w.heap.size w wr ∧ ∃ vs : Nat → Value, wr.rowIs T 27 (p.len j) vs ∧ ∀ i, i < p.len j → InnerOk wr (T + 1) none (vs i) (heldAt p j k i)) (fun i _ => p.len j - (intOf i).toNat)
 case atStart => exact ⟨0, rfl, by omega, hma, hTa, _, hro, fun i _ => .inl ⟨rfl, by unfold heldAt; rw [if_neg (by omega)]⟩⟩
 case round =>
  clear hma hTa hro;obtain ⟨k, rfl, hk, hm, hB, vs, hro, hin⟩ := hrel;have hk0 := zi k;have hwr1 := Wi k (by omega);have HIN := hid hin;clear hin;by_cases hltk : k < p.len j
  ·have hd1 := Dt (show (k : Int) < p.len j by omega)
   have hd2 := Dt hltk;have hkl : (k : Int) < (p.len j : Int) := by omega
   have c9 := hm.c9;have cr := hm.outR j hlt;have cs := (hm.slot (.at_ j k) ⟨hlt, hltk⟩).1.1;unfold Lay.kA at cs;dsimp only at cs
   have HST : Hid (∀ i, i ≠ k → heldAt p j (k + 1) i = heldAt p j k i) := hid (fun i hi => by
    unfold heldAt;by_cases z : i < k
    ·rw [if_pos (by omega), if_pos z]
    ·rw [if_neg (by omega), if_neg z])
   have HSK : Hid (heldAt p j (k + 1) k = listE ((analysis p).get (.at_ j k))) := hid (by unfold heldAt; rw [if_pos (by omega)])
   cases hg : ((analysis p).get (.at_ j k)).1 with
   | false =>
    rw [hg] at cs;have HE : Hid (heldAt p j (k + 1) k = heldAt p j k k) := hid (by rw [HSK.out]; unfold listE heldAt; rw [if_neg (show ¬ (k < k) by omega), hg]; rfl);clear hg;go_wp2_with fail;go_round
    case rel => exact ⟨k + 1, rfl, by omega, hm, hB, vs, hro, fun i hi => by
     by_cases e : i = k
     ·subst e; rw [HE.out]; exact HIN.out i hi
     ·rw [HST.out i e]; exact HIN.out i hi⟩
    case measure => exact ms (by omega)
   | true =>
    rw [hg] at cs;have HE : Hid (heldAt p j (k + 1) k = listM ((analysis p).get (.at_ j k)).2) := hid (by rw [HSK.out]; unfold listE; rw [hg]; rfl);clear hg;have c10 := hm.c10;have cB := hm.outB j hlt;have ct := (hm.slot (.at_ j k) ⟨hlt, hltk⟩).2.1;unfold Lay.tA sv at ct;dsimp only at ct;generalize ((analysis p).get (.at_ j k)).2 = bs at ct HE;have HLS := hid (fun W => list_any bs W);unfold sv at HLS;generalize listM bs = c at HLS HE;go_wp2_with fail;refine (HLS.out _).mono ?_;rintro e w5 ⟨v5, rfl, hown, hb5⟩;have hm5 := hm.below hb5;have hB5 := hB.trans (hb5.mono hB.size);have hTw : T < wr.heap.size := World.rowIs.lt hro;have hr5 : w5.rowIs T 27 (p.len j) vs := World.rowIs.of_block hro (hb5.block _ hTw);have h5 := InnerOk.of_own hown
    have HI5 : Hid (∀ i, i < p.len j → InnerOk w5 (T + 1) none (vs i) (heldAt p j k i)) := hid (fun i hi => (HIN.out i hi).keep (fun k _ hk _ => hb5.block k hk) hb5.size);obtain ⟨A5, c5, rfl⟩ := own_form hown;have hcl : (nats c).length = c.length := by simp [nats]
    rw [hcl] at h5 ⊢;have cT := World.rowIs.cell hr5 hltk;have fT := World.rowIs.frozen hr5 k;have hr6 := World.rowIs.set hr5 k (.slice A5 c.length c5);have hm6 : Mem p L (w5.setCell ⟨T, k, none⟩ (.slice A5 c.length c5)) (analysis p) := hm5.below' ((Below.refl _ _).setCell (p := ⟨T, k, none⟩) hzT _);have hB6 : Below w.heap.size w (w5.setCell ⟨T, k, none⟩ (.slice A5 c.length c5)) := hB5.setCell (p := ⟨T, k, none⟩) (by show w.heap.size ≤ T; omega) _;have H56 : Hid (∀ v c', InnerOk w5 (T + 1) none v c' → InnerOk (w5.setCell ⟨T, k, none⟩ (.slice A5 c.length c5)) (T + 1) none v c') := hid (fun v c' h => h.keep (fun k' hk' _ _ => heap_setCell_other _ _ _ _ (by show k' ≠ T; omega)) (by simp))
    have H5 : Hid (InnerOk w5 (T + 1) none (.slice A5 c.length c5) c) := hid (by
     rcases h5 with h | ⟨g, cap, k1, k2, k3⟩
     ·exact .inl h
     ·exact .inr ⟨g, cap, k1, by omega, k3⟩)
    have HR6 := hid hr6;have HM6 := hid (And.intro hm6 hB6);clear c9 cr cs c10 cB ct hm hB hro hown hb5 hm5 hB5 hr5 h5 HLS HIN hr6 hm6 hB6 hcl;go_wp2_with fail;go_round
    case rel => exact ⟨k + 1, rfl, by omega, HM6.out.1, HM6.out.2, _, HR6.out, fun i hi => by
     by_cases e : i = k
     ·subst e
      rw [HE.out];simp only [if_true];exact H56.out _ _ H5.out
     ·rw [HST.out i e]
      simp only [e, if_false];exact H56.out _ _ (HI5.out i hi)⟩
    case measure => exact ms (by omega)
  ·have hd1 := Df (show ¬ (k : Int) < p.len j by omega)
   have hd2 := Df hltk
   have hNL : NLs wr wr.heap.size (some ⟨T, 0, none⟩) (heldL p j) := by
    have hTw : T < wr.heap.size := World.rowIs.lt hro;have hll : (heldL p j).length = p.len j := by simp [heldL]
    refine ⟨(List.range (p.len j)).map vs, ⟨by rw [hll]; simp, .inr ⟨T, 0, rfl, hTw, fun q u hq => ?_⟩⟩, fun i c hc => ?_⟩
    ·have hq2 : q < p.len j := by have := (List.getElem?_eq_some_iff.1 hq).1; simpa using this
     have e : u = vs q := by simpa [hq2] using hq.symm
     rw [e, Nat.zero_add];exact World.rowIs.cell hro hq2
    ·have hi : i < p.len j := by have := (List.getElem?_eq_some_iff.1 hc).1; rwa [hll] at this
     have e : c = heldAt p j k i := by
      unfold heldAt;rw [if_pos (by omega)];simpa [heldL, hi] using hc.symm
     obtain ⟨A', cap, k1, k2⟩ := (HIN.out i hi).nts;rw [← e] at k1 k2;exact ⟨A', cap, by simp [hi, k1], k2⟩
   have HNL := hid hNL;have HLL := hid (show (heldL p j).length = p.len j from by simp [heldL]);clear hltk hk hNL;go_wp2_with fail;go_ret2;exact ⟨heldL p j, some ⟨T, 0, none⟩, p.len j, 0, by rw [HLL.out]; rfl, HNL.out, hB, fun v => absurd HY.out v, fun _ z => z.elim (fun z => by omega) (fun z => by omega), fun _ _ _ => ⟨rfl, rfl⟩⟩
end
section
open Go.RowKit
def exIns (op a b c : Int) : Ins := ⟨op, a, b, c, [], none, 0⟩
def exFn (nm : ByteArray) (cd : List Ins) (A : Nat) : Fn := ⟨nm, 0, 1, 0, false, cd, some ⟨A, 0, none⟩, 4⟩
def exMain : List Ins := [exIns 35 (-1) (-1) 3, exIns 34 0 1 0, exIns 34 0 2 0, exIns 36 0 0 0]
def exLock (a b : Int) : List Ins := [exIns 50 a 0 0, exIns 50 b 0 0, exIns 52 b 0 0, exIns 52 a 0 0]
def exP (M A B F O : Nat) (a b : Int) : Prg := ⟨[exFn ⟨#[109, 97, 105, 110]⟩ exMain M, exFn ⟨#[97]⟩ (exLock 0 1) A, exFn ⟨#[98]⟩ (exLock a b) B], some ⟨F, 0, none⟩, 3, [⟨⟨#[109]⟩, 1, 0, 0⟩, ⟨⟨#[110]⟩, 1, 0, 0⟩], some ⟨O, 0, none⟩, 2, [], none, 0⟩
theorem iter_end (p : Prg) : ∀ (k m : Nat) (s : S), k ≤ m → (S.iter p k s).ch = false → S.iter p m s = S.iter p k s
 | 0, m, s, _, h => by
  cases m with
  | zero => rfl
  | succ m =>
   have h2 : s.ch = false := h;show S.iter p (m + 1) s = s;unfold S.iter;rw [h2]; rfl
 | k + 1, m, s, hk, h => by
  obtain ⟨m, rfl⟩ : ∃ q, m = q + 1 := ⟨m - 1, by omega⟩
  rw [S.iter, S.iter];rw [S.iter] at h;split
  ·next hc => rw [if_pos hc] at h; exact iter_end p k m _ (by omega) h
  ·rfl
theorem ex_fuel (M A B F O : Nat) (a b : Int) : 9 ≤ (exP M A B F O a b).fuel := by
 have h : 1 ≤ (exP M A B F O a b).slots := Nat.le_of_ble_eq_true (by kernel_rfl);unfold Prg.fuel;omega
theorem ex_graph10 (M A B F O : Nat) : graphOf (exP M A B F O 1 0) = [(0, 1), (1, 0)] := by
 unfold graphOf analysis;rw [iter_end _ 9 _ _ (ex_fuel M A B F O 1 0) (by kernel_rfl)]
 kernel_rfl
theorem ex_graph01 (M A B F O : Nat) : graphOf (exP M A B F O 0 1) = [(0, 1)] := by
 unfold graphOf analysis;rw [iter_end _ 9 _ _ (ex_fuel M A B F O 0 1) (by kernel_rfl)]
 kernel_rfl
theorem ex_lock (M A B F O : Nat) (a b c : Int) (f : Fn) (hf : f.clean = false) (hc : c = 0 ∨ c = 1) : insOk (exP M A B F O a b) f (exIns 50 c 0 0) ∧ insOk (exP M A B F O a b) f (exIns 52 c 0 0) := by
 have h : opOk (exP M A B F O a b) f 12 1 c := by
  rcases hc with rfl | rfl
  ·exact ⟨by kernel_rfl, _, rfl, rfl⟩
  ·exact ⟨by kernel_rfl, _, rfl, rfl⟩
 exact ⟨⟨12, 1, 0, 0, 0, 0, 0, by kernel_rfl, fun z => absurd (hf.symm.trans z) (by decide), h, rfl, rfl, rfl, ⟨fun z => absurd z.1 (by show (50 : Int) ≠ 65; decide), fun z => absurd z.1 (by show (50 : Int) ≠ 67; decide)⟩⟩,
  ⟨12, 1, 0, 0, 0, 0, 0, by kernel_rfl, fun z => absurd (hf.symm.trans z) (by decide), h, rfl, rfl, rfl, ⟨fun z => absurd z.1 (by show (52 : Int) ≠ 65; decide), fun z => absurd z.1 (by show (52 : Int) ≠ 67; decide)⟩⟩⟩
theorem ex_code (M A B F O : Nat) (a b c d : Int) (f : Fn) (hf : f.clean = false) (hc : c = 0 ∨ c = 1) (hd : d = 0 ∨ d = 1) : ∀ i ∈ exLock c d, insOk (exP M A B F O a b) f i := by
 intro i hi;have hi : i = exIns 50 c 0 0 ∨ i = exIns 50 d 0 0 ∨ i = exIns 52 d 0 0 ∨ i = exIns 52 c 0 0 := by simpa [exLock] using hi
 rcases hi with rfl | rfl | rfl | rfl
 ·exact (ex_lock M A B F O a b c f hf hc).1
 ·exact (ex_lock M A B F O a b d f hf hd).1
 ·exact (ex_lock M A B F O a b d f hf hd).2
 ·exact (ex_lock M A B F O a b c f hf hc).2
theorem ex_regs (f : Fn) : regsOk f [] := fun x hx => by cases hx
theorem ex_main (M A B F O : Nat) (a b : Int) : ∀ i ∈ exMain, insOk (exP M A B F O a b) (exFn ⟨#[109, 97, 105, 110]⟩ exMain M) i := by
 intro i hi;have hi : i = exIns 35 (-1) (-1) 3 ∨ i = exIns 34 0 1 0 ∨ i = exIns 34 0 2 0 ∨ i = exIns 36 0 0 0 := by simpa [exMain] using hi
 rcases hi with rfl | rfl | rfl | rfl
 ·exact ⟨5, 0, 5, 0, 7, 0, 0, by kernel_rfl, fun z => absurd z (by show ¬ (false = true); decide), (show inR2 _ _ _ = true by kernel_rfl), (show inR2 _ _ _ = true by kernel_rfl), ⟨by kernel_rfl, _, rfl, rfl⟩, rfl, ⟨fun z => absurd z.1 (by show (35 : Int) ≠ 65; decide), fun z => absurd z.1 (by show (35 : Int) ≠ 67; decide)⟩⟩
 ·exact ⟨4, 0, 8, 0, 0, 0, 1, by kernel_rfl, fun z => absurd z (by show ¬ (false = true); decide), (show inR2 _ _ _ = true by kernel_rfl), ⟨by kernel_rfl, _, rfl, rfl⟩, rfl, ⟨⟨_, rfl, rfl⟩, ex_regs _⟩, ⟨fun z => absurd z.1 (by show (34 : Int) ≠ 65; decide), fun z => absurd z.1 (by show (34 : Int) ≠ 67; decide)⟩⟩
 ·exact ⟨4, 0, 8, 0, 0, 0, 1, by kernel_rfl, fun z => absurd z (by show ¬ (false = true); decide), (show inR2 _ _ _ = true by kernel_rfl), ⟨by kernel_rfl, _, rfl, rfl⟩, rfl, ⟨⟨_, rfl, rfl⟩, ex_regs _⟩, ⟨fun z => absurd z.1 (by show (34 : Int) ≠ 65; decide), fun z => absurd z.1 (by show (34 : Int) ≠ 67; decide)⟩⟩
 ·exact ⟨4, 0, 0, 0, 0, 0, 0, by kernel_rfl, fun z => absurd z (by show ¬ (false = true); decide), (show inR2 _ _ _ = true by kernel_rfl), rfl, rfl, rfl, ⟨fun z => absurd z.1 (by show (36 : Int) ≠ 65; decide), fun z => absurd z.1 (by show (36 : Int) ≠ 67; decide)⟩⟩
theorem ex_ok (M A B F O : Nat) (a b : Int) (ha : a = 0 ∨ a = 1) (hb : b = 0 ∨ b = 1) : prgOk (exP M A B F O a b) := by
 refine ⟨⟨by simp [exP], by simp [exP], by simp [exP], by simp [exP]⟩, fun k hk => ?_, fun k hk => ?_, fun k hk => ?_⟩
 ·match k, hk with
  | 0, _ => exact ⟨by kernel_rfl, by kernel_rfl, by kernel_rfl, by kernel_rfl, fun h => absurd h (by show (1 : Int) ≠ 3; decide), fun q hq => (by cases hq)⟩
  | 1, _ => exact ⟨by kernel_rfl, by kernel_rfl, by kernel_rfl, by kernel_rfl, fun h => absurd h (by show (1 : Int) ≠ 3; decide), fun q hq => (by
    have : q = ⟨⟨#[109]⟩, 1, 0, 0⟩ := by simpa [exP] using hq
    subst this; show (⟨#[109]⟩ : ByteArray) ≠ ⟨#[110]⟩; decide)⟩
  | k + 2, hk => exact absurd hk (by simp [exP])
 ·exact absurd hk (by simp [exP])
 ·match k, hk with
  | 0, _ => exact ⟨by kernel_rfl, fun q hq => (by cases hq), by kernel_rfl, by kernel_rfl, by kernel_rfl, fun z => absurd z.1 (by show ¬ (false = true); decide), by show (4 : Nat) ≤ 200; decide, fun _ => ⟨rfl, rfl⟩, ex_main M A B F O a b⟩
  | 1, _ => exact ⟨by kernel_rfl, fun q hq => (by
    have : q = exFn ⟨#[109, 97, 105, 110]⟩ exMain M := by simpa [exP] using hq
    subst this; show (⟨#[109, 97, 105, 110]⟩ : ByteArray) ≠ ⟨#[97]⟩; decide), by kernel_rfl, by kernel_rfl, by kernel_rfl, fun z => absurd z.1 (by show ¬ (false = true); decide), by show (4 : Nat) ≤ 200; decide, fun z => absurd z (by decide), ex_code M A B F O a b 0 1 _ rfl (.inl rfl) (.inr rfl)⟩
  | 2, _ => exact ⟨by kernel_rfl, fun q hq => (by
    have : q = exFn ⟨#[109, 97, 105, 110]⟩ exMain M ∨ q = exFn ⟨#[97]⟩ (exLock 0 1) A := by simpa [exP] using hq
    rcases this with rfl | rfl
    ·show (⟨#[109, 97, 105, 110]⟩ : ByteArray) ≠ ⟨#[98]⟩; decide
    ·show (⟨#[97]⟩ : ByteArray) ≠ ⟨#[98]⟩; decide), by kernel_rfl, by kernel_rfl, by kernel_rfl, fun z => absurd z.1 (by show ¬ (false = true); decide), by show (4 : Nat) ≤ 200; decide, fun z => absurd z (by decide), ex_code M A B F O a b a b _ rfl ha hb⟩
  | k + 3, hk => exact absurd hk (by simp [exP])
theorem ex_fits (M A B F O : Nat) (a b : Int) (ha : a = 0 ∨ a = 1) (hb : b = 0 ∨ b = 1) : Fits (exP M A B F O a b) := by
 intro f hf i hi
 have key : ∀ c d : Int, (c = 0 ∨ c = 1) → (d = 0 ∨ d = 1) → ∀ i ∈ exLock c d, I64 i.a ∧ I64 i.b ∧ I64 i.c ∧ ∀ x ∈ i.args, I64 x := fun c d hc hd i hi => by
  have hi : i = exIns 50 c 0 0 ∨ i = exIns 50 d 0 0 ∨ i = exIns 52 d 0 0 ∨ i = exIns 52 c 0 0 := by simpa [exLock] using hi
  rcases hi with rfl | rfl | rfl | rfl <;> refine ⟨?_, ?_, ?_, fun x hx => (by cases hx)⟩ <;> simp only [exIns, I64] <;> omega
 have hf : f = exFn ⟨#[109, 97, 105, 110]⟩ exMain M ∨ f = exFn ⟨#[97]⟩ (exLock 0 1) A ∨ f = exFn ⟨#[98]⟩ (exLock a b) B := by simpa [exP] using hf
 rcases hf with rfl | rfl | rfl
 ·have hi : i = exIns 35 (-1) (-1) 3 ∨ i = exIns 34 0 1 0 ∨ i = exIns 34 0 2 0 ∨ i = exIns 36 0 0 0 := by simpa [exFn, exMain] using hi
  rcases hi with rfl | rfl | rfl | rfl <;> refine ⟨?_, ?_, ?_, fun x hx => (by cases hx)⟩ <;> simp only [exIns, I64] <;> omega
 ·exact key 0 1 (.inl rfl) (.inr rfl) i hi
 ·exact key a b ha hb i hi
end
section
open Go.RowKit Go.Shelf Go.Sort
structure CBox (C : Nat) (k : Int) (A : Option Addr) (c : Nat) (cs : List Int) (W : World) : Prop where
 bx : Bx W C [.int .i64 k, .slice A cs.length c]
 rd : Rd W C 1 A cs.length (i64s cs)
theorem CBox.below {C : Nat} {k : Int} {A : Option Addr} {c B : Nat} {cs : List Int} {W W' : World} (h : CBox C k A c cs W) (hb : Below B W W') (hB : C < B) : CBox C k A c cs W' := ⟨h.bx.below hb hB, h.rd.below' hb (by omega)⟩
theorem CBox.rank {C : Nat} {k : Int} {A : Option Addr} {c : Nat} {cs : List Int} {W : World} (h : CBox C k A c cs W) {i : Nat} (hi : i < cs.length) : ∃ b off, A = some ⟨b, off, none⟩ ∧ W.cell? ⟨b, off + i, none⟩ = some (.int .i64 cs[i]) := by
 obtain ⟨b, off, e, -, hc⟩ := Rd.addr h.rd (by omega);exact ⟨b, off, e, hc i _ (by simp [i64s, hi])⟩
def badE (cs : List Int) (e : Nat × Nat) : Bool := decide (cs.getD e.2 0 ≤ cs.getD e.1 0)
theorem verEdge_any (C : Nat) (k : Int) (A : Option Addr) (c : Nat) (cs : List Int) (e0 : Nat × Nat) (h1 : e0.1 < cs.length) (h2 : e0.2 < cs.length) (w : World) (h : CBox C k A c cs w) (hC : C < w.heap.size) :
  Calls Tryz.prog 43 #[edV e0, .pointer (some ⟨C, 0, none⟩)] w (Ret (.bool (badE cs e0)) w) := by
 obtain ⟨u, v⟩ := e0;have hba := below_alloc w (.cells #[.int .i64 u, .int .i64 v] 47);obtain ⟨x0, x1⟩ := bx_new2 w (.int .i64 u) (.int .i64 v) 47;have hB := h.below hba hC;obtain ⟨b, off, rfl, ru⟩ := hB.rank h1;obtain ⟨b', off', e', rv⟩ := hB.rank h2;injection e' with e';injection e' with e1 e2;subst e1; subst e2
 have hbe : badE cs (u, v) = decide (cs[v] ≤ cs[u]) := by
  have g1 : cs.getD u 0 = cs[u] := by rw [List.getD_eq_getElem?_getD, List.getElem?_eq_getElem h1]; rfl
  have g2 : cs.getD v 0 = cs[v] := by rw [List.getD_eq_getElem?_getD, List.getElem?_eq_getElem h2]; rfl
  unfold badE;rw [g1, g2]
 have HBE := hid hbe;have u0 := zi u;have u1 : (u : Int) < (cs.length : Int) := by exact_mod_cast h1
 have v0 := zi v;have v1 : (v : Int) < (cs.length : Int) := by exact_mod_cast h2
 have b1 := hB.bx 1 _ rfl;generalize cs[u] = zu at ru HBE;generalize cs[v] = zv at rv HBE;unfold edV;clear hbe h hB;go_enter Tryz.func43, Tryz.ntmps43;go_upto_region 1 with fail;generalize w.alloc _ = wa at hba x0 x1 ru rv b1 ⊢;go_quiet (fail);go_wp2_with fail;go_ret;exact ⟨by rw [HBE.out]; rfl, hba.trans (below_drews _ _ _)⟩
def verVal (C : Nat) : Value := .func (.func 43) #[] #[.pointer (some ⟨C, 0, none⟩)]
theorem verIndex_any (C : Nat) (k : Int) (A : Option Addr) (c : Nat) (cs : List Int) (Ae : Option Addr) (ce : Nat) (l : List (Nat × Nat)) (hl : l.length ≤ 2000) (hr : EdR cs.length l) (w : World) (h : CBox C k A c cs w) (hC : C < w.heap.size) (hE : Eds w w.heap.size Ae l) :
  Calls Tryz.prog 51 #[.slice Ae l.length ce, verVal C] w fun e W => ∃ i : Int, e = .returned (.int .i64 i) ∧ decide (0 ≤ i) = l.any (badE cs) ∧ Below w.heap.size w W := by
 unfold verVal;go_enter Tryz.func51, Tryz.ntmps51;go_upto_region 2 with fail;go_loopw [5, 8] (fun _ i wr => ∃ k : Nat, i = .int .i64 (k : Nat) ∧ k ≤ l.length ∧ (l.take k).any (badE cs) = false ∧ Below w.heap.size w wr) (fun _ i _ => l.length - (intOf i).toNat)
 case atStart => exact ⟨0, rfl, by omega, rfl, Below.refl _ _⟩
 case round =>
  obtain ⟨j, rfl, hj, hno, hb⟩ := hrel;have hj0 := zi j;have hwr := Wi j (by omega);have HNO := hid hno;clear hno;by_cases hlt : j < l.length
  ·have hd1 := Dt (show (j : Int) < l.length by omega)
   have hd2 := Dt hlt;have hjl : (j : Int) < (l.length : Int) := by omega
   obtain ⟨b, off, rfl, had, h1, h2⟩ := (hE.below hb).at_ hlt;have hrj := hr _ (List.getElem_mem hlt);have HMM := hid (List.getElem_mem hlt);have HTK := hid (show l.take (j + 1) = l.take j ++ [l[j]] by rw [List.take_add_one, List.getElem?_eq_getElem hlt]; rfl);have HV := hid (verEdge_any C k A c cs l[j] hrj.1 hrj.2 wr (h.below hb hC) (Nat.lt_of_lt_of_le hC hb.size));unfold edV at HV;generalize l[j] = x at h1 h2 HTK HMM HV;obtain ⟨a1, a2⟩ := x;dsimp only at h1 h2;go_wp2_with fail;refine HV.out.mono ?_;rintro e wk ⟨rfl, hbk⟩;have hb2 := hb.trans (hbk.mono hb.size);clear hb hbk HV
   cases hq : badE cs (a1, a2) with
   | true =>
    have HIN : Hid (l.any (badE cs) = true) := hid (List.any_eq_true.2 ⟨_, HMM.out, hq⟩);clear hq;go_wp2_with fail;go_ret;exact ⟨_, rfl, by rw [HIN.out]; exact decide_eq_true hj0, hb2⟩
   | false =>
    have HN2 : Hid ((l.take (j + 1)).any (badE cs) = false) := hid (by rw [HTK.out, List.any_append, HNO.out]; simp [hq]);clear hq;go_wp2_with fail;go_round
    case rel => exact ⟨j + 1, rfl, by omega, HN2.out, hb2⟩
    case measure => exact ms (by omega)
  ·have hd1 := Df (show ¬ (j : Int) < l.length by omega)
   have hd2 := Df hlt;go_wp2_with fail;go_ret
   exact ⟨-1, rfl, by
    have := HNO.out;rw [List.take_of_length_le (by omega)] at this;rw [this]; rfl, hb⟩
theorem verContains_any (C : Nat) (k : Int) (A : Option Addr) (c : Nat) (cs : List Int) (Ae : Option Addr) (ce : Nat) (l : List (Nat × Nat)) (hl : l.length ≤ 2000) (hr : EdR cs.length l) (w : World) (h : CBox C k A c cs w) (hC : C < w.heap.size) (hE : Eds w w.heap.size Ae l) :
  Calls Tryz.prog 42 #[.slice Ae l.length ce, verVal C] w (Ret (.bool (l.any (badE cs))) w) := by
 have HI := hid (verIndex_any C k A c cs Ae ce l hl hr w h hC hE);unfold verVal at HI ⊢;clear h hE;go_enter Tryz.func42, Tryz.ntmps42;go_wp2_with fail;refine HI.out.mono ?_;rintro e w2 ⟨i, rfl, hi, hb2⟩;have HII := hid hi;clear hi;go_wp2_with fail;go_ret;exact ⟨by rw [← HII.out]; rfl, hb2⟩
end
section
open Go.RowKit Go.Shelf Go.Sort
def rkB (p : Prg) (cs : List Int) (i : Nat) : Bool := if lockB (p.obs.getD i default) then decide (0 < cs.getD i 0) else decide (cs.getD i 0 = 0)
def verB (p : Prg) (k : Int) (cs : List Int) : Bool := decide (k = 1) && decide (cs.length = p.obs.length) && (List.range p.obs.length).all (rkB p cs) && !(graphOf p).any (badE cs)
def verE (p : Prg) (k : Int) (cs : List Int) : Int := if verB p k cs then 0 else 28
theorem verify_any (p : Prg) (hfit : Fits p) (hv : prgOk p) (k : Int) (A : Option Addr) (c : Nat) (cs : List Int) (w : World) (h : Lies w w.heap.size p) (hcs : Rd w w.heap.size 1 A cs.length (i64s cs)) :
  Calls Tryz.prog 14 #[p.val, .agg #[.int .i64 k, .slice A cs.length c]] w (Ret (.int .i64 (verE p k cs)) w) := by
 have hW := wf_of hv;have hob := hW.obs;have hgl := graph_len hob;have hge := graph_range hW;have HGR := hid (fun (W : World) (hb : Below w.heap.size w W) => graph_any p hfit hv W (h.next hb));have HOB := hid (fun (W : World) (hb : Below w.heap.size w W) (k : Nat) (hk : k < p.obs.length) => (h.next hb).ob hk);have HNO : Hid (verB p k cs = false → verE p k cs = 28) := hid (fun e => by unfold verE; rw [e]; rfl);unfold Prg.val at HGR ⊢;clear h hfit hv hW;generalize p.obA = oa at HGR HOB ⊢;go_enter Tryz.func14, Tryz.ntmps14;go_upto_region 1 with fail;have hT1 := two_new w #[.slice p.funA p.funs.length p.funC, .slice oa p.obs.length p.obC, .slice p.vrA p.vrs.length p.vrC] #[.int .i64 k, .slice A cs.length c] 26 29
 have hz1 : w.heap.size + 2 ≤ ((w.alloc (.cells #[.slice p.funA p.funs.length p.funC, .slice oa p.obs.length p.obC, .slice p.vrA p.vrs.length p.vrC] 26)).alloc (.cells #[.int .i64 k, .slice A cs.length c] 29)).heap.size := by simp
 have hB1 : CBox (w.heap.size + 1) k A c cs ((w.alloc (.cells #[.slice p.funA p.funs.length p.funC, .slice oa p.obs.length p.obC, .slice p.vrA p.vrs.length p.vrC] 26)).alloc (.cells #[.int .i64 k, .slice A cs.length c] 29)) := ⟨hT1.snd, Rd.more (hcs.below hT1.below) (by omega)⟩
 clear hcs;generalize World.alloc _ _ = w1 at hT1 hz1 hB1 ⊢;obtain ⟨x0, x1, x2⟩ := bx3 hT1.fst;have HG1 := hid (HGR.out w1 hT1.below);go_wp2_with fail;refine HG1.out.mono ?_;rintro e w2 ⟨gv, rfl, hE, hb2⟩;obtain ⟨Ag, Cg, rfl, hE2⟩ := own_eds hE;have hT2 := hT1.next hb2;have hB2 := hB1.below hb2 (by omega);have hz2 : w.heap.size + 2 ≤ w2.heap.size := Nat.le_trans hz1 hb2.size;clear x0 x1 x2 hE HG1 hT1 hb2 HGR hB1 hz1;obtain ⟨x0, x1, x2⟩ := bx3 hT2.fst;have b0 := hB2.bx 0 _ rfl;have b1 := hB2.bx 1 _ rfl;by_cases hk1 : k = 1
 ·have e1 : (k != 1) = false := by simpa using hk1
  by_cases hlen : cs.length = p.obs.length
  ·have e2 : ((cs.length : Int) != (p.obs.length : Int)) = false := by rw [hlen]; simp
   have e3 : (cs.length != p.obs.length) = false := by rw [hlen]; simp
   have HOK : Hid ((List.range p.obs.length).all (rkB p cs) = true → (graphOf p).any (badE cs) = false → verE p k cs = 0) := hid (fun q1 q2 => by unfold verE verB; rw [q1, q2, decide_eq_true hk1, decide_eq_true hlen]; rfl);have HN1 : Hid ((List.range p.obs.length).all (rkB p cs) = false → verE p k cs = 28) := hid (fun q1 => HNO.out (by unfold verB; rw [q1]; simp));have HN2 : Hid ((graphOf p).any (badE cs) = true → verE p k cs = 28) := hid (fun q1 => HNO.out (by unfold verB; rw [q1]; simp));have HLEN := hid hlen;have hlz : (cs.length : Int) = (p.obs.length : Int) := by rw [hlen]
   clear hk1 hlen HNO;have HLZ := hid hlz;clear hlz;have hB0 := hB2;go_upto_region 7 with fail;clear x0 x1 x2 b0 b1 hB2;go_loopw [7, 8, 32] (fun _ _ i wr => ∃ j : Nat, i = .int .i64 (j : Nat) ∧ j ≤ p.obs.length ∧ (List.range j).all (rkB p cs) = true ∧ Below w2.heap.size w2 wr) (fun _ _ i _ => p.obs.length - (intOf i).toNat)
   case atStart => exact ⟨0, rfl, by omega, rfl, Below.refl _ _⟩
   case round =>
    obtain ⟨j, rfl, hj, hall, hb⟩ := hrel;have HALL := hid hall;clear hall;have hj0 := zi j;have hwr := Wi j (by omega);have hzz := hb.size;by_cases hlt : j < p.obs.length
    ·have hd1 := Dt (show (j : Int) < p.obs.length by omega)
     have hd2 := Dt hlt;have hjl : (j : Int) < (p.obs.length : Int) := by omega
     have hjc : (j : Int) < (cs.length : Int) := by have := HLZ.out; omega
     obtain ⟨ob, oo, rfl, -, q0, q1, q2, q3⟩ := HOB.out wr (hT2.below.trans (hb.mono hT2.below.size)) j hlt;obtain ⟨x0, x1, x2⟩ := bx3 (hT2.next hb).fst;have HLT := hid hlt;obtain ⟨rb, roff, rfl, rj⟩ := (hB0.below hb (by omega)).rank (i := j) (by have := HLEN.out; omega)
     have HR0 := hid (show rkB p cs j = if lockB p.obs[j] then decide (0 < cs[j]'(by have := HLEN.out; omega)) else decide (cs[j]'(by have := HLEN.out; omega) = 0) by
      unfold rkB;rw [List.getD_eq_getElem?_getD, List.getElem?_eq_getElem hlt, List.getD_eq_getElem?_getD, List.getElem?_eq_getElem (by have := HLEN.out; omega)]; rfl)
     have HLK0 := hid (fun W => lock_any p.obs[j] W);unfold Ob.cells at HLK0;generalize p.obs[j] = oj at q0 q1 q2 q3 HR0 HLK0;generalize cs[j]'(by have := HLEN.out; omega) = z at rj HR0;clear hlt;go_upto_region 9 with fail;have hX := bx_new wr #[.string oj.name, .int .i64 oj.kind, .int .i64 oj.size, .int .i64 oj.other] 65;have hba := hb.trans (below_alloc2 hzz (.cells #[.string oj.name, .int .i64 oj.kind, .int .i64 oj.size, .int .i64 oj.other] 65));have hB : CBox (w.heap.size + 1) k (some ⟨rb, roff, none⟩) c cs (wr.alloc (.cells #[.string oj.name, .int .i64 oj.kind, .int .i64 oj.size, .int .i64 oj.other] 65)) := hB0.below hba (by omega);have r5 := ((below_alloc wr (.cells #[.string oj.name, .int .i64 oj.kind, .int .i64 oj.size, .int .i64 oj.other] 65)).cell (block_lt_of_cell rj)).trans rj;clear x0 x1 x2 q0 q1 q2 q3 rj hb;generalize wr.alloc _ = wa at hX hba hB r5 ⊢
     have y0 := fun d os => cell_regrown (w := wa) (hX 0 _ rfl) d os
     have y1 := fun d os => cell_regrown (w := wa) (hX 1 _ rfl) d os
     have y2 := fun d os => cell_regrown (w := wa) (hX 2 _ rfl) d os
     have y3 := fun d os => cell_regrown (w := wa) (hX 3 _ rfl) d os
     have y4 := fun d os => cell_regrown (w := wa) (hB.bx 1 _ rfl) d os
     have y5 := fun d os => cell_regrown (w := wa) r5 d os
     have y6 := y5;have y7 := y4;clear r5;have HLK := hid (fun d os => HLK0.out (grow (redrawn wa d) os));clear HLK0
     cases hlb : lockB oj with
     | true =>
      rw [hlb] at HR0 HLK;clear hlb;by_cases hz0 : 0 < z
      ·have c1 := Dt hz0
       have HRK : Hid (rkB p cs j = true) := hid (by rw [HR0.out]; simpa using hz0);clear hz0;refine wp_region_quiet_below (by kernel_rfl) (by kernel_rfl) ?_
       repeat (go_big_quiet_step (first | exact Calls.regrown_of (HLK.out _ _)))
       refine wpQuiet_nil ?_;rintro _ ⟨pq, rfl⟩;have hb5 := hba.trans ((below_regrown wa pq.d pq.os).mono hba.size);clear y0 y1 y2 y3 y4 y5 y6 y7 hB hX hba HLK;generalize grow (redrawn wa pq.d) pq.os = w5 at hb5 ⊢;go_wp2_with fail;go_round
       case rel => exact ⟨j + 1, rfl, by omega, by rw [List.range_succ, List.all_append, HALL.out]; simp [HRK.out], hb5⟩
       case measure => exact ms (by omega)
      ·have c1 := Df hz0
       have HRK : Hid (rkB p cs j = false) := hid (by rw [HR0.out]; simpa using hz0);clear hz0;have HVE := hid (HN1.out (List.all_eq_false.2 ⟨j, List.mem_range.2 HLT.out, by rw [HRK.out]; decide⟩));refine wp_region_quiet_below (by kernel_rfl) (by kernel_rfl) ?_
       repeat (go_big_quiet_step (first | exact Calls.regrown_of (HLK.out _ _)))
       refine wpQuiet_nil ?_;rintro _ ⟨pq, rfl⟩;have hb5 := hba.trans ((below_regrown wa pq.d pq.os).mono hba.size);clear y0 y1 y2 y3 y4 y5 y6 y7 hB hX hba HLK;generalize grow (redrawn wa pq.d) pq.os = w5 at hb5 ⊢;go_wp2_with fail;go_ret;exact ⟨by rw [HVE.out]; rfl, hT2.below.trans (hb5.mono hT2.below.size)⟩
     | false =>
      rw [hlb] at HR0 HLK;clear hlb;by_cases hz0 : 0 < z
      ·have c1 := Dt hz0
       have HRK : Hid (rkB p cs j = false) := hid (by rw [HR0.out]; simp; omega);clear hz0;have HVE := hid (HN1.out (List.all_eq_false.2 ⟨j, List.mem_range.2 HLT.out, by rw [HRK.out]; decide⟩));refine wp_region_quiet_below (by kernel_rfl) (by kernel_rfl) ?_
       repeat (go_big_quiet_step (first | exact Calls.regrown_of (HLK.out _ _)))
       refine wpQuiet_nil ?_;rintro _ ⟨pq, rfl⟩;have hb5 := hba.trans ((below_regrown wa pq.d pq.os).mono hba.size);clear y0 y1 y2 y3 y4 y5 y6 y7 hB hX hba HLK;generalize grow (redrawn wa pq.d) pq.os = w5 at hb5 ⊢;go_wp2_with fail;go_ret;exact ⟨by rw [HVE.out]; rfl, hT2.below.trans (hb5.mono hT2.below.size)⟩
      ·have c1 := Df hz0
       by_cases hz1 : z = 0
       ·have c2 : (z != 0) = false := by simpa using hz1
        have HRK : Hid (rkB p cs j = true) := hid (by rw [HR0.out]; simp; omega);clear hz0 hz1;refine wp_region_quiet_below (by kernel_rfl) (by kernel_rfl) ?_
        repeat (go_big_quiet_step (first | exact Calls.regrown_of (HLK.out _ _)))
        refine wpQuiet_nil ?_;rintro _ ⟨pq, rfl⟩;have hb5 := hba.trans ((below_regrown wa pq.d pq.os).mono hba.size);clear y0 y1 y2 y3 y4 y5 y6 y7 hB hX hba HLK;generalize grow (redrawn wa pq.d) pq.os = w5 at hb5 ⊢;go_wp2_with fail;go_round
        case rel => exact ⟨j + 1, rfl, by omega, by rw [List.range_succ, List.all_append, HALL.out]; simp [HRK.out], hb5⟩
        case measure => exact ms (by omega)
       ·have c2 : (z != 0) = true := by simpa using hz1
        have HRK : Hid (rkB p cs j = false) := hid (by rw [HR0.out]; simp; omega);clear hz0 hz1;have HVE := hid (HN1.out (List.all_eq_false.2 ⟨j, List.mem_range.2 HLT.out, by rw [HRK.out]; decide⟩));refine wp_region_quiet_below (by kernel_rfl) (by kernel_rfl) ?_
        repeat (go_big_quiet_step (first | exact Calls.regrown_of (HLK.out _ _)))
        refine wpQuiet_nil ?_;rintro _ ⟨pq, rfl⟩;have hb5 := hba.trans ((below_regrown wa pq.d pq.os).mono hba.size);clear y0 y1 y2 y3 y4 y5 y6 y7 hB hX hba HLK;generalize grow (redrawn wa pq.d) pq.os = w5 at hb5 ⊢;go_wp2_with fail;go_ret;exact ⟨by rw [HVE.out]; rfl, hT2.below.trans (hb5.mono hT2.below.size)⟩
    ·have hd1 := Df (show ¬ (j : Int) < p.obs.length by omega)
     have hd2 := Df hlt;have hjn : j = p.obs.length := by omega
     rw [hjn] at HALL;have HV := hid (verContains_any (w.heap.size + 1) k A c cs Ag Cg (graphOf p) (by omega) (by rw [HLEN.out]; exact hge) wr (hB0.below hb (by omega)) (by omega) (Rd.more (hE2.below hb) hb.size));unfold verVal at HV;go_wp2_with fail;refine HV.out.mono ?_;rintro e w5 ⟨rfl, hb5⟩;have hb6 := hT2.below.trans ((hb.trans (hb5.mono hzz)).mono hT2.below.size)
     cases hq : (graphOf p).any (badE cs) with
     | true =>
      have HVE := hid (HN2.out hq);clear hq;go_wp2_with fail;go_ret;exact ⟨by rw [HVE.out]; rfl, hb6⟩
     | false =>
      have HVE := hid (HOK.out HALL.out hq);clear hq;go_wp2_with fail;go_ret;exact ⟨by rw [HVE.out]; rfl, hb6⟩
  ·have e2 : ((cs.length : Int) != (p.obs.length : Int)) = true := by simp; omega
   have e3 : (cs.length != p.obs.length) = true := by simpa using hlen
   have HVE := hid (HNO.out (by unfold verB; rw [decide_eq_false hlen]; simp));clear hk1 hlen;go_wp2_with fail;go_ret;exact ⟨by rw [HVE.out]; rfl, hT2.below⟩
 ·have e1 : (k != 1) = true := by simpa using hk1
  have HVE := hid (HNO.out (by unfold verB; rw [decide_eq_false hk1]; rfl));clear hk1;go_wp2_with fail;go_ret;exact ⟨by rw [HVE.out]; rfl, hT2.below⟩
end
end Go.Proofs.YtkpjdanfpolimaaGreat
