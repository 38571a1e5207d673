/- LockorderGraph, walked: it returns true. Conditions: the program lies in memory, its numbers are 64-bit. -/
import Derived.Test.YtkpjdanfpolimaaGreatLgDgS
import Derived.Test.YtkpjdanfpolimaaGreatLgDgA
import Derived.Test.YtkpjdanfpolimaaGreatLgDg0
import Derived.Test.YtkpjdanfpolimaaGreatLgDg13
set_option maxRecDepth 100000
set_option maxHeartbeats 6400000
namespace Go.Proofs.YtkpjdanfpolimaaGreat
open Go.RowKit Go.Shelf
theorem graphR_same {p : Prg} {l l' : List (Nat × Nat)} {er er' : Int} (h : (prgOk p → er = 0 ∧ l = graphOf p) ∧ (¬ prgOk p → er = 1 ∧ l = [])) (h' : (prgOk p → er' = 0 ∧ l' = graphOf p) ∧ (¬ prgOk p → er' = 1 ∧ l' = [])) : l' = l ∧ er' = er ∧ l.length ≤ 2000 := by
 by_cases hv : prgOk p
 ·obtain ⟨rfl, rfl⟩ := h.1 hv
  obtain ⟨rfl, rfl⟩ := h'.1 hv;have := graph_len (wf_of hv).obs;exact ⟨rfl, rfl, by omega⟩
 ·obtain ⟨rfl, rfl⟩ := h.2 hv
  obtain ⟨rfl, rfl⟩ := h'.2 hv;exact ⟨rfl, rfl, by simp⟩
theorem heldL_len {p : Prg} (hW : Wf p) {f : Nat} (hf : f < p.funs.length) : (heldL p f).length ≤ 2000 ∧ ∀ c ∈ heldL p f, c.length ≤ 2000 := by
 have := hW.len f hf;refine ⟨by simp [heldL]; omega, fun c hc => ?_⟩;obtain ⟨i, -, rfl⟩ := List.mem_map.1 hc;unfold listE;split
 ·exact Nat.le_trans (listM_len _) (by omega)
 ·simp
theorem heldR_same {p : Prg} {f : Int} {l l' : List (List Nat)} {er er' : Int}
  (h : (¬ prgOk p → er = 1 ∧ l = []) ∧ (prgOk p → f < 0 ∨ (p.funs.length : Int) ≤ f → er = 2 ∧ l = []) ∧ (prgOk p → 0 ≤ f → f < (p.funs.length : Int) → er = 0 ∧ l = heldL p f.toNat))
  (h' : (¬ prgOk p → er' = 1 ∧ l' = []) ∧ (prgOk p → f < 0 ∨ (p.funs.length : Int) ≤ f → er' = 2 ∧ l' = []) ∧ (prgOk p → 0 ≤ f → f < (p.funs.length : Int) → er' = 0 ∧ l' = heldL p f.toNat)) :
  l' = l ∧ er' = er ∧ l.length ≤ 2000 ∧ ∀ c ∈ l, c.length ≤ 2000 := by
 by_cases hv : prgOk p
 ·by_cases hr : f < 0 ∨ (p.funs.length : Int) ≤ f
  ·obtain ⟨rfl, rfl⟩ := h.2.1 hv hr
   obtain ⟨rfl, rfl⟩ := h'.2.1 hv hr;exact ⟨rfl, rfl, by simp, by simp⟩
  ·obtain ⟨rfl, rfl⟩ := h.2.2 hv (by omega) (by omega)
   obtain ⟨rfl, rfl⟩ := h'.2.2 hv (by omega) (by omega);have := heldL_len (wf_of hv) (f := f.toNat) (by omega);exact ⟨rfl, rfl, this.1, this.2⟩
 ·obtain ⟨rfl, rfl⟩ := h.1 hv
  obtain ⟨rfl, rfl⟩ := h'.1 hv;exact ⟨rfl, rfl, by simp, by simp⟩
theorem Eds.at' {W W' : World} {A : Option Addr} {l : List (Nat × Nat)} (h : Eds W W.heap.size A l) (hb : Below W.heap.size W W') : Eds W' W'.heap.size A l := Rd.more (Rd.below h hb) hb.size
theorem NLs.at' {W W' : World} {A : Option Addr} {ls : List (List Nat)} (h : NLs W W.heap.size A ls) (hb : Below W.heap.size W W') : NLs W' W'.heap.size A ls := (h.below' hb (Nat.le_refl _)).more hb.size
theorem graphLaw_any (p : Prg) (hfit : Fits p) (f : Int) (w : World) (h : Lies w w.heap.size p) : Calls Tryz.prog 5 #[p.val, .int .i64 f] w (Ret (.bool true) w) := by
 have HGT := hid (fun (W : World) (hb : Below w.heap.size w W) => great_any p W (h.next hb));have HAW := hid (fun (W : World) => awake_any W);have HG1 := hid (fun (W : World) (hb : Below w.heap.size w W) => lograph_any p hfit W (h.next hb));have HG2 := hid (fun (W : World) (hb : Below w.heap.size w W) => rgraph_any p W (h.next hb));have HH1 := hid (fun (W : World) (hb : Below w.heap.size w W) => held_any p hfit f W (h.next hb));have HH2 := hid (fun (W : World) (hb : Below w.heap.size w W) => rheld_any p f W (h.next hb));unfold Prg.val at HGT HG1 HG2 HH1 HH2 ⊢;clear h hfit;have hT := one_new w #[.slice p.funA p.funs.length p.funC, .slice p.obA p.obs.length p.obC, .slice p.vrA p.vrs.length p.vrC] 26;go_enter Tryz.func5, Tryz.ntmps5;go_upto_region 1 with fail;generalize w.alloc _ = w1 at hT ⊢;obtain ⟨x0, x1, x2⟩ := bx3 hT.fst;go_wp2_with fail;refine (HGT.out w1 hT.below).mono ?_
 rintro e w2 ⟨b, rfl, hb2⟩;have hT2 := hT.next hb2;clear hT x0 x1 x2
 cases b with
 | true =>
  go_wp2_with fail;refine (HAW.out w2).mono ?_;rintro e w3 ⟨rfl, hb3⟩;have hT3 := hT2.next hb3;go_wp2_with fail;go_ret;exact ⟨rfl, hT3.below⟩
 | false =>
  obtain ⟨x0, x1, x2⟩ := bx3 hT2.fst;go_wp2_with fail;refine (HG1.out w2 hT2.below).mono ?_;rintro e w3 ⟨l1, A1, c1, r1, rfl, hE1, hb3, hd1⟩;have HD1 := hid hd1;have hT3 := hT2.next hb3;clear hT2 hb3 x0 x1 x2 hd1 HG1;obtain ⟨x0, x1, x2⟩ := bx3 hT3.fst;go_wp2_with fail;refine (HG2.out w3 hT3.below).mono ?_;rintro e w4 ⟨l2, A2, c2, r2, rfl, hE2, hb4, hd2⟩;obtain ⟨hl, hr, hlen⟩ := graphR_same HD1.out hd2;subst hl;subst hr;have hE1 := hE1.at' hb4;have hT4 := hT3.next hb4;clear hT3 hb4 x0 x1 x2 hd2 HG2 HD1;obtain ⟨x0, x1, x2⟩ := bx3 hT4.fst;go_wp2_with fail;refine (HH1.out w4 hT4.below).mono ?_;rintro e w5 ⟨l3, A3, c3, r3, rfl, hN3, hb5, hd3⟩;have HD3 := hid hd3;have hE1 := hE1.at' hb5;have hE2 := hE2.at' hb5;have hT5 := hT4.next hb5;clear hT4 hb5 x0 x1 x2 hd3 HH1;obtain ⟨x0, x1, x2⟩ := bx3 hT5.fst;go_wp2_with fail;refine (HH2.out w5 hT5.below).mono ?_
  rintro e w6 ⟨l4, A4, c4, r4, rfl, hN4, hb6, hd4⟩;obtain ⟨hl, hr, hlen3, hin3⟩ := heldR_same HD3.out hd4;subst hl;subst hr;have hE1 := hE1.at' hb6;have hE2 := hE2.at' hb6;have hN3 := hN3.at' hb6;have hT6 := hT5.next hb6;clear hT5 hb6 x0 x1 x2 hd4 HH2 HD3;have HEQ := hid (edEqual_same A1 c1 A2 c2 l2 hlen w6 hE1 hE2);have HSL := hid (fun (W : World) (hb : Below w6.heap.size w6 W) => sameLists_same A3 c3 A4 c4 l4 hlen3 hin3 W (hN3.at' hb) (hN4.at' hb));have e1 : (r2 == r2) = true := by simp
  have e2 : (r4 == r4) = true := by simp
  clear hE1 hE2 hN3 hN4 hlen hlen3 hin3;go_wp2_with fail;refine HEQ.out.mono ?_;rintro e w7 ⟨rfl, hb7⟩;have hT7 := hT6.next hb7;have HS7 := hid (HSL.out w7 hb7);clear hT6 hb7 HEQ HSL;go_wp2_with fail;refine HS7.out.mono ?_;rintro e w8 ⟨rfl, hb8⟩;have hT8 := hT7.next hb8;clear hT7 hb8 HS7;go_wp2_with fail;refine (HAW.out w8).mono ?_;rintro e w9 ⟨rfl, hb9⟩;have hT9 := hT8.next hb9;go_wp2_with fail;go_ret;exact ⟨rfl, hT9.below⟩
end Go.Proofs.YtkpjdanfpolimaaGreat
