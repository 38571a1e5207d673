/- program.ascending, walked; rows of integers of a call's own. Conditions: no element is -1. · program.Next at a valid place, walked. Conditions: the program lies in memory, it is valid. -/
import Derived.Test.YtkpjdanfpolimaaGreatLsShelf
import Derived.Test.YtkpjdanfpolimaaGreatLsLoW
set_option maxRecDepth 100000
set_option maxHeartbeats 3200000
section
namespace Go.Proofs.YtkpjdanfpolimaaGreat
open Go.RowKit Go.Shelf Go.Sort
abbrev encZ : Int → Value := Value.int .i64
theorem below_putRow {B : Nat} (w : World) (q g off : Nat) (d : Array Int) (h : B ≤ g) : Below B w (putRow encZ (Sort.ahead w q) g off d) := by
 refine ⟨rfl, rfl, rfl, by simp, fun k hk => ?_⟩
 show (putRow encZ (Sort.ahead w q) g off d).heap[k]? = w.heap[k]?
 unfold putRow mapBlock
 simp only [Array.getElem?_modify]
 rw [if_neg (by omega)]
 rfl
theorem below_sgrow {B : Nat} {w0 w : World} (h : Below B w0 w) (os : Array Obj) (hB : B ≤ w.heap.size) : Below B w0 (Go.Sort.grow w os) := by
 refine h.trans ⟨rfl, rfl, rfl, by simp, fun k hk => heap_grow_old _ _ (by omega)⟩
theorem holds_take {w : World} {g off : Nat} {l r : List Int} (h : Holds encZ w g off (l ++ r).toArray) : Holds encZ w g off l.toArray := by
 intro j hj
 have hj2 : j < l.length := by simpa using hj
 have := h j (by simp; omega)
 have e : (l ++ r).toArray[j]! = l.toArray[j]! := by simp [hj2, List.getElem?_append_left hj2]
 rwa [e] at this
theorem holds_own {w : World} {base n : Nat} {v : Value} {l : List Int} (h : w.ownsRow base 3 1 v n (l.map (Value.int .i64))) (hv : v ≠ .slice none 0 0) : ∃ g cap, v = .slice (some ⟨g, 0, none⟩) l.length cap ∧ base ≤ g ∧ g < w.heap.size ∧ l.length ≤ cap ∧ Holds encZ w g 0 l.toArray := by
 obtain ⟨hl, h | ⟨g, cap, cur, rfl, hb, hg, hn, hcap, hcs, hcur⟩⟩ := h
 ·exact absurd h.1 hv
 ·rw [List.length_map] at hl
  have hnl : n = l.length := by omega
  subst hnl
  refine ⟨g, cap, rfl, hb, (Array.getElem?_eq_some_iff.1 hg).1, hn, fun j hj => ?_⟩
  have hj2 : j < l.length := by simpa using hj
  constructor
  ·simp only [World.cell?, hg, Nat.zero_add]
   have e : (cur.toList.take (l.length * 1))[j]? = (l.map (Value.int .i64))[j]? := by rw [hcur]
   rw [List.getElem?_take_of_lt (by omega)] at e
   have e2 : cur[j]? = (l.map (Value.int .i64))[j]? := by simpa using e
   simp [e2, hj2]
  ·simp [World.frozen?, hg]
theorem compact_le (zs : List Int) : (Lib.compact zs).length ≤ zs.length := by
 unfold Lib.compact Lib.compactUpTo
 rw [List.length_map]
 exact Nat.le_trans (List.length_filter_le _ _) (by rw [List.length_range]; omega)
/-- What ascending makes of a list. -/
def ascM (l : List Int) : List Int := Lib.compact (l.mergeSort fun x y => decide (x ≤ y))
theorem isM1 (x : Int) (w : World) : FnGives Tryz.prog 130 #[] #[.int .i64 x] (.bool (x == -1)) w := by
 show Calls Tryz.prog 130 #[.int .i64 x] w _
 go_enter Tryz.func130, Tryz.ntmps130
 go_wp2_with fail
 go_ret
 exact ⟨rfl, 0, rfl⟩
theorem holds_cells {w : World} {b off : Nat} {zs : List Int} (h : Holds encZ w b off zs.toArray) (j : Nat) (hj : j < zs.length) : w.cell? ⟨b, off + j, none⟩ = some (.int .i64 (zs.getD j 0)) := by
 have := (h j (by simpa using hj)).1
 rw [this]
 simp [List.getD, hj, encZ]
theorem asc_some (b off c : Nat) (zs : List Int) (w : World) (hn : zs.length ≤ 1000) (hm : ∀ x ∈ zs, x ≠ -1) (hc : Holds encZ w b off zs.toArray) :
  Calls Tryz.prog 113 #[.slice (some ⟨b, off, none⟩) zs.length c] w fun e W => ∃ g cap, e = .returned (.slice (some ⟨g, 0, none⟩) (ascM zs).length cap) ∧ w.heap.size ≤ g ∧ g < W.heap.size ∧ Holds encZ W g 0 (ascM zs).toArray ∧ Below w.heap.size w W := by
 have hcl := Tryz.slices_Clone_int b off zs.length c zs w (Nat.le_refl _) (by omega) (holds_cells hc)
 have hdel := fun (g cap : Nat) (W : World) (hH : Holds encZ W g 0 zs.toArray) (hcap : zs.length ≤ cap) =>
  Tryz.slices_DeleteFunc encZ (fun _ => rfl) (fun x => x == -1) 130 #[] (enters_of Tryz.func130 (by kernel_rfl) rfl) 0 Tryz.zeroValue3 g 0 cap zs.toArray W (fun W x _ => isM1 x W) (fun n os dk x _ => isM1 x _) hH (by simp; omega) (by simpa using hcap)
 have hfi : zs.filter (fun x => !(x == -1)) = zs := List.filter_eq_self.2 (fun x hx => by simpa using hm x hx)
 simp only [hfi, List.size_toArray, Nat.sub_self, List.replicate_zero, List.append_nil] at hdel
 have hso := fun (g cap : Nat) (W : World) (hH : Holds encZ W g 0 zs.toArray) (hg : g < W.heap.size) => Tryz.slices_Sort_int g 0 cap zs W hH hg (by omega)
 have hsl : (zs.mergeSort fun x y => decide (x ≤ y)).length = zs.length := List.length_mergeSort _
 have hco := fun (g cap : Nat) (W : World) (hH : Holds encZ W g 0 (zs.mergeSort fun x y => decide (x ≤ y)).toArray) (hcap : zs.length ≤ cap) => Tryz.slices_Compact_int g 0 cap (zs.mergeSort fun x y => decide (x ≤ y)) W hH (by rw [hsl]; omega) (by rw [hsl]; exact hcap)
 rw [hsl] at hco
 have HCL := Lib.hid hcl
 have HDEL := Lib.hid hdel
 have HSO := Lib.hid hso
 have HCO := Lib.hid hco
 have HSL := Lib.hid hsl
 clear hcl hdel hso hco hfi hc hm hsl
 unfold ascM
 generalize hzz : zs.mergeSort (fun x y => decide (x ≤ y)) = zz at HSO HCO HSL ⊢
 have HZZ := Lib.hid hzz
 clear hzz
 go_enter Tryz.func113, Tryz.ntmps113
 go_wp2_with fail
 refine (HCL.out).mono ?_
 rintro e W1 ⟨v, rfl, hown, hv, hb1⟩
 rw [List.take_length] at hown
 obtain ⟨g, cap, rfl, hg0, hg1, hcap, hH⟩ := holds_own hown hv
 clear hown hv
 go_wp2_with fail
 refine (HDEL.out g cap W1 hH hcap).mono ?_
 rintro e W2 ⟨rfl, q, rfl⟩
 have hH2 := holds_putRow encZ (Sort.ahead W1 q) g 0 zs.toArray zs.toArray hH rfl
 have hb2 : Below w.heap.size w (putRow encZ (Sort.ahead W1 q) g 0 zs.toArray) := hb1.trans (below_putRow W1 q g 0 _ hg0)
 have hg2 : g < (putRow encZ (Sort.ahead W1 q) g 0 zs.toArray).heap.size := by simpa using hg1
 generalize putRow encZ (Sort.ahead W1 q) g 0 zs.toArray = W2 at hH2 hb2 hg2 ⊢
 go_wp2_with fail
 refine (HSO.out g cap W2 hH2 hg2).mono ?_
 rintro e W3 ⟨rfl, q3, os, rfl⟩
 have hH3 := holds_grow encZ _ os g 0 _ (by simpa using hg2) (holds_putRow encZ (Sort.ahead W2 q3) g 0 zs.toArray zz.toArray hH2 (by simp [HSL.out]))
 have hb3 : Below w.heap.size w (Go.Sort.grow (putRow encZ (Sort.ahead W2 q3) g 0 zz.toArray) os) := below_sgrow (hb2.trans (below_putRow W2 q3 g 0 _ hg0)) os (by have := hb2.size; simp; omega)
 have hg3 : g < (Go.Sort.grow (putRow encZ (Sort.ahead W2 q3) g 0 zz.toArray) os).heap.size := by simp; omega
 generalize Go.Sort.grow (putRow encZ (Sort.ahead W2 q3) g 0 zz.toArray) os = W3 at hH3 hb3 hg3 ⊢
 go_wp2_with fail
 refine (HCO.out g cap W3 hH3 hcap).mono ?_
 rintro e W4 ⟨rfl, q4, rfl⟩
 go_wp2_with fail
 go_ret
 refine ⟨g, cap, rfl, hg0, by simpa using hg3, holds_take (holds_putRow encZ (Sort.ahead W3 q4) g 0 zz.toArray _ hH3 ?_), hb3.trans (below_putRow W3 q4 g 0 _ hg0)⟩
 have := compact_le zz
 have := HSL.out
 simp
 omega
end Go.Proofs.YtkpjdanfpolimaaGreat
end
section
namespace Go.Proofs.YtkpjdanfpolimaaGreat
open Go.RowKit Go.Shelf Go.Sort
theorem asc2_eq (l : List Nat) (hl : l.length ≤ 2) : ascM (nats l) = nats (asc2 l) := by
 match l, hl with
 | [], _ => simp [ascM, nats, asc2, Lib.compact, Lib.compactUpTo]
 | [x], _ => simp [ascM, nats, asc2, Lib.compact, Lib.compactUpTo, Lib.keeps]
 | [x, y], _ =>
  by_cases h1 : x = y
  ·subst h1
   simp [ascM, nats, asc2, Lib.compact, Lib.compactUpTo, Lib.keeps, List.mergeSort, List.range, List.range.loop]
  ·by_cases h2 : x < y
   ·have h3 : (x : Int) ≤ (y : Int) := by omega
    have h4 : Lib.keeps #[(x : Int), (y : Int)] 1 = true := by simp [Lib.keeps]; omega
    simp [ascM, nats, asc2, Lib.compact, Lib.compactUpTo, Lib.keeps, List.mergeSort, List.range, List.range.loop, h1, h2, h3]
    exact ⟨1, by rw [List.filter_cons_of_pos h4]; rfl, rfl⟩
   ·have h3 : ¬ (x : Int) ≤ (y : Int) := by omega
    have h4 : Lib.keeps #[(y : Int), (x : Int)] 1 = true := by simp [Lib.keeps]; omega
    simp [ascM, nats, asc2, Lib.compact, Lib.compactUpTo, Lib.keeps, List.mergeSort, List.range, List.range.loop, h1, h2, h3]
    exact ⟨1, by rw [List.filter_cons_of_pos h4]; rfl, rfl⟩
theorem filter_nats (l : List Nat) (m : Nat) : (nats l).filter (fun x => !decide ((m : Int) ≤ x)) = nats (l.filter (fun n => decide (n < m))) := by
 unfold nats
 induction l with
 | nil => rfl
 | cons x r ih =>
  rw [List.map_cons, List.filter_cons, List.filter_cons, ih]
  by_cases h : x < m
  ·have e1 : ¬ (m : Int) ≤ (x : Int) := by omega
   simp [h, e1]
  ·have e1 : (m : Int) ≤ (x : Int) := by omega
   simp [h, e1]
theorem next_eq (p : Prg) (f k : Nat) : ascM ((nats (nextRaw (p.ins f k) k)).filter (fun x => !decide ((p.len f : Int) ≤ x))) = nats (nextM p f k) := by
 rw [filter_nats, asc2_eq]
 ·rfl
 ·refine Nat.le_trans (List.length_filter_le _ _) ?_
  unfold nextRaw
  split
  ·simp
  ·split
   ·simp
   ·split
    ·simp
    ·split <;> simp
theorem behindEnd (p : Prg) (P F b off f m : Nat) (c : Nat) (A : Option Addr) (x : Int) (W : World) (h0 : W.cell? ⟨P, 0, none⟩ = some (.slice (some ⟨b, off, none⟩) p.funs.length p.funC)) (h1 : W.cell? ⟨F, 0, none⟩ = some (.int .i64 f)) (h2 : W.cell? ⟨b, off + f * 6 + 5, none⟩ = some (.slice A m c)) (hf : f < p.funs.length) :
  FnGives Tryz.prog 115 #[.pointer (some ⟨P, 0, none⟩), .pointer (some ⟨F, 0, none⟩)] #[.int .i64 x] (.bool (decide ((m : Int) ≤ x))) W := by
 show Calls Tryz.prog 115 #[.int .i64 x, .pointer (some ⟨P, 0, none⟩), .pointer (some ⟨F, 0, none⟩)] W _
 have f0 : (0 : Int) ≤ (f : Int) := by omega
 have f1 : (f : Int) < (p.funs.length : Int) := by omega
 go_enter Tryz.func115, Tryz.ntmps115
 go_wp2_with fail
 go_ret
 exact ⟨rfl, 0, rfl⟩
/-- slices.DeleteFunc as Next calls it. -/
theorem del_next (p : Prg) (P F b off f m c : Nat) (A : Option Addr) (g cap : Nat) (zs : List Int) (W : World) (h0 : W.cell? ⟨P, 0, none⟩ = some (.slice (some ⟨b, off, none⟩) p.funs.length p.funC)) (h1 : W.cell? ⟨F, 0, none⟩ = some (.int .i64 f)) (h2 : W.cell? ⟨b, off + f * 6 + 5, none⟩ = some (.slice A m c)) (hf : f < p.funs.length) (hP : P < g) (hF : F < g) (hb : b < g)
  (hg : g < W.heap.size) (hH : Holds encZ W g 0 zs.toArray) (hcap : zs.length ≤ cap) (hz : zs.length ≤ 1000) :
  Calls Tryz.prog 114 #[.slice (some ⟨g, 0, none⟩) zs.length cap, .func (.func 115) #[] #[.pointer (some ⟨P, 0, none⟩), .pointer (some ⟨F, 0, none⟩)]] W fun e W' => e = .returned (.slice (some ⟨g, 0, none⟩) (zs.filter fun x => !decide ((m : Int) ≤ x)).length cap) ∧ Holds encZ W' g 0 (zs.filter fun x => !decide ((m : Int) ≤ x)).toArray ∧ Below g W W' := by
 have hcon := Tryz.slices_DeleteFunc encZ (fun _ => rfl) (fun x => decide ((m : Int) ≤ x)) 115 #[.pointer (some ⟨P, 0, none⟩), .pointer (some ⟨F, 0, none⟩)] (enters_of Tryz.func115 (by kernel_rfl) rfl) 0 Tryz.zeroValue3 g 0 cap zs.toArray W
  (fun W' x hb' => behindEnd p P F b off f m c A x W' ((hb'.cell (p := ⟨P, 0, none⟩) (by show P < _; omega)).trans h0) ((hb'.cell (p := ⟨F, 0, none⟩) (by show F < _; omega)).trans h1) ((hb'.cell (p := ⟨b, off + f * 6 + 5, none⟩) (by show b < _; omega)).trans h2) hf)
  (fun n os dk x _ => by
   have hk : ∀ (a : Addr) (v : Value), a.block < g → W.cell? a = some v → (sortWorld encZ W g 0 n dk os).cell? a = some v := fun a v ha hv => by
    unfold sortWorld
    rw [cell?_grow _ _ _ (by rw [size_putRow]; show a.block < W.heap.size; omega), cell?_putRow_other _ _ g 0 _ _ (.inl (by omega))]
    exact hv
   exact behindEnd p P F b off f m c A x _ (hk _ _ hP h0) (hk _ _ hF h1) (hk _ _ hb h2) hf) hH (by simp; omega) (by simpa using hcap)
 refine hcon.mono ?_
 rintro e W' ⟨rfl, q, rfl⟩
 refine ⟨rfl, holds_take (holds_putRow encZ (Sort.ahead W q) g 0 zs.toArray _ hH ?_), below_putRow W q g 0 _ (Nat.le_refl _)⟩
 have := List.length_filter_le (fun x => !decide ((m : Int) ≤ x)) zs
 simp
 omega
theorem holds_new (W : World) (zs : List Int) : Holds encZ (W.alloc (.cells (zs.map encZ).toArray 3)) W.heap.size 0 zs.toArray := by
 intro j hj
 have hj2 : j < zs.length := by simpa using hj
 constructor
 ·simp only [World.cell?, World.alloc_heap_new, Nat.zero_add]
  simp [hj2]
 ·simp only [World.frozen?, World.alloc_heap_new]
  simp
theorem rd_holds {W : World} {g : Nat} {l : List Int} (h : Holds encZ W g 0 l.toArray) (hg : g < W.heap.size) : Rd W W.heap.size 1 (some ⟨g, 0, none⟩) l.length (i64s l) := by
 refine ⟨by simp [i64s], .inr ⟨g, 0, rfl, hg, fun j u hu => ?_⟩⟩
 have hj : j < l.length := by
  rcases Nat.lt_or_ge j l.length with h9 | h9
  ·exact h9
  ·rw [List.getElem?_eq_none (by simp [i64s]; omega)] at hu; cases hu
 have := (h j (by simpa using hj)).1
 rw [this, ← hu]
 simp [i64s, hj, encZ]
theorem del_nil (fv : Value) (W : World) : Calls Tryz.prog 114 #[.slice none 0 0, fv] W fun e W' => e = .returned (.slice none 0 0) ∧ W' = W := by
 have HI := Lib.hid (Tryz.slices_IndexFunc_empty (α := Int) none 0 fv W)
 go_enter Tryz.func114, Tryz.ntmps114
 go_wp2_with fail
 refine (HI.out).mono ?_
 rintro e W1 ⟨rfl, rfl⟩
 go_wp2_with fail
 go_ret
 exact ⟨rfl, rfl⟩
theorem asc_nil (W : World) : Calls Tryz.prog 113 #[.slice none 0 0] W fun e W' => e = .returned (.slice none 0 0) ∧ W' = W := by
 have H1 := Lib.hid (Tryz.slices_Clone_int_nil 0 0 W)
 have H2 := Lib.hid (fun fv => del_nil fv W)
 have H3 := Lib.hid (Tryz.slices_Sort_int_none none 0 W)
 have H4 := Lib.hid (Tryz.slices_Compact_int_empty none 0 W)
 go_enter Tryz.func113, Tryz.ntmps113
 go_wp2_with fail
 refine (H1.out).mono ?_
 rintro e W1 ⟨rfl, rfl⟩
 go_wp2_with fail
 refine (H2.out _).mono ?_
 rintro e W1 ⟨rfl, rfl⟩
 go_wp2_with fail
 refine (H3.out).mono ?_
 rintro e W1 ⟨rfl, rfl⟩
 go_wp2_with fail
 refine (H4.out).mono ?_
 rintro e W1 ⟨rfl, rfl⟩
 go_wp2_with fail
 go_ret
 exact ⟨rfl, rfl⟩
/-- A list of integers comes back; nothing that lay in memory before has changed. -/
def RetI (l : List Int) (w : World) : Ending → World → Prop := fun e W => ∃ A c, e = .returned (.slice A l.length c) ∧ Rd W W.heap.size 1 A l.length (i64s l) ∧ (∀ b o : Nat, A = some ⟨b, o, none⟩ → w.heap.size ≤ b) ∧ Below w.heap.size w W
theorem next_ok (p : Prg) (hfit : Fits p) (hv : prgOk p) (w : World) (h : Lies w w.heap.size p) (f k : Nat) (hf : f < p.funs.length) (hk : k < p.len f) : Calls Tryz.prog 88 #[p.val, .int .i64 f, .int .i64 k] w (RetI (nats (nextM p f k)) w) := by
 have hW := wf_of hv
 have hI := hW.ins f k hf hk
 have hl := hW.len f hf
 obtain ⟨b, off, b2, off2, hA, hb, hb2, -, d5, q0, q1, q2, q3, q4⟩ := h.at_ hf hk
 have hchk := fun (W : World) (hb : Below w.heap.size w W) => check_ok p hfit hv W (h.next hb)
 have HNE := Lib.hid (next_eq p f k)
 have f0 : (0 : Int) ≤ (f : Int) := by omega
 have f1 : (f : Int) < (p.funs.length : Int) := by omega
 have k0 : (0 : Int) ≤ (k : Int) := by omega
 have k1 : (k : Int) < (p.len f : Int) := by omega
 have kw : IntKind.i64.wrap ((k : Int) + 1) = (k : Int) + 1 := by rw [IntKind.wrap_i64]; omega
 have HDN := Lib.hid (fun (P F : Nat) (g cap : Nat) (zs : List Int) (W : World) => del_next p P F b off f (p.len f) (p.fn f).codeC (some ⟨b2, off2, none⟩) g cap zs W)
 generalize hi : p.ins f k = i at q0 q1 q2 q3 q4 hI HNE
 obtain ⟨op, a, bb, c, args, argA, argC⟩ := i
 dsimp only at q0 q1 q2 q3 q4
 have hT := two_new w #[.slice p.funA p.funs.length p.funC, .slice p.obA p.obs.length p.obC, .slice p.vrA p.vrs.length p.vrC] #[.int .i64 f] 26 3
 unfold Prg.val at hchk ⊢
 rw [hA] at hchk hT ⊢
 have HCHK := Lib.hid hchk
 have HI := Lib.hid hI
 clear hchk hI hi h hA
 generalize args.length = N at q4
 go_enter Tryz.func88, Tryz.ntmps88
 go_upto_region 1 with fail
 generalize World.alloc (World.alloc w _) _ = W1 at hT ⊢
 obtain ⟨x0, x1, x2⟩ := bx3 hT.fst
 go_wp2_with fail
 refine (HCHK.out _ hT.below).mono ?_
 rintro e W2 ⟨rfl, hb3⟩
 have hT2 := hT.next hb3
 clear x0 x1 x2 hT hb3
 obtain ⟨x0, x1, x2⟩ := bx3 hT2.fst
 have y0 := hT2.snd 0 _ rfl
 have D5 := (hT2.below.cell (p := ⟨b, off + f * 6 + 5, none⟩) hb).trans d5
 have Q0 := (hT2.below.cell (p := ⟨b2, off2 + k * 5, none⟩) hb2).trans q0
 have Q1 := (hT2.below.cell (p := ⟨b2, off2 + k * 5 + 1, none⟩) hb2).trans q1
 have Q2 := (hT2.below.cell (p := ⟨b2, off2 + k * 5 + 2, none⟩) hb2).trans q2
 have Q3 := (hT2.below.cell (p := ⟨b2, off2 + k * 5 + 3, none⟩) hb2).trans q3
 have Q4 := (hT2.below.cell (p := ⟨b2, off2 + k * 5 + 4, none⟩) hb2).trans q4
 clear d5 q0 q1 q2 q3 q4
 go_upto_region 4 with fail
 have hx := bx_new W2 #[.int .i64 op, .int .i64 a, .int .i64 bb, .int .i64 c, .slice argA N argC] 63
 have hb5 := below_alloc W2 (.cells #[.int .i64 op, .int .i64 a, .int .i64 bb, .int .i64 c, .slice argA N argC] 63)
 have hz : W2.heap.size < (World.alloc W2 (.cells #[.int .i64 op, .int .i64 a, .int .i64 bb, .int .i64 c, .slice argA N argC] 63)).heap.size := by simp
 have hT5 := hT2.next hb5
 have D6 := (hb5.cell (p := ⟨b, off + f * 6 + 5, none⟩) (by have := hT2.size; show b < _; omega)).trans D5
 have hG := hT2.size
 clear x0 x1 x2 y0 D5 Q0 Q1 Q2 Q3 Q4 hT2 hb5
 generalize World.alloc W2 _ = W5 at hx hT5 D6 hz ⊢
 generalize W2.heap.size = G at hx hz hG ⊢
 obtain ⟨z0, z1, z2, z3, -⟩ := bx5 hx
 have HBS := Lib.hid (show b < G by omega)
 have HPW := Lib.hid (show w.heap.size + 1 < G by omega)
 by_cases h16 : op = 16 ∨ op = 21
 ·have hR : nextM p f k = [] := by
   have h9 := HNE.out
   have hr : nextRaw ⟨op, a, bb, c, args, argA, argC⟩ k = [] := by unfold nextRaw; rw [if_pos h16]
   rw [hr] at h9
   have h8 : nats (nextM p f k) = [] := by rw [← h9]; simp [nats, ascM, Lib.compact, Lib.compactUpTo]
   unfold nats at h8
   exact List.map_eq_nil_iff.1 h8
  have HR := Lib.hid hR
  have H1 := Lib.hid (fun fv => del_nil fv W5)
  have H2 := Lib.hid (asc_nil W5)
  clear hR HNE
  rcases h16 with rfl | rfl
  ·go_wp2_with fail
   refine (H1.out _).mono ?_
   rintro e W7 ⟨rfl, rfl⟩
   go_wp2_with fail
   refine (H2.out).mono ?_
   rintro e W7 ⟨rfl, rfl⟩
   go_wp2_with fail
   go_ret
   exact ⟨none, 0, by rw [HR.out]; rfl, by rw [HR.out]; exact Rd.nil_, (fun _ _ e => by cases e), hT5.below⟩
  ·go_wp2_with fail
   refine (H1.out _).mono ?_
   rintro e W7 ⟨rfl, rfl⟩
   go_wp2_with fail
   refine (H2.out).mono ?_
   rintro e W7 ⟨rfl, rfl⟩
   go_wp2_with fail
   go_ret
   exact ⟨none, 0, by rw [HR.out]; rfl, by rw [HR.out]; exact Rd.nil_, (fun _ _ e => by cases e), hT5.below⟩
 ·by_cases h13 : op = 13
  ·subst h13
   have ha := (HI.out.jump rfl).1
   dsimp only at ha
   have hR : nats (nextRaw ⟨13, a, bb, c, args, argA, argC⟩ k) = [a] := by unfold nextRaw nats; rw [if_neg (by simp), if_pos rfl]; simp; omega
   have hE := HNE.out
   rw [hR] at hE
   have HE := Lib.hid hE
   have HPOS := Lib.hid (show ∀ x ∈ ([a] : List Int), 0 ≤ x from fun x hx => by have := hR ▸ hx; unfold nats at this; obtain ⟨y, -, rfl⟩ := List.mem_map.1 this; omega)
   clear hE hR HNE
   have hH := holds_new W5 [a]
   have hb6 := below_alloc W5 (.cells ([a].map encZ).toArray 3)
   have hg6 : W5.heap.size < (World.alloc W5 (.cells ([a].map encZ).toArray 3)).heap.size := by simp
   have hT6 := hT5.next hb6
   have D7 := (hb6.cell (p := ⟨b, off + f * 6 + 5, none⟩) (by have := HBS.out; show b < _; omega)).trans D6
   simp only [List.map_cons, List.map_nil, encZ] at hH hg6 hT6 D7
   clear hb6
   go_upto_region 15 with fail
   clear z0 z1 z2 z3
   generalize World.alloc W5 _ = W6 at hH hg6 hT6 D7 ⊢
   generalize W5.heap.size = V at hH hg6 hz ⊢
   obtain ⟨x0, -, -⟩ := bx3 hT6.fst
   have y0 := hT6.snd 0 _ rfl
   have HCALL := Lib.hid (HDN.out w.heap.size (w.heap.size + 1) V 1 [a] W6 x0 y0 D7 hf (by have := HPW.out; omega) (by have := HPW.out; omega) (by have := HBS.out; omega) hg6 hH (by simp) (by simp))
   have HLE := Lib.hid (Nat.le_trans (List.length_filter_le (fun x => !decide ((p.len f : Int) ≤ x)) [a]) (by simp : ([a] : List Int).length ≤ 1000))
   have HNO := Lib.hid (fun x (hx : x ∈ [a].filter (fun x => !decide ((p.len f : Int) ≤ x))) => (by have := HPOS.out x (List.mem_filter.1 hx).1; omega : x ≠ -1))
   generalize hzf : [a].filter (fun x => !decide ((p.len f : Int) ≤ x)) = l at HCALL HLE HNO HE
   have hvb : w.heap.size ≤ V := by have := HPW.out; omega
   clear hzf x0 y0 D7 hH hT5 D6 hx HPOS
   go_wp2_with fail
   refine (HCALL.out).mono ?_
   rintro e W7 ⟨rfl, hH7, hb7⟩
   have hbw := hT6.below.trans (hb7.mono hvb)
   have HAS := Lib.hid (asc_some V 0 1 l W7 HLE.out HNO.out hH7)
   clear hT6 hH7 hb7
   go_wp2_with fail
   refine (HAS.out).mono ?_
   rintro e W8 ⟨g, cap8, rfl, hg0, hg1, hH8, hb8⟩
   go_wp2_with fail
   go_ret
   refine ⟨some ⟨g, 0, none⟩, cap8, ?_, ?_, (fun b o e => by injection e with e; injection e with e1 e2; subst e1; exact Nat.le_trans hbw.size hg0), hbw.trans (hb8.mono hbw.size)⟩
   ·rw [← HE.out]; rfl
   ·rw [← HE.out]; exact rd_holds hH8 hg1
  ·by_cases h14 : op = 14
   ·subst h14
    have ha := (HI.out.cond rfl).1
    dsimp only at ha
    have hR : nats (nextRaw ⟨14, a, bb, c, args, argA, argC⟩ k) = [(k : Int) + 1, bb] := by unfold nextRaw nats; rw [if_neg (by simp), if_neg (by simp), if_pos rfl]; simp; omega
    have hE := HNE.out
    rw [hR] at hE
    have HE := Lib.hid hE
    have HPOS := Lib.hid (show ∀ x ∈ ([(k : Int) + 1, bb] : List Int), 0 ≤ x from fun x hx => by have := hR ▸ hx; unfold nats at this; obtain ⟨y, -, rfl⟩ := List.mem_map.1 this; omega)
    clear hE hR HNE
    have hH := holds_new W5 [(k : Int) + 1, bb]
    have hb6 := below_alloc W5 (.cells ([(k : Int) + 1, bb].map encZ).toArray 3)
    have hg6 : W5.heap.size < (World.alloc W5 (.cells ([(k : Int) + 1, bb].map encZ).toArray 3)).heap.size := by simp
    have hT6 := hT5.next hb6
    have D7 := (hb6.cell (p := ⟨b, off + f * 6 + 5, none⟩) (by have := HBS.out; show b < _; omega)).trans D6
    simp only [List.map_cons, List.map_nil, encZ] at hH hg6 hT6 D7
    clear hb6
    go_upto_region 15 with fail
    clear z0 z1 z2 z3
    generalize World.alloc W5 _ = W6 at hH hg6 hT6 D7 ⊢
    generalize W5.heap.size = V at hH hg6 hz ⊢
    obtain ⟨x0, -, -⟩ := bx3 hT6.fst
    have y0 := hT6.snd 0 _ rfl
    have HCALL := Lib.hid (HDN.out w.heap.size (w.heap.size + 1) V 2 [(k : Int) + 1, bb] W6 x0 y0 D7 hf (by have := HPW.out; omega) (by have := HPW.out; omega) (by have := HBS.out; omega) hg6 hH (by simp) (by simp))
    have HLE := Lib.hid (Nat.le_trans (List.length_filter_le (fun x => !decide ((p.len f : Int) ≤ x)) [(k : Int) + 1, bb]) (by simp : ([(k : Int) + 1, bb] : List Int).length ≤ 1000))
    have HNO := Lib.hid (fun x (hx : x ∈ [(k : Int) + 1, bb].filter (fun x => !decide ((p.len f : Int) ≤ x))) => (by have := HPOS.out x (List.mem_filter.1 hx).1; omega : x ≠ -1))
    generalize hzf : [(k : Int) + 1, bb].filter (fun x => !decide ((p.len f : Int) ≤ x)) = l at HCALL HLE HNO HE
    have hvb : w.heap.size ≤ V := by have := HPW.out; omega
    clear hzf x0 y0 D7 hH hT5 D6 hx HPOS
    go_wp2_with fail
    refine (HCALL.out).mono ?_
    rintro e W7 ⟨rfl, hH7, hb7⟩
    have hbw := hT6.below.trans (hb7.mono hvb)
    have HAS := Lib.hid (asc_some V 0 2 l W7 HLE.out HNO.out hH7)
    clear hT6 hH7 hb7
    go_wp2_with fail
    refine (HAS.out).mono ?_
    rintro e W8 ⟨g, cap8, rfl, hg0, hg1, hH8, hb8⟩
    go_wp2_with fail
    go_ret
    refine ⟨some ⟨g, 0, none⟩, cap8, ?_, ?_, (fun b o e => by injection e with e; injection e with e1 e2; subst e1; exact Nat.le_trans hbw.size hg0), hbw.trans (hb8.mono hbw.size)⟩
    ·rw [← HE.out]; rfl
    ·rw [← HE.out]; exact rd_holds hH8 hg1
   ·by_cases h35 : op = 35
    ·subst h35
     have ha := (HI.out.open_ rfl).1
     dsimp only at ha
     have hR : nats (nextRaw ⟨35, a, bb, c, args, argA, argC⟩ k) = [(k : Int) + 1, c] := by unfold nextRaw nats; rw [if_neg (by simp), if_neg (by simp), if_neg (by simp), if_pos rfl]; simp; omega
     have hE := HNE.out
     rw [hR] at hE
     have HE := Lib.hid hE
     have HPOS := Lib.hid (show ∀ x ∈ ([(k : Int) + 1, c] : List Int), 0 ≤ x from fun x hx => by have := hR ▸ hx; unfold nats at this; obtain ⟨y, -, rfl⟩ := List.mem_map.1 this; omega)
     clear hE hR HNE
     have hH := holds_new W5 [(k : Int) + 1, c]
     have hb6 := below_alloc W5 (.cells ([(k : Int) + 1, c].map encZ).toArray 3)
     have hg6 : W5.heap.size < (World.alloc W5 (.cells ([(k : Int) + 1, c].map encZ).toArray 3)).heap.size := by simp
     have hT6 := hT5.next hb6
     have D7 := (hb6.cell (p := ⟨b, off + f * 6 + 5, none⟩) (by have := HBS.out; show b < _; omega)).trans D6
     simp only [List.map_cons, List.map_nil, encZ] at hH hg6 hT6 D7
     clear hb6
     go_upto_region 15 with fail
     clear z0 z1 z2 z3
     generalize World.alloc W5 _ = W6 at hH hg6 hT6 D7 ⊢
     generalize W5.heap.size = V at hH hg6 hz ⊢
     obtain ⟨x0, -, -⟩ := bx3 hT6.fst
     have y0 := hT6.snd 0 _ rfl
     have HCALL := Lib.hid (HDN.out w.heap.size (w.heap.size + 1) V 2 [(k : Int) + 1, c] W6 x0 y0 D7 hf (by have := HPW.out; omega) (by have := HPW.out; omega) (by have := HBS.out; omega) hg6 hH (by simp) (by simp))
     have HLE := Lib.hid (Nat.le_trans (List.length_filter_le (fun x => !decide ((p.len f : Int) ≤ x)) [(k : Int) + 1, c]) (by simp : ([(k : Int) + 1, c] : List Int).length ≤ 1000))
     have HNO := Lib.hid (fun x (hx : x ∈ [(k : Int) + 1, c].filter (fun x => !decide ((p.len f : Int) ≤ x))) => (by have := HPOS.out x (List.mem_filter.1 hx).1; omega : x ≠ -1))
     generalize hzf : [(k : Int) + 1, c].filter (fun x => !decide ((p.len f : Int) ≤ x)) = l at HCALL HLE HNO HE
     have hvb : w.heap.size ≤ V := by have := HPW.out; omega
     clear hzf x0 y0 D7 hH hT5 D6 hx HPOS
     go_wp2_with fail
     refine (HCALL.out).mono ?_
     rintro e W7 ⟨rfl, hH7, hb7⟩
     have hbw := hT6.below.trans (hb7.mono hvb)
     have HAS := Lib.hid (asc_some V 0 2 l W7 HLE.out HNO.out hH7)
     clear hT6 hH7 hb7
     go_wp2_with fail
     refine (HAS.out).mono ?_
     rintro e W8 ⟨g, cap8, rfl, hg0, hg1, hH8, hb8⟩
     go_wp2_with fail
     go_ret
     refine ⟨some ⟨g, 0, none⟩, cap8, ?_, ?_, (fun b o e => by injection e with e; injection e with e1 e2; subst e1; exact Nat.le_trans hbw.size hg0), hbw.trans (hb8.mono hbw.size)⟩
     ·rw [← HE.out]; rfl
     ·rw [← HE.out]; exact rd_holds hH8 hg1
    ·have e1 : (op == 16) = false := by simp; omega
     have e2 : (op == 21) = false := by simp; omega
     have e3 : (op == 13) = false := by simpa using h13
     have e4 : (op == 14) = false := by simpa using h14
     have e5 : (op == 35) = false := by simpa using h35
     have hR : nats (nextRaw ⟨op, a, bb, c, args, argA, argC⟩ k) = [(k : Int) + 1] := by unfold nextRaw nats; rw [if_neg h16, if_neg h13, if_neg h14, if_neg h35]; simp
     have hE := HNE.out
     rw [hR] at hE
     have HE := Lib.hid hE
     have HPOS := Lib.hid (show ∀ x ∈ ([(k : Int) + 1] : List Int), 0 ≤ x from fun x hx => by have := hR ▸ hx; unfold nats at this; obtain ⟨y, -, rfl⟩ := List.mem_map.1 this; omega)
     clear hE hR HNE
     have hH := holds_new W5 [(k : Int) + 1]
     have hb6 := below_alloc W5 (.cells ([(k : Int) + 1].map encZ).toArray 3)
     have hg6 : W5.heap.size < (World.alloc W5 (.cells ([(k : Int) + 1].map encZ).toArray 3)).heap.size := by simp
     have hT6 := hT5.next hb6
     have D7 := (hb6.cell (p := ⟨b, off + f * 6 + 5, none⟩) (by have := HBS.out; show b < _; omega)).trans D6
     simp only [List.map_cons, List.map_nil, encZ] at hH hg6 hT6 D7
     clear hb6
     go_upto_region 15 with fail
     clear z0 z1 z2 z3
     generalize World.alloc W5 _ = W6 at hH hg6 hT6 D7 ⊢
     generalize W5.heap.size = V at hH hg6 hz ⊢
     obtain ⟨x0, -, -⟩ := bx3 hT6.fst
     have y0 := hT6.snd 0 _ rfl
     have HCALL := Lib.hid (HDN.out w.heap.size (w.heap.size + 1) V 1 [(k : Int) + 1] W6 x0 y0 D7 hf (by have := HPW.out; omega) (by have := HPW.out; omega) (by have := HBS.out; omega) hg6 hH (by simp) (by simp))
     have HLE := Lib.hid (Nat.le_trans (List.length_filter_le (fun x => !decide ((p.len f : Int) ≤ x)) [(k : Int) + 1]) (by simp : ([(k : Int) + 1] : List Int).length ≤ 1000))
     have HNO := Lib.hid (fun x (hx : x ∈ [(k : Int) + 1].filter (fun x => !decide ((p.len f : Int) ≤ x))) => (by have := HPOS.out x (List.mem_filter.1 hx).1; omega : x ≠ -1))
     generalize hzf : [(k : Int) + 1].filter (fun x => !decide ((p.len f : Int) ≤ x)) = l at HCALL HLE HNO HE
     have hvb : w.heap.size ≤ V := by have := HPW.out; omega
     clear hzf x0 y0 D7 hH hT5 D6 hx HPOS
     go_wp2_with fail
     refine (HCALL.out).mono ?_
     rintro e W7 ⟨rfl, hH7, hb7⟩
     have hbw := hT6.below.trans (hb7.mono hvb)
     have HAS := Lib.hid (asc_some V 0 1 l W7 HLE.out HNO.out hH7)
     clear hT6 hH7 hb7
     go_wp2_with fail
     refine (HAS.out).mono ?_
     rintro e W8 ⟨g, cap8, rfl, hg0, hg1, hH8, hb8⟩
     go_wp2_with fail
     go_ret
     refine ⟨some ⟨g, 0, none⟩, cap8, ?_, ?_, (fun b o e => by injection e with e; injection e with e1 e2; subst e1; exact Nat.le_trans hbw.size hg0), hbw.trans (hb8.mono hbw.size)⟩
     ·rw [← HE.out]; rfl
     ·rw [← HE.out]; exact rd_holds hH8 hg1
end Go.Proofs.YtkpjdanfpolimaaGreat
end
