/- schedule.Text, walked. Conditions: the slice reads as a list of choices of int64 numbers, not too long; the table of powers of ten lies where it was laid. -/
import Derived.Test.YtaficbkaofhjeaaDoorChs
import Derived.Test.YtaficbkaofhjeaaDoorEncList
import Derived.Test.YtaficbkaofhjeaaDoorTextM
import Derived.Laws.OwnMore
import Derived.Lib.SmallJoins
import Derived.Deep.OwnRows
import Derived.Lib.AppendIntMem
namespace Go.Proofs.YtaficbkaofhjeaaDoor
open Go.RowKit Go.Joins

theorem gPow : Tryd.prog.globalNamed "internal/strconv.uint64pow10" = some 0 := by kernel_rfl
/-- The table of powers of ten lies where it was laid. -/
def PowTab (w : World) : Prop := Lib.TabIs Tryd.prog w "internal/strconv.uint64pow10" .u64 Lib.pow10Tab
theorem PowTab.below {w w' : World} (h : PowTab w) (hb : Below w.heap.size w w') : PowTab w' := tab_stays gPow h hb (Nat.le_refl _)
theorem itoa_any (n : Int) (h : in64 n) (w : World) (ht : PowTab w) : Calls Tryd.prog 28 #[.int .i64 n] w (Ret (.string ⟨(Lib.itoa n).toArray⟩) w) :=
  (Tryd.strconv_Itoa n h.1 h.2 w ht).mono fun _ _ ⟨he, k, os, hw⟩ => ⟨he, hw ▸ Lib.below_grow _ _ (Nat.le_refl _) k os⟩

theorem strinfo : (Tryd.prog.info? 9).map (fun i => (i.zero, i.size, i.bytes)) = some (some (.string ⟨#[]⟩), 1, 16) := by kernel_rfl
theorem ownsRow_below {w w' : World} {base e size n : Nat} {v : Value} {xs : List Value} (h' : w.ownsRow base e size v n xs) (hb : Below w.heap.size w w') : w'.ownsRow base e size v n xs := by
  have hg : w.grownBy w' none := ⟨hb.os, hb.tape, hb.output, hb.size, fun k hk _ => hb.block k hk⟩
  rcases h'.2 with ⟨rfl, _⟩ | ⟨g, cap, cur, rfl, _⟩
  · exact World.ownsRow.kept h' hg (.inl rfl)
  · exact World.ownsRow.kept h' hg (.inr (by simp [Value.ownBlock]))
/-- The words of the first k choices; behind them empty strings. -/
def wc (l : List Ch) (k : Nat) : List Value := (l.take k).map (fun c => .string ⟨(wordB c).toArray⟩) ++ List.replicate (l.length - k) (.string ⟨#[]⟩)
theorem wc_len (l : List Ch) {k : Nat} (h : k ≤ l.length) : (wc l k).length = l.length := by
  unfold wc; simp; omega
theorem wc_set (l : List Ch) {k : Nat} (h : k < l.length) (u : Value) (hu : u = .string ⟨(wordB l[k]).toArray⟩) : (wc l k).set k u = wc l (k + 1) := by
  subst hu
  unfold wc
  rw [show l.length - k = (l.length - (k + 1)) + 1 from by omega, List.replicate_succ, List.set_append_right _ _ (by simp; omega)]
  have e : k - ((l.take k).map (fun c : Ch => Value.string ⟨(wordB c).toArray⟩)).length = 0 := by simp; omega
  rw [e, List.set_cons_zero, List.take_succ_eq_append_getElem h, List.map_append, List.append_assoc]
  rfl

theorem wc_at (l : List Ch) {k : Nat} (h : k < l.length) : (wc l k)[k]? = some (.string ⟨#[]⟩) := by
  unfold wc
  rw [List.getElem?_append_right (by simp; omega), List.getElem?_replicate, if_pos (by simp; omega)]
theorem itoa_size {t : Int} (h : in64 t) : (⟨(Lib.itoa t).toArray⟩ : ByteArray).size ≤ 21 := by rw [str_size]; exact Lib.itoa_length_le t h.1 h.2
theorem dot_size {d : Int} (h : in64 d) : (⟨#[46]⟩ : ByteArray).size + (⟨(Lib.itoa d).toArray⟩ : ByteArray).size ≤ 9223372036854775807 := by
  have h1 := itoa_size h
  have h2 : (⟨#[46]⟩ : ByteArray).size = 1 := rfl
  omega
theorem dot_size2 {d : Int} {X : ByteArray} (h : in64 d) (hX : X.size ≤ 21) : X.size + ((⟨#[46]⟩ : ByteArray) ++ ⟨(Lib.itoa d).toArray⟩).size ≤ 9223372036854775807 := by
  have h1 := itoa_size h
  have h2 : (⟨#[46]⟩ : ByteArray).size = 1 := rfl
  rw [ByteArray.size_append]
  omega
theorem word_dot {X : List UInt8} {c : Ch} {d : Int} (h : wordB c = X ++ caseB d) (hd : d ≠ 0) : (⟨X.toArray⟩ ++ (⟨#[46]⟩ ++ ⟨(Lib.itoa d).toArray⟩) : ByteArray) = ⟨(wordB c).toArray⟩ := by
  apply ByteArray.ext
  rw [h, caseB, if_neg hd, ByteArray.data_append, ByteArray.data_append]
  simp
theorem join_text (l : List Ch) : Lib.join ((l.map fun x => (⟨(wordB x).toArray⟩ : ByteArray)).map (·.data.toList)) (⟨#[32]⟩ : ByteArray).data.toList = textB l := by
  unfold textB
  rw [List.map_map]
  rfl
theorem cells_new (w : World) (cs : Array Value) (t : Nat) (j : Nat) : (w.alloc (.cells cs t)).cell? ⟨w.heap.size, j, none⟩ = cs[j]? := by
  rw [cell_of_row _ _ j cs t (0, 0) (heap_alloc_new w _)]

set_option maxRecDepth 100000 in
set_option maxHeartbeats 3200000 in
theorem text_any (A : Option Addr) (c : Nat) (l : List Ch) (w : World) (h : Chs w w.heap.size A l) (hl : l.length ≤ 3000000000000) (hin : ∀ x ∈ l, in64 x.1 ∧ in64 x.2) (ht : PowTab w) :
    Calls Tryd.prog 16 #[.slice A l.length c] w (Ret (.string ⟨(textB l).toArray⟩) w) := by
  have hmk := run_make_row' (P := Tryd.prog) 51 9 (.string ⟨#[]⟩) 16 Tryd.underlying51 strinfo rfl .i64 .i64 l.length (by omega) (by omega)
  go_enter Tryd.func16, Tryd.ntmps16
  go_wp2
  have hown0 : (w.alloc (.cells (madeCells #[.string ⟨#[]⟩] l.length) 9)).ownsRow w.heap.size 9 1 (.slice (some ⟨w.heap.size, 0, none⟩) l.length l.length) l.length (wc l 0) := by
    have h9 := World.ownsRow_lit (base := w.heap.size) (e := 9) (size := 1) w (madeCells #[.string ⟨#[]⟩] l.length) l.length (Nat.le_refl _) (by unfold maxLen; omega) (by simp [madeCells])
    rw [toList_madeCells_one] at h9
    exact h9
  go_loopw [11] (fun i wr => ∃ k : Nat, i = .int .i64 k ∧ k ≤ l.length ∧ wr.ownsRow w.heap.size 9 1 (.slice (some ⟨w.heap.size, 0, none⟩) l.length l.length) l.length (wc l k) ∧ Below w.heap.size w wr) (fun i _ => l.length - (intOf i).toNat)
  case atStart => exact ⟨0, rfl, by omega, hown0, below_alloc _ _⟩
  case round =>
    obtain ⟨k, rfl, hk, hown, hb⟩ := hrel
    by_cases hlt : k < l.length
    · obtain ⟨b, off, rfl, hbb, hc0, hc1⟩ := (h.below hb).at_ hlt
      have hd1 : decide ((k : Int) < (l.length : Int)) = true := decide_eq_true (by omega)
      have hd2 : decide (k < l.length) = true := decide_eq_true hlt
      obtain ⟨t, htt⟩ : ∃ t, t = l[k].1 := ⟨_, rfl⟩
      obtain ⟨d, hdd⟩ : ∃ d, d = l[k].2 := ⟨_, rfl⟩
      have hin1 := hin l[k] (List.getElem_mem _)
      rw [← htt] at hc0
      rw [← htt, ← hdd] at hin1
      rw [← hdd] at hc1
      have HW := Lib.hid (show wordB l[k] = whoB t ++ caseB d from by rw [wordB, ← htt, ← hdd])
      clear htt hdd
      have hbx : Below w.heap.size w (wr.alloc (.cells #[.int .i64 t, .int .i64 d] 36)) := hb.trans (below_alloc2 hb.size _)
      have hownlt : w.heap.size < wr.heap.size := (World.ownsRow.lt hown _ rfl).2
      go_wp2_with fail
      refine (itoa_any t hin1.1 _ (ht.below hbx)).mono ?_
      rintro e w1 ⟨rfl, hb1⟩
      have hbw1 : Below w.heap.size w w1 := hbx.trans (hb1.mono (by have := hb.size; simp; omega))
      have hown1   := ownsRow_below (World.ownsRow.alloc hown (.cells #[.int .i64 t, .int .i64 d] 36)) hb1
      have hx0 : w1.cell? ⟨wr.heap.size, 0, none⟩ = some (.int .i64 t) := (hb1.cell (by simp)).trans (cells_new wr #[.int .i64 t, .int .i64 d] 36 0)
      have hx1 : w1.cell? ⟨wr.heap.size, 1, none⟩ = some (.int .i64 d) := (hb1.cell (by simp)).trans (cells_new wr #[.int .i64 t, .int .i64 d] 36 1)
      have hcA : w1.cell? ⟨w.heap.size, k, none⟩ = some (.string ⟨#[]⟩) := (hown1.cellAt k (by omega)).trans (wc_at l hlt)
      have hfA := hown1.frozenAt k
      have hsz : w.heap.size < wr.heap.size := hownlt
      have hs0 : ∀ (W : World) u, (W.setCell ⟨w.heap.size, k, none⟩ u).cell? ⟨wr.heap.size, 0, none⟩ = W.cell? ⟨wr.heap.size, 0, none⟩ := fun W u => World.cell?_setCell_other _ _ _ _ (by intro e; injection e with e1; omega)
      have hs1 : ∀ (W : World) u, (W.setCell ⟨w.heap.size, k, none⟩ u).cell? ⟨wr.heap.size, 1, none⟩ = W.cell? ⟨wr.heap.size, 1, none⟩ := fun W u => World.cell?_setCell_other _ _ _ _ (by intro e; injection e with e1; omega)
      have hst : ∀ u, (w1.setCell ⟨w.heap.size, k, none⟩ u).cell? ⟨w.heap.size, k, none⟩ = some u := fun u => World.cell?_setCell_same _ _ _ hcA
      have hwr1 : IntKind.i64.wrap ((k : Int) + 1) = (k : Int) + 1 := by rw [IntKind.wrap_i64]; omega
      have fin : ∀ W xs u, W.ownsRow w.heap.size 9 1 (.slice (some ⟨w.heap.size, 0, none⟩) l.length l.length) l.length xs → Below w.heap.size w W → xs.set k u = wc l (k + 1) →
          (∃ k1 : Nat, Value.int .i64 ((k : Int) + 1) = .int .i64 k1 ∧ k1 ≤ l.length ∧ (W.setCell ⟨w.heap.size, k, none⟩ u).ownsRow w.heap.size 9 1 (.slice (some ⟨w.heap.size, 0, none⟩) l.length l.length) l.length (wc l k1) ∧ Below w.heap.size w (W.setCell ⟨w.heap.size, k, none⟩ u)) ∧
          l.length - (intOf (Value.int .i64 ((k : Int) + 1))).toNat < l.length - (intOf (Value.int .i64 k)).toNat := fun W xs u h1 h2 h3 =>
        ⟨⟨k + 1, by go_num, by omega, h3 ▸ (World.ownsRow.stored h1 k u).1, h2.setCell (p := ⟨w.heap.size, k, none⟩) (Nat.le_refl _) u⟩, by simp [intOf]; omega⟩
      have HF := Lib.hid fin
      clear fin
      by_cases ht1 : t = -1
      · subst ht1
        by_cases hd0 : d = 0
        · subst hd0
          go_wp2
          exact HF.out _ _ _ (World.ownsRow.stored hown1 k _).1 (hbw1.setCell (p := ⟨w.heap.size, k, none⟩) (Nat.le_refl _) _) (by rw [List.set_set]; exact wc_set l hlt _ (by rw [HW.out]; rfl))
        · have hdn : (d != 0) = true := by simpa using hd0
          go_wp2
          generalize hW3 : World.setCell (World.setCell w1 _ _) _ _ = W3
          have own3 : W3.ownsRow w.heap.size 9 1 (.slice (some ⟨w.heap.size, 0, none⟩) l.length l.length) l.length (((wc l k).set k (.string ⟨(Lib.itoa (-1)).toArray⟩)).set k (.string ⟨#[99, 108, 111, 99, 107]⟩)) := hW3 ▸ (World.ownsRow.stored (World.ownsRow.stored hown1 k _).1 k _).1
          have hb3 : Below w.heap.size w W3 := hW3 ▸ ((hbw1.setCell (p := ⟨w.heap.size, k, none⟩) (Nat.le_refl _) _).setCell (p := ⟨w.heap.size, k, none⟩) (Nat.le_refl _) _)
          have hc3 : W3.cell? ⟨w.heap.size, k, none⟩ = some (.string ⟨#[99, 108, 111, 99, 107]⟩) := hW3 ▸ (World.cell?_setCell_same _ _ _ (hst _))
          have hx3 : W3.cell? ⟨wr.heap.size, 1, none⟩ = some (.int .i64 d) := hW3 ▸ ((hs1 _ _).trans ((hs1 _ _).trans hx1))
          have hf3 := own3.frozenAt k
          clear hW3 hst hs0 hs1
          have hpt : PowTab W3.drew := ht.below (hb3.trans (below_draws _ _ 1))
          have hadd1 : ∀ W, (Op.stringOp .add ⟨#[46]⟩ ⟨(Lib.itoa d).toArray⟩).run Tryd.prog W = .ok (.string (⟨#[46]⟩ ++ ⟨(Lib.itoa d).toArray⟩)) W := fun W => run_string_add_sum W _ _ (dot_size hin1.2)
          have hadd2 : ∀ W, (Op.stringOp .add ⟨#[99, 108, 111, 99, 107]⟩ (⟨#[46]⟩ ++ ⟨(Lib.itoa d).toArray⟩)).run Tryd.prog W = .ok (.string (⟨#[99, 108, 111, 99, 107]⟩ ++ (⟨#[46]⟩ ++ ⟨(Lib.itoa d).toArray⟩))) W := fun W => run_string_add_sum W _ _ (dot_size2 hin1.2 (by first | exact itoa_size hin1.1 | decide))
          have HX := Lib.hid (show (⟨#[99, 108, 111, 99, 107]⟩ ++ (⟨#[46]⟩ ++ ⟨(Lib.itoa d).toArray⟩) : ByteArray) = ⟨(wordB l[k]).toArray⟩ from word_dot (HW.out.trans (by rw [whoB, if_pos rfl])) hd0)
          go_region_with (go_at_call 28; refine (itoa_any d hin1.2 _ hpt).mono ?_; rintro e w4 ⟨rfl, hb4⟩; have own4 := ownsRow_below (w := W3.drew) own3 hb4; have hf4 := own4.frozenAt k; have hc4 : w4.cell? ⟨w.heap.size, k, none⟩ = some (.string ⟨#[99, 108, 111, 99, 107]⟩) := (own4.cellAt k (by omega)).trans ((own3.cellAt k (by omega)).symm.trans hc3))
          all_goals
            go_wp2
            exact HF.out _ _ _ own4 ((hb3.trans (below_draws _ _ 1)).trans (hb4.mono hb3.size)) (by simp only [List.set_set]; exact wc_set l hlt _ (by rw [HX.out]))
      · have htn : (t == -1) = false := by simpa using ht1
        by_cases hd0 : d = 0
        · subst hd0
          go_wp2
          exact HF.out _ _ _ hown1 hbw1 (wc_set l hlt _ (by rw [HW.out, whoB, if_neg ht1, caseB, if_pos rfl, List.append_nil]))
        · have hdn : (d != 0) = true := by simpa using hd0
          go_wp2
          generalize hW3 : World.setCell w1 _ _ = W3
          have own3 : W3.ownsRow w.heap.size 9 1 (.slice (some ⟨w.heap.size, 0, none⟩) l.length l.length) l.length ((wc l k).set k (.string ⟨(Lib.itoa t).toArray⟩)) := hW3 ▸ (World.ownsRow.stored hown1 k _).1
          have hb3 : Below w.heap.size w W3 := hW3 ▸ (hbw1.setCell (p := ⟨w.heap.size, k, none⟩) (Nat.le_refl _) _)
          have hc3 : W3.cell? ⟨w.heap.size, k, none⟩ = some (.string ⟨(Lib.itoa t).toArray⟩) := hW3 ▸ (hst _)
          have hx3 : W3.cell? ⟨wr.heap.size, 1, none⟩ = some (.int .i64 d) := hW3 ▸ ((hs1 _ _).trans hx1)
          have hf3 := own3.frozenAt k
          clear hW3 hst hs0 hs1
          have hpt : PowTab W3.drew := ht.below (hb3.trans (below_draws _ _ 1))
          have hadd1 : ∀ W, (Op.stringOp .add ⟨#[46]⟩ ⟨(Lib.itoa d).toArray⟩).run Tryd.prog W = .ok (.string (⟨#[46]⟩ ++ ⟨(Lib.itoa d).toArray⟩)) W := fun W => run_string_add_sum W _ _ (dot_size hin1.2)
          have hadd2 : ∀ W, (Op.stringOp .add ⟨(Lib.itoa t).toArray⟩ (⟨#[46]⟩ ++ ⟨(Lib.itoa d).toArray⟩)).run Tryd.prog W = .ok (.string (⟨(Lib.itoa t).toArray⟩ ++ (⟨#[46]⟩ ++ ⟨(Lib.itoa d).toArray⟩))) W := fun W => run_string_add_sum W _ _ (dot_size2 hin1.2 (by first | exact itoa_size hin1.1 | decide))
          have HX := Lib.hid (show (⟨(Lib.itoa t).toArray⟩ ++ (⟨#[46]⟩ ++ ⟨(Lib.itoa d).toArray⟩) : ByteArray) = ⟨(wordB l[k]).toArray⟩ from word_dot (HW.out.trans (by rw [whoB, if_neg ht1])) hd0)
          go_region_with (go_at_call 28; refine (itoa_any d hin1.2 _ hpt).mono ?_; rintro e w4 ⟨rfl, hb4⟩; have own4 := ownsRow_below (w := W3.drew) own3 hb4; have hf4 := own4.frozenAt k; have hc4 : w4.cell? ⟨w.heap.size, k, none⟩ = some (.string ⟨(Lib.itoa t).toArray⟩) := (own4.cellAt k (by omega)).trans ((own3.cellAt k (by omega)).symm.trans hc3))
          all_goals
            go_wp2
            exact HF.out _ _ _ own4 ((hb3.trans (below_draws _ _ 1)).trans (hb4.mono hb3.size)) (by simp only [List.set_set]; exact wc_set l hlt _ (by rw [HX.out]))
    · have hd1 : decide ((k : Int) < (l.length : Int)) = false := decide_eq_false (by omega)
      have hd2 : decide (k < l.length) = false := decide_eq_false hlt
      obtain rfl : k = l.length := by omega
      have hjoin := Tryd.strings_Join w.heap.size 0 l.length (l.map fun x => (⟨(wordB x).toArray⟩ : ByteArray)) ⟨#[32]⟩ wr
        (fun j x hj => by
          rw [Nat.zero_add]
          have hj2 : j < l.length := by
            rcases Nat.lt_or_ge j l.length with h9 | h9
            · exact h9
            · rw [List.getElem?_eq_none (by simpa using h9)] at hj; cases hj
          refine (World.ownsRow.cellAt hown j (by omega)).trans ?_
          rw [wc, List.take_length, Nat.sub_self, List.replicate_zero, List.append_nil]
          rw [List.getElem?_map] at hj ⊢
          rw [List.getElem?_eq_getElem hj2] at hj ⊢
          simp only [Option.map_some, Option.some.injEq] at hj ⊢
          rw [hj])
        (World.ownsRow.lt hown _ rfl).2 (by simp; omega) (by simp) (by rw [join_text]; have := textB_len hin; omega)
      rw [join_text] at hjoin
      simp only [List.length_map] at hjoin
      have HJ := Lib.hid hjoin
      clear hjoin
      go_wp2_with fail
      refine HJ.out.mono ?_
      rintro e w1 ⟨rfl, hb1⟩
      go_wp2
      go_ret
      exact ⟨rfl, hb.trans (hb1.mono hb.size)⟩
end Go.Proofs.YtaficbkaofhjeaaDoor
