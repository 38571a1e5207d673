/- codec.List, walked. Conditions: the slice reads as a list. -/
import Derived.Test.YtaficbkaofhjeaaDoorBld
import Derived.Test.YtaficbkaofhjeaaDoorShelf
namespace Go.Proofs.YtaficbkaofhjeaaDoor
open Go.RowKit

theorem strCells_eq (l : List UInt8) : Lib.strCells ⟨l.toArray⟩ = u8s l := strCells_u8s l
theorem byteCells_eq (l : List UInt8) : Lib.byteCells l = u8s l := rfl
theorem below_out {w w1 : World} {o : Obj} (h : Below w.heap.size (w.alloc o) w1) : Below w.heap.size w w1 := (below_alloc w o).trans h

theorem bldAt_below {T e : TypeId} {B b : Nat} {p : Value} {bs : List Value} {w w' : World} (h : Lib.BuilderAt T e B b p bs w) (hb : Below w.heap.size w w') : Lib.BuilderAt T e B b p bs w' := by
  obtain ⟨hB, v, hh, hown, hne⟩ := h
  exact ⟨hB, v, (hb.block b (lt_of_block hh)).trans hh, own_row_below hown hb, hne⟩
theorem bld_below {T e : TypeId} {B b : Nat} {bs : List Value} {w w' : World} (h : Lib.IsBuilder T e B b bs w) (hb : Below w.heap.size w w') : Lib.IsBuilder T e B b bs w' := by
  rcases h with h | h
  · exact .inl (bldAt_below h hb)
  · exact .inr (bldAt_below h hb)

set_option maxRecDepth 100000 in
set_option maxHeartbeats 1600000 in
theorem encList_any (A : Option Addr) (c : Nat) (l : List Int) (w : World) (h : Rd w w.heap.size 1 A l.length (i64s l)) (hm : l.length ≤ maxLen) :
    Calls Tryd.prog 20 #[.slice A l.length c] w (Ret (listRes l) w) := by
  unfold maxLen at hm
  by_cases hlen : 20000 < l.length
  · rw [listRes_long hlen]
    go_enter Tryd.func20, Tryd.ntmps20
    go_wp2
    go_ret2
    exact ⟨rfl, Below.refl _ _⟩
  · go_enter Tryd.func20, Tryd.ntmps20
    go_wp2
    go_outline
    go_loopw [6, 12] (fun _ i wr => ∃ k : Nat, i = .int .i64 k ∧ k ≤ l.length ∧ (l.take k).all inR = true ∧ Lib.IsBuilder 61 5 w.heap.size w.heap.size (u8s (encs (l.take k))) wr ∧ Below w.heap.size w wr) (fun _ i _ => l.length - (intOf i).toNat)
    case atStart => exact ⟨0, rfl, by omega, rfl, .inl ⟨Nat.le_refl _, .slice none 0 0, World.alloc_heap_new w _, World.ownsRow_nil _ _ _ _, by simp [Value.ownBlock]⟩, below_alloc _ _⟩
    case round =>
      obtain ⟨k, rfl, hk, hall, hbl, hb⟩ := hrel
      have hle : (encs (l.take k)).length ≤ 9 * k := by have := encs_len _ hall; rw [List.length_take] at this; omega
      have hall' := Lib.hid hall
      clear hall
      have hwb : w.heap.size ≤ wr.heap.size := hb.size
      by_cases hlt : k < l.length
      · obtain ⟨b, off, rfl, hbb, hc⟩ := (h.below hb).addr (by omega)
        have hc1 := hc k _ (i64s_at _ k hlt)
        clear hc
        have hst := Lib.hid (all_snoc hlt hall'.out)
        have hsn := Lib.hid (encs_snoc l hlt)
        cases hin : inR l[k] with
        | false =>
          have hin' := Lib.hid hin
          clear hin
          go_wp2_with fail
          refine (fits_any l[k] _).mono ?_
          rintro e w1 ⟨rfl, rfl⟩
          have hin2 : (decide (-4611686018427387904 ≤ l[k]) && decide (l[k] ≤ 4611686018427387904)) = false := hin'.out
          rw [hin2]
          clear hin2
          go_wp2
          go_ret2
          exact ⟨retv (listRes_bad hlen (all_of_take (hst.out.trans hin'.out))).symm, hb⟩
        | true =>
          have hin' := Lib.hid hin
          have hel := encB_len hin
          obtain ⟨hx1, hx2⟩ := (inR_iff _).1 hin
          clear hin
          go_wp2_with fail
          refine (fits_any l[k] _).mono ?_
          rintro e w1 ⟨rfl, rfl⟩
          have hin2 : (decide (-4611686018427387904 ≤ l[k]) && decide (l[k] ≤ 4611686018427387904)) = true := hin'.out
          rw [hin2]
          clear hin2
          go_wp2_with fail
          refine (integer_any l[k] hx1 hx2 _).mono ?_
          rintro e w2 ⟨rfl, hb2⟩
          have hbl2 := bld_below hbl hb2
          go_wp2_with fail
          refine (writeString w.heap.size w.heap.size _ ⟨(encB l[k]).toArray⟩ w2 hbl2 (by rw [u8s_len, str_size]; omega) (Nat.le_trans hwb hb2.size)).mono ?_
          rintro e w3 ⟨rfl, hbl3, hb3⟩
          go_wp2
          refine ⟨⟨k + 1, by go_num, by omega, hst.out.trans hin'.out, .inr ?_, hb.trans ((hb2.mono hwb).trans hb3)⟩, by simp [intOf]; omega⟩
          rw [hsn.out, u8s_append, ← strCells_eq]
          exact hbl3
      · obtain rfl : k = l.length := by omega
        rw [List.take_length] at hbl hle hall'
        go_wp2_with fail
        refine (writeByte w.heap.size w.heap.size _ 1 _ hbl (by rw [u8s_len]; omega) hwb).mono ?_
        rintro e w2 ⟨rfl, hbl2, hb2⟩
        go_wp2_with fail
        refine (Tryd.Builder_String_any w.heap.size w.heap.size (encs l ++ [1]) _ (.inr (by rw [byteCells_eq, u8s_append]; exact hbl2)) (Nat.le_trans hwb hb2.size)).mono ?_
        rintro e w3 ⟨rfl, hb3⟩
        go_wp2
        go_ret2
        exact ⟨retv (listRes_ok hlen hall'.out).symm, hb.trans (hb2.trans hb3)⟩

end Go.Proofs.YtaficbkaofhjeaaDoor
