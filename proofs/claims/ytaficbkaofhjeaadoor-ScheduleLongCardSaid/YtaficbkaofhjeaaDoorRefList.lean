/- ref01.List, walked. Conditions: the slice reads as a list. -/
import Derived.Test.YtaficbkaofhjeaaDoorRefInt
import Derived.Test.YtaficbkaofhjeaaDoorListM
namespace Go.Proofs.YtaficbkaofhjeaaDoor
open Go.RowKit

/-- What an encoder of lists returns. -/
def listRes (l : List Int) : Value := .tuple #[.string ⟨(listTxt l).toArray⟩, .int .i64 (listErr l)]
theorem listRes_long {l : List Int} (h : 20000 < l.length) : listRes l = .tuple #[.string ⟨#[]⟩, .int .i64 4] := by
  have := listErr_long h
  rw [listRes, listTxt_no (by omega), this]
theorem listRes_bad {l : List Int} (h : ¬ 20000 < l.length) (hb : l.all inR = false) : listRes l = .tuple #[.string ⟨#[]⟩, .int .i64 2] := by
  have := listErr_bad h hb
  rw [listRes, listTxt_no (by omega), this]
theorem listRes_ok {l : List Int} (h : ¬ 20000 < l.length) (hb : l.all inR = true) : listRes l = .tuple #[.string ⟨(encs l ++ [1]).toArray⟩, .int .i64 0] := by
  rw [listRes, listTxt_ok h hb, listErr_ok h hb]
theorem encRes_ok {n : Int} (h : inR n = true) : encRes n = .tuple #[.string ⟨(encB n).toArray⟩, .int .i64 0] := by
  rw [inR_iff] at h; rw [encRes, if_pos h]
theorem encRes_no {n : Int} (h : inR n = false) : encRes n = .tuple #[.string ⟨#[]⟩, .int .i64 2] := by
  rw [inR_not] at h; rw [encRes, if_neg h]
theorem str_size (l : List UInt8) : (⟨l.toArray⟩ : ByteArray).size = l.length := by simp [ByteArray.size]
theorem strCells_u8s (l : List UInt8) : Lib.strCells ⟨l.toArray⟩ = u8s l := by simp [Lib.strCells, u8s]
theorem retv {a b : Value} (h : a = b) : Ending.returned a = .returned b := by rw [h]

set_option maxRecDepth 100000 in
set_option maxHeartbeats 1600000 in
theorem refList_any (A : Option Addr) (c : Nat) (l : List Int) (w : World) (h : Rd w w.heap.size 1 A l.length (i64s l)) (hm : l.length ≤ maxLen) :
    Calls Tryd.prog 21 #[.slice A l.length c] w (Ret (listRes l) w) := by
  unfold maxLen at hm
  obtain ⟨i0, hi, hz0, hz1, hz2⟩ := info_parts u8info
  by_cases hlen : 20000 < l.length
  · rw [listRes_long hlen]
    go_enter Tryd.func21, Tryd.ntmps21
    go_wp2
    go_ret2
    exact ⟨rfl, Below.refl _ _⟩
  · go_enter Tryd.func21, Tryd.ntmps21
    go_wp2
    go_loopw [4, 5] (fun v i wr => ∃ k : Nat, i = .int .i64 k ∧ k ≤ l.length ∧ (l.take k).all inR = true ∧ OwnB wr w.heap.size 5 v (encs (l.take k)) ∧ Below w.heap.size w wr) (fun _ i _ => l.length - (intOf i).toNat)
    case atStart => exact ⟨0, rfl, by omega, rfl, World.ownsRow_lit (base := w.heap.size) w #[] 0 (Nat.le_refl _) (by unfold maxLen; omega) rfl, below_alloc _ _⟩
    case round =>
      obtain ⟨k, rfl, hk, hall, hown, hb⟩ := hrel
      have hle : (encs (l.take k)).length ≤ 9 * k := by have := encs_len _ hall; rw [List.length_take] at this; omega
      have hall' := Lib.hid hall
      clear hall
      by_cases hlt : k < l.length
      · obtain ⟨b, off, rfl, hbb, hc⟩ := (h.below hb).addr (by omega)
        have hc1 := hc k _ (i64s_at _ k hlt)
        clear hc
        have hst := Lib.hid (all_snoc hlt hall'.out)
        have hsn := Lib.hid (encs_snoc l hlt)
        cases hin : inR l[k] with
        | false =>
          have hin' := Lib.hid hin
          clear hin
          go_wp2_with fail
          refine (refInt_any l[k] _).mono ?_
          rw [encRes_no hin'.out]
          rintro e w1 ⟨rfl, hb1⟩
          go_wp2
          go_ret2
          refine ⟨retv (listRes_bad hlen (all_of_take (hst.out.trans hin'.out))).symm, hb.trans (hb1.mono hb.size)⟩
        | true =>
          have hin' := Lib.hid hin
          have hel := encB_len hin
          clear hin
          go_wp2_with fail
          refine (refInt_any l[k] _).mono ?_
          rw [encRes_ok hin'.out]
          rintro e w1 ⟨rfl, hb1⟩
          have hown1 := own_below hown hb1
          have hmx : (encs (l.take k)).length + (⟨(encB l[k]).toArray⟩ : ByteArray).size ≤ maxLen := by rw [str_size]; unfold maxLen; omega
          have hby : (encs (l.take k)).length + (⟨(encB l[k]).toArray⟩ : ByteArray).size ≤ 140737488355328 := by rw [str_size]; omega
          have hbs : w.heap.size ≤ w1.heap.size := Nat.le_trans hb.size hb1.size
          go_wp2_with (at_builtin; refine Lib.wpList_append_own_string _ rfl (.tmp 29) (.tmp 30) _ _ rfl w.heap.size 5 i0 Tryd.underlying59 Tryd.underlying9 hi hz0 hz1 hz2 _ _ _ rfl hown1 ⟨(encB l[k]).toArray⟩ rfl hmx hby hbs ?_; intro v2 w2 hown2 hg2 _)
          refine ⟨⟨k + 1, by go_num, by omega, hst.out.trans hin'.out, ?_, (hb.trans (hb1.mono hb.size)).grown hg2 hbs (fun g e => (World.ownsRow.lt hown1 g e).1)⟩, by simp [intOf]; omega⟩
          rw [str_size, strCells_u8s] at hown2
          rw [hsn.out]
          exact own_of_eq (by simp) (by rw [u8s_append]) hown2
      · obtain rfl : k = l.length := by omega
        rw [List.take_length] at hown hle hall'
        have hmx : (encs l).length + 1 ≤ maxLen := by unfold maxLen; omega
        have hby : ((encs l).length + 1) * 1 ≤ 140737488355328 := by omega
        have hbs : w.heap.size ≤ (wr.alloc (.cells #[.int .u8 1] 5)).heap.size := by have := hb.size; simp; omega
        go_wp2_with (at_builtin; refine wpList_append_own _ rfl (.tmp 32) (.tmp 33) _ rfl w.heap.size 5 i0 (.int .u8 0) 1 1 Tryd.underlying59 hi hz0 hz1 hz2 rfl (by omega) _ _ _ rfl (World.ownsRow.alloc hown _) ⟨wr.heap.size, 0, none⟩ 1 1 [.int .u8 1] rfl rfl (cell_one_new _ _ _) (by simp [Value.oneCell']) hmx hby hbs ?_; intro v2 w2 hown2 hg2 _; have hcv := run_convert_own (src := 59) (dst := 9) Tryd.underlying59 Tryd.underlying5 Tryd.underlying9 (own_of_eq (l := encs l ++ [1]) (by simp) (by rw [u8s_append]; rfl) hown2))
        go_ret2
        refine ⟨retv (listRes_ok hlen hall'.out).symm, hb.trans ((below_alloc2 hb.size _).grown hg2 hbs (fun g e => (World.ownsRow.lt hown g e).1))⟩

end Go.Proofs.YtaficbkaofhjeaaDoor
