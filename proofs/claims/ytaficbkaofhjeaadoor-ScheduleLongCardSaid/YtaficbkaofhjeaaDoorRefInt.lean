/- ref01.magnitude, Int and codec.fits, walked. Conditions: the number is at most 2^62. -/
import Derived.Test.YtaficbkaofhjeaaDoorDig
import Derived.Test.YtaficbkaofhjeaaDoorApp
namespace Go.Proofs.YtaficbkaofhjeaaDoor
open Go.RowKit

set_option maxHeartbeats 400000 in
theorem fits_any (n : Int) (w : World) : Calls Tryd.prog 33 #[.int .i64 n] w fun e w' => e = .returned (.bool (decide (-4611686018427387904 ≤ n) && decide (n ≤ 4611686018427387904))) ∧ w = w' := by
  go_enter Tryd.func33, Tryd.ntmps33
  go_wp2
  all_goals go_ret
  all_goals refine ⟨retb ?_, rfl⟩
  all_goals simp_all
  all_goals omega

/-- A slice of bytes of the call's own is returned, which holds l; nothing that lay in memory has changed. -/
def RetB (l : List UInt8) (w : World) : Ending → World → Prop := fun e w' => ∃ v, e = .returned v ∧ OwnB w' w.heap.size 5 v l ∧ Below w.heap.size w w'

set_option maxRecDepth 100000 in
set_option maxHeartbeats 800000 in
theorem magnitude_any (m : Nat) (hm : m ≤ 4611686018427387904) (w : World) : Calls Tryd.prog 51 #[.int .i64 m] w (RetB (dgB m) w) := by
  obtain ⟨i0, hi, hz0, hz1, hz2⟩ := info_parts u8info
  go_enter Tryd.func51, Tryd.ntmps51
  go_wp2
  go_loopw [0, 3] (fun i v wr => ∃ (q : Nat) (suf : List UInt8), i = .int .i64 q ∧ q ≤ m ∧ dgB m = dgB q ++ suf ∧ OwnB wr w.heap.size 5 v suf ∧ Below w.heap.size w wr) (fun i _ _ => (intOf i).toNat)
  case atStart => exact ⟨m, [], rfl, by omega, by simp, World.ownsRow_lit (base := w.heap.size) w #[] 0 (Nat.le_refl _) (by unfold maxLen; omega) rfl, below_alloc _ _⟩
  case round =>
    obtain ⟨q, suf, rfl, hq, hd, hown, hb⟩ := hrel
    have hd' := Lib.hid hd
    clear hd
    have hL : suf.length ≤ 8 := by
      have h1 := congrArg List.length hd'.out
      have h2 : (dgB m).length ≤ 8 := by rw [dgB, bts_len]; exact dg_len 8 m (by omega)
      rw [List.length_append] at h1
      omega
    by_cases hq0 : 0 < q
    · have hq1 : (0 : Int) ≤ (q : Int) := by omega
      obtain ⟨A, c, rfl⟩ := own_form hown
      have hr := (Rd.of_own hown).alloc (Nat.le_refl _) (.cells #[.int .u8 ((q : Int) % 256)] 5)
      have hlit := World.ownsRow_lit (base := w.heap.size) (e := 5) (size := 1) wr #[.int .u8 ((q : Int) % 256)] 1 hb.size (by unfold maxLen; omega) rfl
      have hmx : 1 + suf.length ≤ maxLen := by unfold maxLen; omega
      have hby : (1 + suf.length) * 1 ≤ 140737488355328 := by omega
      have hbs : w.heap.size ≤ (wr.alloc (.cells #[.int .u8 ((q : Int) % 256)] 5)).heap.size := by have := hb.size; simp; omega
      have hst := Lib.hid (dgB_step (by omega) hd'.out)
      go_wp2_with (at_builtin; refine wpList_append_rd rfl (.tmp 10) (.tmp 11) _ rfl w.heap.size 5 i0 _ 1 1 Tryd.underlying59 hi hz0 hz1 hz2 rfl (by omega) (.slice (some ⟨wr.heap.size, 0, none⟩) 1 1) 1 _ rfl hlit wr.heap.size A suf.length c (u8s suf) rfl hr (u8s_one _) hmx hby hbs ?_; intro v1 w1 hown1 hg1 hat1)
      refine ⟨⟨q / 256, _, by go_num, by omega, hst.out, ?_, ?_⟩, ?_⟩
      · show World.ownsRow _ _ _ _ _ _ _
        simpa [u8s, Nat.add_comm] using hown1
      · exact hb.trans ((below_alloc2 hb.size _).grown hg1 hbs (fun k e => by have := (hlit.lt k e).1; omega))
      · simp [intOf]; omega
    · obtain rfl : q = 0 := by omega
      go_wp2
      go_ret
      refine ⟨_, rfl, ?_, hb⟩
      have := hd'.out
      rw [dgB_zero, List.nil_append] at this
      rw [this]
      exact hown
/-- What an encoder of integers returns: the encoding and 0, or nothing and 2. -/
def encRes (n : Int) : Value := if -4611686018427387904 ≤ n ∧ n ≤ 4611686018427387904 then .tuple #[.string ⟨(encB n).toArray⟩, .int .i64 0] else .tuple #[.string ⟨#[]⟩, .int .i64 2]

set_option maxRecDepth 100000 in
set_option maxHeartbeats 800000 in
theorem refInt_out (n : Int) (h : n < -4611686018427387904 ∨ 4611686018427387904 < n) (w : World) : Calls Tryd.prog 38 #[.int .i64 n] w (Ret (encRes n) w) := by
  have hr : encRes n = .tuple #[.string ⟨#[]⟩, .int .i64 2] := by unfold encRes; rw [if_neg (by omega)]
  rw [hr]
  clear hr
  rcases h with h | h
  · go_enter Tryd.func38, Tryd.ntmps38
    go_wp2
    go_ret2
    exact ⟨rfl, Below.refl _ _⟩
  · have h2 : -4611686018427387904 ≤ n := by omega
    go_enter Tryd.func38, Tryd.ntmps38
    go_wp2
    go_ret2
    exact ⟨rfl, Below.refl _ _⟩

set_option maxRecDepth 100000 in
set_option maxHeartbeats 800000 in
theorem refInt_nn (m : Nat) (hm : m ≤ 4611686018427387904) (w : World) : Calls Tryd.prog 38 #[.int .i64 m] w (Ret (encRes m) w) := by
  have hr : encRes m = .tuple #[.string ⟨(encB m).toArray⟩, .int .i64 0] := by unfold encRes; rw [if_pos (by omega)]
  rw [hr]
  clear hr
  obtain ⟨i0, hi, hz0, hz1, hz2⟩ := info_parts u8info
  have h1 : (0 : Int) ≤ (m : Int) := by omega
  have h2 : (m : Int) ≤ 4611686018427387904 := by omega
  go_enter Tryd.func38, Tryd.ntmps38
  go_wp2_with fail
  refine (magnitude_any m hm _).mono ?_
  rintro e w1 ⟨v, rfl, hown, hb⟩
  obtain ⟨A, c, rfl⟩ := own_form hown
  have hL : (dgB m).length ≤ 8 := by rw [dgB, bts_len]; exact dg_len 8 m (by omega)
  have hrd := (Rd.of_own hown).alloc (Nat.le_refl _) (.cells #[.int .u8 (128 + ((dgB m).length : Int))] 5)
  have hlit := World.ownsRow_lit (base := w1.heap.size) (e := 5) (size := 1) w1 #[.int .u8 (128 + ((dgB m).length : Int))] 1 (Nat.le_refl _) (by unfold maxLen; omega) rfl
  have hmx : 1 + (dgB m).length ≤ maxLen := by unfold maxLen; omega
  have hby : (1 + (dgB m).length) * 1 ≤ 140737488355328 := by omega
  have hbs : w1.heap.size ≤ (w1.alloc (.cells #[.int .u8 (128 + ((dgB m).length : Int))] 5)).heap.size := by simp
  have henc : Hid ([Value.int .u8 (128 + ((dgB m).length : Int))] ++ u8s (dgB m) = u8s (encB m)) := by
    show _ = _
    unfold encB
    rw [if_pos (by omega)]
    have e : (128 + (dg m).length) % 256 = 128 + (dg m).length := by
      rw [dgB, bts_len] at hL; omega
    simp [u8s, dgB, bts_len, e]
  have hlen : Hid (1 + (dgB m).length = (encB m).length) := by
    show _ = _
    unfold encB
    rw [if_pos (by omega)]
    simp [Nat.add_comm]
  go_wp2_with (at_builtin; refine wpList_append_rd rfl (.tmp 22) (.tmp 23) _ rfl w1.heap.size 5 i0 _ 1 1 Tryd.underlying59 hi hz0 hz1 hz2 rfl (by omega) (.slice (some ⟨w1.heap.size, 0, none⟩) 1 1) 1 _ rfl hlit w1.heap.size A (dgB m).length c (u8s (dgB m)) rfl hrd (u8s_one _) hmx hby hbs ?_; intro v2 w2 hown2 hg2 hat2; have hcv := run_convert_own Tryd.underlying59 Tryd.underlying5 Tryd.underlying9 (own_of_eq hlen.out henc.out hown2))
  go_ret2
  exact ⟨rfl, hb.trans (((below_alloc _ _).grown hg2 hbs (fun k e => (hlit.lt k e).1)).mono hb.size)⟩

theorem encB_neg_eq (m : Nat) : encB (-(m : Int) - 1) = UInt8.ofNat (127 - (dgB m).length) :: (dgB m).map (255 - ·) := by
  unfold encB
  rw [if_neg (by omega), show (-(-(m : Int) - 1) - 1).toNat = m from by omega, dgB, bts_len]
theorem u8_255 (b : UInt8) : (((255 - b : UInt8).toNat : Nat) : Int) = 255 - (b.toNat : Int) := by
  have hb := b.toNat_lt
  rw [UInt8.toNat_sub_of_le _ _ (by rw [UInt8.le_iff_toNat_le]; simp; omega)]
  simp
  omega
theorem u8s_take_255 (l : List UInt8) (h : UInt8) (k : Nat) (hk : k < l.length) :
    u8s (h :: (l.take k).map (255 - ·)) ++ [.int .u8 (255 - (l[k].toNat : Int))] = u8s (h :: (l.take (k + 1)).map (255 - ·)) := by
  rw [List.take_succ_eq_append_getElem hk, List.map_append, ← List.cons_append, u8s_append]
  congr 1
  simp [u8s, u8_255]

set_option maxRecDepth 100000 in
set_option maxHeartbeats 1600000 in
theorem refInt_neg (m : Nat) (hm : m < 4611686018427387904) (w : World) : Calls Tryd.prog 38 #[.int .i64 (-(m : Int) - 1)] w (Ret (encRes (-(m : Int) - 1)) w) := by
  have hr : encRes (-(m : Int) - 1) = .tuple #[.string ⟨(encB (-(m : Int) - 1)).toArray⟩, .int .i64 0] := by unfold encRes; rw [if_pos (by omega)]
  rw [hr, encB_neg_eq]
  clear hr
  obtain ⟨i0, hi, hz0, hz1, hz2⟩ := info_parts u8info
  obtain ⟨n, hn⟩ : ∃ n : Int, -(m : Int) - 1 = n := ⟨_, rfl⟩
  rw [hn]
  have h1 : n < 0 := by omega
  have h2 : -4611686018427387904 ≤ n := by omega
  have hn' : -n - 1 = (m : Int) := by omega
  clear hn
  go_enter Tryd.func38, Tryd.ntmps38
  go_wp2_with fail
  refine (magnitude_any m (by omega) _).mono ?_
  rintro e w1 ⟨v, rfl, hown, hb⟩
  obtain ⟨A, c, rfl⟩ := own_form hown
  have hL : (dgB m).length ≤ 8 := by rw [dgB, bts_len]; exact dg_len 8 m (by omega)
  have hrd : Rd w1 w1.heap.size 1 A (dgB m).length (u8s (dgB m)) := Rd.of_own hown
  go_wp2
  have hhd : Hid ((127 - ((dgB m).length : Int)) = ((UInt8.ofNat (127 - (dgB m).length)).toNat : Int)) := by
    show _ = _
    simp
    omega
  have hlit := World.ownsRow_lit (base := w1.heap.size) (e := 5) (size := 1) w1 #[.int .u8 (127 - ((dgB m).length : Int))] 1 (Nat.le_refl _) (by unfold maxLen; omega) rfl
  have hst0 : Hid ([Value.int .u8 (127 - ((dgB m).length : Int))] = u8s (UInt8.ofNat (127 - (dgB m).length) :: ((dgB m).take 0).map (255 - ·))) := by
    show _ = _
    rw [hhd.out]; rfl
  go_loopw [6, 7] (fun v i wr => ∃ k : Nat, i = .int .i64 k ∧ k ≤ (dgB m).length ∧ wr.ownsRow w1.heap.size 5 1 v (k + 1) (u8s (UInt8.ofNat (127 - (dgB m).length) :: ((dgB m).take k).map (255 - ·))) ∧ Below w1.heap.size w1 wr) (fun _ i _ => (dgB m).length - (intOf i).toNat)
  case atStart => exact ⟨0, rfl, by omega, hst0.out ▸ hlit, below_alloc _ _⟩
  case round =>
    obtain ⟨k, rfl, hk, hown1, hb1⟩ := hrel
    by_cases hlt : k < (dgB m).length
    · obtain ⟨b, off, rfl, hbb, hc⟩ := (hrd.below hb1).addr (by omega)
      have hc1 := hc k _ (u8s_at _ k hlt)
      clear hc
      have hst := Lib.hid (u8s_take_255 (dgB m) (UInt8.ofNat (127 - (dgB m).length)) k hlt)
      have hu := (dgB m)[k].toNat_lt
      have hu1 : (((dgB m)[k].toNat : Nat) : Int) ≤ 255 := by omega
      have hmx : k + 1 + 1 ≤ maxLen := by unfold maxLen; omega
      have hby : (k + 1 + 1) * 1 ≤ 140737488355328 := by omega
      have hbs : w1.heap.size ≤ (wr.alloc (.cells #[.int .u8 (255 - ((dgB m)[k].toNat : Int))] 5)).heap.size := by have := hb1.size; simp; omega
      go_wp2_with (at_builtin; refine wpList_append_own _ rfl (.tmp 41) (.tmp 47) _ rfl w1.heap.size 5 i0 (.int .u8 0) 1 1 Tryd.underlying59 hi hz0 hz1 hz2 rfl (by omega) _ _ _ rfl (hown1.alloc _) ⟨wr.heap.size, 0, none⟩ 1 1 [.int .u8 (255 - ((dgB m)[k].toNat : Int))] rfl rfl (cell_one_new _ _ _) (by simp [Value.oneCell']) hmx hby hbs ?_; intro v2 w2 hown2 hg2 _)
      refine ⟨⟨k + 1, by go_num, by omega, by rw [← hst.out]; exact hown2, hb1.trans ((below_alloc2 hb1.size _).grown hg2 hbs (fun g e => (hown1.lt g e).1))⟩, by simp [intOf]; omega⟩
    · obtain rfl : k = (dgB m).length := by omega
      rw [List.take_length] at hown1
      have hcv := run_convert_own (src := 59) (dst := 9) Tryd.underlying59 Tryd.underlying5 Tryd.underlying9 (own_of_eq (by simp) rfl hown1)
      go_wp2
      go_ret2
      exact ⟨rfl, hb.trans (hb1.mono hb.size)⟩

theorem refInt_any (n : Int) (w : World) : Calls Tryd.prog 38 #[.int .i64 n] w (Ret (encRes n) w) := by
  by_cases h : n < -4611686018427387904 ∨ 4611686018427387904 < n
  · exact refInt_out n h w
  · by_cases h0 : 0 ≤ n
    · obtain ⟨m, rfl⟩ : ∃ m : Nat, n = m := ⟨n.toNat, by omega⟩
      exact refInt_nn m (by omega) w
    · obtain ⟨m, rfl⟩ : ∃ m : Nat, n = -(m : Int) - 1 := ⟨(-n - 1).toNat, by omega⟩
      exact refInt_neg m (by omega) w
theorem integer_any (n : Int) (h1 : -4611686018427387904 ≤ n) (h2 : n ≤ 4611686018427387904) (w : World) : Calls Tryd.prog 35 #[.int .i64 n] w (Ret (.string ⟨(encB n).toArray⟩) w) := by
  refine (callsIn_wide (n := 3)).1 ?_
  by_cases h0 : 0 ≤ n
  · obtain ⟨m, rfl⟩ : ∃ m : Nat, n = m := ⟨n.toNat, by omega⟩
    exact integer_nn Fence.wide 3 (fun _ => trivial) rfl (by omega) m (by omega) w
  · obtain ⟨m, rfl⟩ : ∃ m : Nat, n = -(m : Int) - 1 := ⟨(-n - 1).toNat, by omega⟩
    exact integer_neg Fence.wide 3 (fun _ => trivial) rfl (by omega) m (by omega) w
end Go.Proofs.YtaficbkaofhjeaaDoor
