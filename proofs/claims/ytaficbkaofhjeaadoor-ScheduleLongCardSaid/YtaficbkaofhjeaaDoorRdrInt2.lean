/- codec.reader.integer, walked on. Conditions: the string is shorter than 2^61. -/
import Derived.Test.YtaficbkaofhjeaaDoorRdrInt
namespace Go.Proofs.YtaficbkaofhjeaaDoor
open Go.RowKit

theorem or_byte (m c : Nat) (hm : m < 72057594037927936) (hc : c < 256) : bits BinOp.or IntKind.u64 ((m : Int) * 256) (c : Int) = ((m * 256 + c : Nat) : Int) := by
  have e : ((m : Int) * 256) = ((m * 256 : Nat) : Int) := by omega
  rw [e, u64_or_nat _ _ (by omega) (by omega)]
  congr 1
  have := Nat.two_pow_add_eq_or_of_lt (i := 8) (b := c) (by omega) m
  rw [Nat.mul_comm (2 ^ 8) m] at this
  exact this.symm

theorem ext_eq {L : List UInt8} {s : ByteArray} {a j : Nat} {h : UInt8} {t : List UInt8} (hs : s = ⟨L.toArray⟩) (hd : L.drop a = h :: t) (_hj : j ≤ t.length) :
    (s.extract a ((a : Int) + 1 + (j : Int)).toNat).toList = h :: t.take j := by
  subst hs
  rw [ByteArray.toList_eq, ByteArray.data_extract, show ((a : Int) + 1 + (j : Int)).toNat = a + 1 + j from by omega]
  simp only [List.extract_toArray, List.extract_eq_take_drop, show a + 1 + j - a = j + 1 from by omega]
  rw [hd]; rfl

/-- How far the loop of integer has come: j rounds; all bytes were there, or one was missing. -/
def Come (neg : Bool) (t : List UInt8) (b : Nat) (s : ByteArray) (a k j : Nat) (m : Nat) (wr : World) : Prop :=
  (Rdr wr b s (a + 1 + j) 0 ∧ j ≤ t.length ∧ m = valB neg (t.take j)) ∨ (Rdr wr b s s.size 11 ∧ t.length < k ∧ t.length < j)

set_option maxRecDepth 100000 in
set_option maxHeartbeats 3200000 in
theorem rdrInt_pos (L : List UInt8) (b : Nat) (s : ByteArray) (hsL : s = ⟨L.toArray⟩) (a : Nat) (h : UInt8) (t : List UInt8) (hd : L.drop a = h :: t) (h8 : ¬ 8 < more h) (hn : isNeg h = false) (hs : L.length < 2305843009213693952) (w : World) (hrd : Rdr w b s a 0) :
    Calls Tryd.prog 40 #[.pointer (some ⟨b, 0, none⟩)] w (RetI (rdInt (h :: t)) b s a w) := by
  have hsz : s.size = L.length := by subst hsL; simp [ByteArray.size]
  have htl : a + 1 + t.length = L.length := by
    have := congrArg List.length hd
    simp at this
    by_cases hh : a ≤ L.length <;> omega
  have hat : a < s.size := by omega
  have hsa : s[a] = h := by
    subst hsL
    have : L[a]'(by omega) = h := by
      have := List.drop_eq_getElem_cons (l := L) (i := a) (by omega)
      rw [hd] at this
      exact (List.cons.inj this).1.symm
    exact this
  have hit : Hid (∀ (j : Nat) (hj : j < t.length) (h2 : a + 1 + j < s.size), s[a + 1 + j] = t[j]) := by
    intro j hj h2
    have h1 : L[a + 1 + j]'(by omega) = t[j] := by
      have : (L.drop a)[j + 1]? = t[j]? := by rw [hd]; rfl
      rw [List.getElem?_drop, show a + (j + 1) = a + 1 + j from by omega, List.getElem?_eq_getElem (by omega), List.getElem?_eq_getElem hj] at this
      exact Option.some.inj this
    subst hsL
    exact h1
  have h1 := hrd.cell 1
  simp at h1
  have hlt := h.toNat_lt
  have H8 := Lib.hid h8
  have HN := Lib.hid hn
  have HD := Lib.hid hd
  have HSL := Lib.hid hsL
  have HSZ := Lib.hid hsz
  have HTL := Lib.hid htl
  obtain ⟨hm, hp⟩ := more_pos hn
  have h82 : h.toNat ≤ 136 := by rw [far_iff] at h8; omega
  obtain ⟨k, hk⟩ : ∃ k : Nat, k = h.toNat - 128 := ⟨_, rfl⟩
  have HK : Hid (more h = k) := by show _ = _; omega
  have hk1 : (h.toNat : Int) - 128 = (k : Int) := by omega
  have hk8 : k ≤ 8 := by omega
  have hdec : decide ((h.toNat : Int) ≤ 127) = false := by simp; omega
  have hs62 : s.size < 4611686018427387904 := by omega
  clear hm hn h8 hk hd hsz htl hsL
  go_enter Tryd.func40, Tryd.ntmps40
  go_wp2_with fail
  refine (next_yes b s a 0 hs62 hat _ hrd).mono ?_
  rintro e w1 ⟨rfl, hr1, hg1⟩
  have h2 := hr1.cell 2
  simp at h2
  go_wp2
  go_loopw [7, 8, 34] (fun n _ i wr => ∃ (j m : Nat), i = .int .i64 j ∧ j ≤ k ∧ n = .int .u64 (m : Nat) ∧ m < 256 ^ j ∧ Come false t b s a k j m wr ∧ w1.grownBy wr (some b)) (fun _ _ i _ => k - (intOf i).toNat)
  case atStart => exact ⟨0, 0, rfl, by omega, rfl, by simp, .inl ⟨hr1, by omega, by simp [valB]⟩, only_refl _ _⟩
  case round =>
    obtain ⟨j, m, rfl, hj, rfl, hmj, hcome, hg⟩ := hrel
    have HM := Lib.hid hmj
    clear hmj
    by_cases hjk : j < k
    · have hm56 : m < 72057594037927936 := by
        have h1 := HM.out
        have h2 : 256 ^ j ≤ 256 ^ 7 := Nat.pow_le_pow_right (by omega) (by omega)
        omega
      have HP : Hid (∀ c : Nat, c < 256 → m * 256 + c < 256 ^ (j + 1)) := by
        intro c hc
        have h1 := HM.out
        rw [Nat.pow_succ]
        omega
      rcases hcome with ⟨hr, hjt, hmv⟩ | ⟨hr, htk, htj⟩
      · have HMV := Lib.hid hmv
        clear hmv
        by_cases hjt2 : j < t.length
        · have hat2 : a + 1 + j < s.size := by have := HSZ.out; have := HTL.out; omega
          have hij := hit.out j hjt2 hat2
          have hst := Lib.hid (valB_step false t hjt2)
          obtain ⟨c, hc⟩ : ∃ c : UInt8, t[j] = c := ⟨_, rfl⟩
          rw [hc] at hij hst
          have hcl := c.toNat_lt
          have hst2 : Hid (valB false (t.take (j + 1)) = valB false (t.take j) * 256 + c.toNat) := hst.out
          have hor := or_byte m c.toNat hm56 (by omega)
          clear hc hst
          go_wp2_with fail
          refine (next_yes b s (a + 1 + j) 0 hs62 hat2 _ hr).mono ?_
          rintro e w2 ⟨rfl, hr2, hg2⟩
          go_wp2
          exact ⟨⟨j + 1, m * 256 + c.toNat, by go_num, by omega, rfl, HP.out _ (by omega), .inl ⟨hr2, by omega, by rw [hst2.out, HMV.out]⟩, World.grownBy.trans hg hg2⟩, by simp [intOf]; omega⟩
        · have hend : a + 1 + j = s.size := by have := HSZ.out; have := HTL.out; omega
          have hor := or_byte m (0 : Nat) hm56 (by omega)
          rw [hend] at hr
          have HEND := Lib.hid hend
          have hlate : t.length < k ∧ t.length < j + 1 := by omega
          clear hend
          go_wp2_with fail
          refine (next_no b s s.size hs62 rfl _ hr).mono ?_
          rintro e w2 ⟨rfl, hr2, hg2⟩
          go_wp2
          exact ⟨⟨j + 1, m * 256 + (0 : Nat), by go_num, by omega, by first | rfl | exact congrArg _ (by simpa using hor), HP.out _ (by omega), .inr ⟨hr2, hlate⟩, World.grownBy.trans hg hg2⟩, by simp [intOf]; omega⟩
      · have hor := or_byte m (0 : Nat) hm56 (by omega)
        have hlate : t.length < k ∧ t.length < j + 1 := by omega
        go_wp2_with fail
        refine (next_past b s s.size 11 (by decide) hs62 rfl _ hr).mono ?_
        rintro e w2 ⟨rfl, hr2, hg2⟩
        go_wp2
        exact ⟨⟨j + 1, m * 256 + (0 : Nat), by go_num, by omega, by first | rfl | exact congrArg _ (by simpa using hor), HP.out _ (by omega), .inr ⟨hr2, hlate⟩, World.grownBy.trans hg hg2⟩, by simp [intOf]; omega⟩
    · obtain rfl : j = k := by omega
      rcases hcome with ⟨hr, hjt, hmv⟩ | ⟨hr, htk, htj⟩
      · have HMV := Lib.hid hmv
        clear hmv
        have hm64 : m < 18446744073709551616 := by
          have h1 := HM.out
          have h2 : 256 ^ j ≤ 256 ^ 8 := Nat.pow_le_pow_right (by omega) (by omega)
          omega
        have h3 := hr.cell 2
        simp at h3
        by_cases hbig : 4611686018427387904 < m
        · have hbig' : (4611686018427387904 : Int) < (m : Int) := by omega
          have hgr := rd_great (t := t) (j := j) H8.out (by rw [HK.out]; omega) HK.out (Nat.le_refl _) (by rw [HN.out, ← HMV.out]; exact hbig)
          have HR := Lib.hid hgr
          clear hgr
          go_wp2_with fail
          refine (fail_first b s (a + 1 + j) 12 _ hr).mono ?_
          rintro e w3 ⟨rfl, hr3, hg3⟩
          go_wp2
          go_ret
          exact retI_no HR.out (by decide) hr3 (World.grownBy.trans hg1 (World.grownBy.trans hg hg3))
        · have hnb : decide ((4611686018427387904 : Int) < (m : Int)) = false := by simp; omega
          have HMX : Hid (¬ (4611686018427387904 < valB (isNeg h) (t.take (more h)) ∨ isNeg h = true ∧ 4611686018427387904 ≤ valB (isNeg h) (t.take (more h)))) := by
            show ¬ _
            rw [HK.out, HN.out, ← HMV.out]
            simp; omega
          have c0 := hr.cell 0
          have c1 := hr.cell 1
          simp at c0 c1
          have hbw := hr.lt
          have hi1 : (-4611686018427387904 : Int) ≤ (m : Int) := by omega
          have hi2 : (m : Int) ≤ 4611686018427387904 := by omega
          have hx1 : (0 : Int) ≤ (a : Int) := by omega
          have hx2 : (a : Int) ≤ (a : Int) + 1 + (j : Int) := by omega
          have hx3 : (a : Int) + 1 + (j : Int) ≤ (s.size : Int) := by have := HSZ.out; have := HTL.out; omega
          go_wp2
          go_region_held3 (fun w' => w'.cell? ⟨b, 0, none⟩ = some (.string s) ∧ w'.cell? ⟨b, 1, none⟩ = some (.int .i64 ((a : Int) + 1 + (j : Int)))) (first | exact ⟨c0, c1⟩ | exact ⟨(hb3.cell (p := ⟨b, 0, none⟩) hbw).trans c0, (hb3.cell (p := ⟨b, 1, none⟩) hbw).trans c1⟩) (first | (go_at_call 35; refine (integer_any (m : Int) hi1 hi2 _).mono ?_; rintro e w3 ⟨rfl, hb3⟩))
          have hr3 : Rdr w3 b s (a + 1 + j) 0 := (hr.drewN 1).below hb3 hbw
          have hg3 : wr.grownBy w3 (some b) := World.grownBy.trans (only_drewN wr 1 b) (only_below hb3 (Nat.le_refl _) b)
          have HB3 := Lib.hid hb3
          clear hb3
          go_wp2_with fail
          · have hv : (!encB (m : Int) == (s.extract a ((a : Int) + 1 + (j : Int)).toNat).toList) = true := by assumption
            rw [ext_eq HSL.out HD.out hjt] at hv
            have hne : ¬ encB (valI (isNeg h) (valB (isNeg h) (t.take (more h)))) = h :: t.take (more h) := by
              rw [HK.out, HN.out, ← HMV.out]
              simpa [valI] using hv
            have HR := Lib.hid (rdInt_form H8.out (by rw [HK.out]; omega) hne)
            clear hne hv
            refine (fail_first b s (a + 1 + j) 12 _ hr3).mono ?_
            rintro e w4 ⟨rfl, hr4, hg4⟩
            go_wp2
            go_ret
            exact retI_no HR.out (by decide) hr4 (World.grownBy.trans hg1 (World.grownBy.trans hg (World.grownBy.trans hg3 hg4)))
          · have hv : (!encB (m : Int) == (s.extract a ((a : Int) + 1 + (j : Int)).toNat).toList) = false := by assumption
            rw [ext_eq HSL.out HD.out hjt] at hv
            have hne : encB (valI (isNeg h) (valB (isNeg h) (t.take (more h)))) = h :: t.take (more h) := by
              rw [HK.out, HN.out, ← HMV.out]
              simpa [valI] using hv
            have HR := rdInt_fine H8.out (by rw [HK.out]; omega) HMX.out hne
            rw [HK.out, HN.out, ← HMV.out] at HR
            go_ret
            exact retI_yes HR (by rw [← Nat.add_assoc]; exact hr3) (World.grownBy.trans hg1 (World.grownBy.trans hg hg3))
      · have hsh := rdInt_short (t := t) H8.out (by rw [HK.out]; exact htk)
        have HR := Lib.hid hsh
        have h3 := hr.cell 2
        simp at h3
        clear hsh
        go_wp2
        go_ret
        exact retI_no HR.out (by decide) hr (World.grownBy.trans hg1 hg)

set_option maxRecDepth 100000 in
set_option maxHeartbeats 3200000 in
theorem rdrInt_neg (L : List UInt8) (b : Nat) (s : ByteArray) (hsL : s = ⟨L.toArray⟩) (a : Nat) (h : UInt8) (t : List UInt8) (hd : L.drop a = h :: t) (h8 : ¬ 8 < more h) (hn : isNeg h = true) (hs : L.length < 2305843009213693952) (w : World) (hrd : Rdr w b s a 0) :
    Calls Tryd.prog 40 #[.pointer (some ⟨b, 0, none⟩)] w (RetI (rdInt (h :: t)) b s a w) := by
  have hsz : s.size = L.length := by subst hsL; simp [ByteArray.size]
  have htl : a + 1 + t.length = L.length := by
    have := congrArg List.length hd
    simp at this
    by_cases hh : a ≤ L.length <;> omega
  have hat : a < s.size := by omega
  have hsa : s[a] = h := by
    subst hsL
    have : L[a]'(by omega) = h := by
      have := List.drop_eq_getElem_cons (l := L) (i := a) (by omega)
      rw [hd] at this
      exact (List.cons.inj this).1.symm
    exact this
  have hit : Hid (∀ (j : Nat) (hj : j < t.length) (h2 : a + 1 + j < s.size), s[a + 1 + j] = t[j]) := by
    intro j hj h2
    have h1 : L[a + 1 + j]'(by omega) = t[j] := by
      have : (L.drop a)[j + 1]? = t[j]? := by rw [hd]; rfl
      rw [List.getElem?_drop, show a + (j + 1) = a + 1 + j from by omega, List.getElem?_eq_getElem (by omega), List.getElem?_eq_getElem hj] at this
      exact Option.some.inj this
    subst hsL
    exact h1
  have h1 := hrd.cell 1
  simp at h1
  have hlt := h.toNat_lt
  have H8 := Lib.hid h8
  have HN := Lib.hid hn
  have HD := Lib.hid hd
  have HSL := Lib.hid hsL
  have HSZ := Lib.hid hsz
  have HTL := Lib.hid htl
  obtain ⟨hm, hp⟩ := more_neg hn
  have h82 : h.toNat ≤ 127 ∧ 119 ≤ h.toNat := by rw [far_iff] at h8; omega
  obtain ⟨k, hk⟩ : ∃ k : Nat, k = 127 - h.toNat := ⟨_, rfl⟩
  have HK : Hid (more h = k) := by show _ = _; omega
  have hk1 : 127 - (h.toNat : Int) = (k : Int) := by omega
  have hk8 : k ≤ 8 := by omega
  have hdec : decide ((h.toNat : Int) ≤ 127) = true := by simp; omega
  have hs62 : s.size < 4611686018427387904 := by omega
  clear hm hn h8 hk hd hsz htl hsL
  go_enter Tryd.func40, Tryd.ntmps40
  go_wp2_with fail
  refine (next_yes b s a 0 hs62 hat _ hrd).mono ?_
  rintro e w1 ⟨rfl, hr1, hg1⟩
  have h2 := hr1.cell 2
  simp at h2
  go_wp2
  go_loopw [7, 8, 34] (fun n _ i wr => ∃ (j m : Nat), i = .int .i64 j ∧ j ≤ k ∧ n = .int .u64 (m : Nat) ∧ m < 256 ^ j ∧ Come true t b s a k j m wr ∧ w1.grownBy wr (some b)) (fun _ _ i _ => k - (intOf i).toNat)
  case atStart => exact ⟨0, 0, rfl, by omega, rfl, by simp, .inl ⟨hr1, by omega, by simp [valB]⟩, only_refl _ _⟩
  case round =>
    obtain ⟨j, m, rfl, hj, rfl, hmj, hcome, hg⟩ := hrel
    have HM := Lib.hid hmj
    clear hmj
    by_cases hjk : j < k
    · have hm56 : m < 72057594037927936 := by
        have h1 := HM.out
        have h2 : 256 ^ j ≤ 256 ^ 7 := Nat.pow_le_pow_right (by omega) (by omega)
        omega
      have HP : Hid (∀ c : Nat, c < 256 → m * 256 + c < 256 ^ (j + 1)) := by
        intro c hc
        have h1 := HM.out
        rw [Nat.pow_succ]
        omega
      rcases hcome with ⟨hr, hjt, hmv⟩ | ⟨hr, htk, htj⟩
      · have HMV := Lib.hid hmv
        clear hmv
        by_cases hjt2 : j < t.length
        · have hat2 : a + 1 + j < s.size := by have := HSZ.out; have := HTL.out; omega
          have hij := hit.out j hjt2 hat2
          have hst := Lib.hid (valB_step true t hjt2)
          obtain ⟨c, hc⟩ : ∃ c : UInt8, t[j] = c := ⟨_, rfl⟩
          rw [hc] at hij hst
          have hcl := c.toNat_lt
          have hst2 : Hid (valB true (t.take (j + 1)) = valB true (t.take j) * 256 + (255 - c.toNat)) := hst.out
          have hor := or_byte m (255 - c.toNat) hm56 (by omega)
          rw [show ((255 - c.toNat : Nat) : Int) = 255 - (c.toNat : Int) from by omega] at hor
          clear hc hst
          go_wp2_with fail
          refine (next_yes b s (a + 1 + j) 0 hs62 hat2 _ hr).mono ?_
          rintro e w2 ⟨rfl, hr2, hg2⟩
          go_wp2
          exact ⟨⟨j + 1, m * 256 + (255 - c.toNat), by go_num, by omega, rfl, HP.out _ (by omega), .inl ⟨hr2, by omega, by rw [hst2.out, HMV.out]⟩, World.grownBy.trans hg hg2⟩, by simp [intOf]; omega⟩
        · have hend : a + 1 + j = s.size := by have := HSZ.out; have := HTL.out; omega
          have hor := or_byte m (255 : Nat) hm56 (by omega)
          rw [hend] at hr
          have HEND := Lib.hid hend
          have hlate : t.length < k ∧ t.length < j + 1 := by omega
          clear hend
          go_wp2_with fail
          refine (next_no b s s.size hs62 rfl _ hr).mono ?_
          rintro e w2 ⟨rfl, hr2, hg2⟩
          go_wp2
          exact ⟨⟨j + 1, m * 256 + (255 : Nat), by go_num, by omega, by first | rfl | exact congrArg _ (by simpa using hor), HP.out _ (by omega), .inr ⟨hr2, hlate⟩, World.grownBy.trans hg hg2⟩, by simp [intOf]; omega⟩
      · have hor := or_byte m (255 : Nat) hm56 (by omega)
        have hlate : t.length < k ∧ t.length < j + 1 := by omega
        go_wp2_with fail
        refine (next_past b s s.size 11 (by decide) hs62 rfl _ hr).mono ?_
        rintro e w2 ⟨rfl, hr2, hg2⟩
        go_wp2
        exact ⟨⟨j + 1, m * 256 + (255 : Nat), by go_num, by omega, by first | rfl | exact congrArg _ (by simpa using hor), HP.out _ (by omega), .inr ⟨hr2, hlate⟩, World.grownBy.trans hg hg2⟩, by simp [intOf]; omega⟩
    · obtain rfl : j = k := by omega
      rcases hcome with ⟨hr, hjt, hmv⟩ | ⟨hr, htk, htj⟩
      · have HMV := Lib.hid hmv
        clear hmv
        have hm64 : m < 18446744073709551616 := by
          have h1 := HM.out
          have h2 : 256 ^ j ≤ 256 ^ 8 := Nat.pow_le_pow_right (by omega) (by omega)
          omega
        have h3 := hr.cell 2
        simp at h3
        by_cases hbig : 4611686018427387904 < m
        · have hbig' : (4611686018427387904 : Int) < (m : Int) := by omega
          have hgr := rd_great (t := t) (j := j) H8.out (by rw [HK.out]; omega) HK.out (Nat.le_refl _) (by rw [HN.out, ← HMV.out]; exact hbig)
          have HR := Lib.hid hgr
          clear hgr
          go_wp2_with fail
          refine (fail_first b s (a + 1 + j) 12 _ hr).mono ?_
          rintro e w3 ⟨rfl, hr3, hg3⟩
          go_wp2
          go_ret
          exact retI_no HR.out (by decide) hr3 (World.grownBy.trans hg1 (World.grownBy.trans hg hg3))
        · have hnb : decide ((4611686018427387904 : Int) < (m : Int)) = false := by simp; omega
          by_cases hedge : m = 4611686018427387904
          · have hgr := rd_edge (t := t) (k := j) H8.out (by rw [HK.out]; omega) HK.out HN.out (by rw [HN.out, ← HMV.out]; exact hedge)
            have HR := Lib.hid hgr
            have hnb2 : decide ((4611686018427387904 : Int) ≤ (m : Int)) = true := by simp; omega
            clear hgr hedge
            go_wp2_with fail
            refine (fail_first b s (a + 1 + j) 12 _ hr).mono ?_
            rintro e w3 ⟨rfl, hr3, hg3⟩
            go_wp2
            go_ret
            exact retI_no HR.out (by decide) hr3 (World.grownBy.trans hg1 (World.grownBy.trans hg hg3))
          · have HMX : Hid (¬ (4611686018427387904 < valB (isNeg h) (t.take (more h)) ∨ isNeg h = true ∧ 4611686018427387904 ≤ valB (isNeg h) (t.take (more h)))) := by
              show ¬ _
              rw [HK.out, HN.out, ← HMV.out]
              omega
            have c0 := hr.cell 0
            have c1 := hr.cell 1
            simp at c0 c1
            have hbw := hr.lt
            have hi1 : (-4611686018427387904 : Int) ≤ (-(m : Int) - 1) := by omega
            have hi2 : (-(m : Int) - 1) ≤ 4611686018427387904 := by omega
            have hx1 : (0 : Int) ≤ (a : Int) := by omega
            have hx2 : (a : Int) ≤ (a : Int) + 1 + (j : Int) := by omega
            have hx3 : (a : Int) + 1 + (j : Int) ≤ (s.size : Int) := by have := HSZ.out; have := HTL.out; omega
            have hnb2 : decide ((4611686018427387904 : Int) ≤ (m : Int)) = false := by simp; omega
            go_wp2
            go_region_held3 (fun w' => w'.cell? ⟨b, 0, none⟩ = some (.string s) ∧ w'.cell? ⟨b, 1, none⟩ = some (.int .i64 ((a : Int) + 1 + (j : Int)))) (first | exact ⟨c0, c1⟩ | exact ⟨(hb3.cell (p := ⟨b, 0, none⟩) hbw).trans c0, (hb3.cell (p := ⟨b, 1, none⟩) hbw).trans c1⟩) (first | (go_at_call 35; refine (integer_any (-(m : Int) - 1) hi1 hi2 _).mono ?_; rintro e w3 ⟨rfl, hb3⟩))
            have hr3 : Rdr w3 b s (a + 1 + j) 0 := (hr.drewN 1).below hb3 hbw
            have hg3 : wr.grownBy w3 (some b) := World.grownBy.trans (only_drewN wr 1 b) (only_below hb3 (Nat.le_refl _) b)
            have HB3 := Lib.hid hb3
            clear hb3
            go_wp2_with fail
            · have hv : (!encB (-(m : Int) - 1) == (s.extract a ((a : Int) + 1 + (j : Int)).toNat).toList) = true := by assumption
              rw [ext_eq HSL.out HD.out hjt] at hv
              have hne : ¬ encB (valI (isNeg h) (valB (isNeg h) (t.take (more h)))) = h :: t.take (more h) := by
                rw [HK.out, HN.out, ← HMV.out]
                simpa [valI] using hv
              have HR := Lib.hid (rdInt_form H8.out (by rw [HK.out]; omega) hne)
              clear hne hv
              refine (fail_first b s (a + 1 + j) 12 _ hr3).mono ?_
              rintro e w4 ⟨rfl, hr4, hg4⟩
              go_wp2
              go_ret
              exact retI_no HR.out (by decide) hr4 (World.grownBy.trans hg1 (World.grownBy.trans hg (World.grownBy.trans hg3 hg4)))
            · have hv : (!encB (-(m : Int) - 1) == (s.extract a ((a : Int) + 1 + (j : Int)).toNat).toList) = false := by assumption
              rw [ext_eq HSL.out HD.out hjt] at hv
              have hne : encB (valI (isNeg h) (valB (isNeg h) (t.take (more h)))) = h :: t.take (more h) := by
                rw [HK.out, HN.out, ← HMV.out]
                simpa [valI] using hv
              have HR := rdInt_fine H8.out (by rw [HK.out]; omega) HMX.out hne
              rw [HK.out, HN.out, ← HMV.out] at HR
              go_ret
              exact retI_yes HR (by rw [← Nat.add_assoc]; exact hr3) (World.grownBy.trans hg1 (World.grownBy.trans hg hg3))
      · have hsh := rdInt_short (t := t) H8.out (by rw [HK.out]; exact htk)
        have HR := Lib.hid hsh
        have h3 := hr.cell 2
        simp at h3
        clear hsh
        go_wp2
        go_ret
        exact retI_no HR.out (by decide) hr (World.grownBy.trans hg1 hg)

end Go.Proofs.YtaficbkaofhjeaaDoor
