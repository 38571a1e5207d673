/- ref01.ReadInt, walked. Conditions: the string is shorter than 2^62. -/
import Derived.Test.YtaficbkaofhjeaaDoorRefList
import Derived.Test.YtaficbkaofhjeaaDoorRdM
namespace Go.Proofs.YtaficbkaofhjeaaDoor
open Go.RowKit

/-- Three integers are returned; the world is as it was. -/
def Ret3 (r : Int × Nat × Int) (w : World) : Ending → World → Prop := fun e w' => e = .returned (.tuple #[.int .i64 r.1, .int .i64 (r.2.1 : Nat), .int .i64 r.2.2]) ∧ w = w'

theorem far_iff (h : UInt8) : 8 < more h ↔ h.toNat < 119 ∨ 136 < h.toNat := by
  have := h.toNat_lt
  unfold more isNeg
  by_cases h0 : h.toNat ≤ 127 <;> simp [h0] <;> omega
theorem more_neg {h : UInt8} (hn : isNeg h = true) : more h = 127 - h.toNat ∧ h.toNat ≤ 127 := by
  unfold more; rw [if_pos hn]; exact ⟨rfl, by simpa [isNeg] using hn⟩
theorem more_pos {h : UInt8} (hn : isNeg h = false) : more h = h.toNat - 128 ∧ 128 ≤ h.toNat := by
  unfold more; rw [if_neg (by simp [hn])]; exact ⟨rfl, by have : ¬ h.toNat ≤ 127 := by simpa [isNeg] using hn
                                                          omega⟩

set_option maxRecDepth 100000 in
set_option maxHeartbeats 1600000 in
theorem refReadInt_nil (w : World) : Calls Tryd.prog 42 #[.string ⟨#[]⟩] w (Ret3 (rdInt []) w) := by
  go_enter Tryd.func42, Tryd.ntmps42
  go_wp2
  go_ret3
  exact ⟨rfl, rfl⟩

set_option maxRecDepth 100000 in
set_option maxHeartbeats 1600000 in
theorem refReadInt_far (h : UInt8) (t : List UInt8) (hl : t.length < 4611686018427387904) (w : World) (h8 : 8 < more h) : Calls Tryd.prog 42 #[.string ⟨(h :: t).toArray⟩] w (Ret3 (rdInt (h :: t)) w) := by
  rw [rdInt_far h8]
  have h8' := (far_iff h).1 h8
  clear h8
  have hlt := h.toNat_lt
  obtain ⟨s, hs⟩ : ∃ s : ByteArray, s = ⟨(h :: t).toArray⟩ := ⟨_, rfl⟩
  have hsz : s.size = t.length + 1 := by rw [hs]; simp [ByteArray.size]
  have hs0 : 0 < s.size := by omega
  have hi0 : s[0].toNat = h.toNat := by subst hs; rfl
  rw [← hs]
  clear hs
  rcases h8' with h8' | h8'
  · go_enter Tryd.func42, Tryd.ntmps42
    go_wp2
    go_ret3
    exact ⟨rfl, rfl⟩
  · have h9 : ¬ h.toNat < 119 := by omega
    go_enter Tryd.func42, Tryd.ntmps42
    go_wp2
    go_ret3
    exact ⟨rfl, rfl⟩

set_option maxRecDepth 100000 in
set_option maxHeartbeats 1600000 in
theorem refReadInt_short (h : UInt8) (t : List UInt8) (hl : t.length < 4611686018427387904) (w : World) (h8 : ¬ 8 < more h) (hsh : t.length < more h) : Calls Tryd.prog 42 #[.string ⟨(h :: t).toArray⟩] w (Ret3 (rdInt (h :: t)) w) := by
  rw [rdInt_short h8 hsh]
  have h8' : ¬ h.toNat < 119 ∧ ¬ 136 < h.toNat := by rw [far_iff] at h8; omega
  obtain ⟨h81, h82⟩ := h8'
  clear h8
  have hlt := h.toNat_lt
  obtain ⟨s, hs⟩ : ∃ s : ByteArray, s = ⟨(h :: t).toArray⟩ := ⟨_, rfl⟩
  have hsz : s.size = t.length + 1 := by rw [hs]; simp [ByteArray.size]
  have hs0 : 0 < s.size := by omega
  have hi0 : s[0].toNat = h.toNat := by subst hs; rfl
  rw [← hs]
  clear hs
  cases hn : isNeg h
  · obtain ⟨hm, hp⟩ := more_pos hn
    rw [hm] at hsh
    have hp' : ¬ h.toNat < 128 := by omega
    clear hm hn
    go_enter Tryd.func42, Tryd.ntmps42
    go_wp2
    go_ret3
    exact ⟨rfl, rfl⟩
  · obtain ⟨hm, hp⟩ := more_neg hn
    rw [hm] at hsh
    have hp' : h.toNat < 128 := by omega
    clear hm hn
    go_enter Tryd.func42, Tryd.ntmps42
    go_wp2
    go_ret3
    exact ⟨rfl, rfl⟩

theorem ret3_of {r r' : Int × Nat × Int} (h : r = r') (w : World) : Ret3 r w (.returned (.tuple #[.int .i64 r'.1, .int .i64 (r'.2.1 : Nat), .int .i64 r'.2.2])) w := by subst h; exact ⟨rfl, rfl⟩

set_option maxRecDepth 100000 in
set_option maxHeartbeats 1600000 in
theorem refReadInt_pos (h : UInt8) (t : List UInt8) (hl : t.length < 4611686018427387904) (w : World) (h8 : ¬ 8 < more h) (hsh : ¬ t.length < more h) (hn : isNeg h = false) : Calls Tryd.prog 42 #[.string ⟨(h :: t).toArray⟩] w (Ret3 (rdInt (h :: t)) w) := by
  have h8' : ¬ h.toNat < 119 ∧ ¬ 136 < h.toNat := by rw [far_iff] at h8; omega
  obtain ⟨h81, h82⟩ := h8'
  have hlt := h.toNat_lt
  obtain ⟨s, hs⟩ : ∃ s : ByteArray, s = ⟨(h :: t).toArray⟩ := ⟨_, rfl⟩
  have hsz : s.size = t.length + 1 := by rw [hs]; simp [ByteArray.size]
  have hs0 : 0 < s.size := by omega
  have hi0 : s[0].toNat = h.toNat := by subst hs; rfl
  have hit : Hid (∀ (j : Nat) (hj : j < t.length), s[j + 1]'(by omega) = t[j]) := by subst hs; intro j hj; rfl
  rw [← hs]
  clear hs
  have H8 := Lib.hid h8
  have HN := Lib.hid hn
  have HS := Lib.hid hsh
  obtain ⟨hm, hp⟩ := more_pos hn
  obtain ⟨k, hk⟩ : ∃ k : Nat, k = h.toNat - 128 := ⟨_, rfl⟩
  have HK : Hid (more h = k) := by show _ = _; omega
  have hk1 : (h.toNat : Int) - 128 = (k : Int) := by omega
  have hkt : k ≤ t.length := by omega
  have hk8 : k ≤ 8 := by omega
  have hp' : ¬ h.toNat < 128 := by omega
  have hdec : decide ((h.toNat : Int) < 128) = false := by simp; omega
  clear hm hn h8 hsh hk
  go_enter Tryd.func42, Tryd.ntmps42
  go_wp2
  go_loop [8, 9] (fun n i => ∃ j : Nat, i = .int .i64 ((j : Int) + 1) ∧ j ≤ k ∧ n = .int .i64 (valB false (t.take j)) ∧ valB false (t.take j) ≤ 4611686018427387904 ∧ Hid (headFine false (t.take j))) (fun _ i => k + 1 - (intOf i).toNat)
  case atStart => exact ⟨0, rfl, by omega, rfl, by simp [valB], headFine_nil _⟩
  case round =>
    obtain ⟨j, rfl, hj, rfl, hv, hf⟩ := hrel
    by_cases hlt2 : j < k
    · have hjt : j < t.length := by omega
      have hst := Lib.hid (valB_step false t hjt)
      have hhs := Lib.hid (headFine_step false t hjt hf.out)
      obtain ⟨b, hb⟩ : ∃ b : UInt8, t[j] = b := ⟨_, rfl⟩
      have hij : s[j + 1]'(by omega) = b := (hit.out j hjt).trans hb
      have hbl := b.toNat_lt
      have HB := Lib.hid hb
      rw [hb] at hst hhs
      have hst2 : Hid (valB false (t.take (j + 1)) = valB false (t.take j) * 256 + b.toNat) := hst.out
      have bad : j = 0 ∧ b.toNat = 0 ∨ 4611686018427387904 < valB false (t.take j) * 256 + b.toNat → rdInt (h :: t) = (0, 0, 12) := by
        rintro (⟨e1, e2⟩ | e)
        · subst e1
          exact rd_zero H8.out HS.out HK.out (by omega) (by rw [HN.out, HB.out]; exact e2)
        · exact rd_great (j := j + 1) H8.out HS.out HK.out (by omega) (by rw [HN.out, hst2.out]; exact e)
      have BAD := Lib.hid bad
      clear hb hst bad
      obtain ⟨n, hn⟩ : ∃ n : Nat, valB false (t.take j) = n := ⟨_, rfl⟩
      rw [hn] at hst2 hv BAD ⊢
      have HNn := Lib.hid hn
      clear hn
      have fin0 : b.toNat ≠ 0 ∨ j ≠ 0 → headFine false (t.take (j + 1)) := fun e => hhs.out fun e2 => by
        rcases e with e | e
        · exact e
        · exact absurd e2 e
      have FIN := Lib.hid fin0
      clear fin0
      by_cases hb0 : b.toNat = 0
      · have hz1 : ((b.toNat : Int) == 0) = true := by rw [beq_iff_eq]; omega
        by_cases hj0 : j = 0
        · subst hj0
          have HR := Lib.hid (BAD.out (.inl ⟨rfl, hb0⟩))
          have HB0 := Lib.hid hb0
          clear hb0
          go_wp2
          go_ret3
          exact ret3_of HR.out w
        · have hj1 : ((j : Int) + 1 == 1) = false := by rw [beq_eq_false_iff_ne]; omega
          have HB0 := Lib.hid hb0
          clear hb0
          go_wp2
          all_goals first
            | (go_ret3
               exact ret3_of (BAD.out (.inr (by have := HB0.out; omega))) w)
            | exact ⟨⟨j + 1, by congr 1, by omega, by rw [hst2.out]; exact congrArg _ (by have := HB0.out; omega), by rw [hst2.out]; have := HB0.out; omega, FIN.out (.inr hj0)⟩, by simp [intOf]; omega⟩
      · have hz1 : ((b.toNat : Int) == 0) = false := by rw [beq_eq_false_iff_ne]; omega
        have HB0 := Lib.hid hb0
        clear hb0
        go_wp2
        all_goals first
          | (go_ret3
             exact ret3_of (BAD.out (.inr (by omega))) w)
          | exact ⟨⟨j + 1, by congr 1; omega, by omega, by rw [hst2.out]; exact congrArg _ (by omega), by rw [hst2.out]; omega, FIN.out (.inl HB0.out)⟩, by simp [intOf]; omega⟩
          | exact ⟨⟨j + 1, by congr 1, by omega, by rw [hst2.out]; exact congrArg _ (by omega), by rw [hst2.out]; omega, FIN.out (.inl HB0.out)⟩, by simp [intOf]; omega⟩
    · obtain rfl : j = k := by omega
      have hr := rd_ok (t := t) H8.out HS.out HK.out (by rw [HN.out]; exact hv) (by rw [HN.out]; exact fun e => by cases e) (by rw [HN.out]; exact hf.out)
      rw [HN.out] at hr
      have HR := Lib.hid hr
      obtain ⟨m, hm⟩ : ∃ m : Nat, valB false (t.take j) = m := ⟨_, rfl⟩
      rw [hm] at hv HR ⊢
      clear hr hm
      go_wp2
      go_ret3
      exact ret3_of HR.out w

set_option maxRecDepth 100000 in
set_option maxHeartbeats 1600000 in
theorem refReadInt_neg (h : UInt8) (t : List UInt8) (hl : t.length < 4611686018427387904) (w : World) (h8 : ¬ 8 < more h) (hsh : ¬ t.length < more h) (hn : isNeg h = true) : Calls Tryd.prog 42 #[.string ⟨(h :: t).toArray⟩] w (Ret3 (rdInt (h :: t)) w) := by
  have h8' : ¬ h.toNat < 119 ∧ ¬ 136 < h.toNat := by rw [far_iff] at h8; omega
  obtain ⟨h81, h82⟩ := h8'
  have hlt := h.toNat_lt
  obtain ⟨s, hs⟩ : ∃ s : ByteArray, s = ⟨(h :: t).toArray⟩ := ⟨_, rfl⟩
  have hsz : s.size = t.length + 1 := by rw [hs]; simp [ByteArray.size]
  have hs0 : 0 < s.size := by omega
  have hi0 : s[0].toNat = h.toNat := by subst hs; rfl
  have hit : Hid (∀ (j : Nat) (hj : j < t.length), s[j + 1]'(by omega) = t[j]) := by subst hs; intro j hj; rfl
  rw [← hs]
  clear hs
  have H8 := Lib.hid h8
  have HN := Lib.hid hn
  have HS := Lib.hid hsh
  obtain ⟨hm, hp⟩ := more_neg hn
  obtain ⟨k, hk⟩ : ∃ k : Nat, k = 127 - h.toNat := ⟨_, rfl⟩
  have HK : Hid (more h = k) := by show _ = _; omega
  have hk1 : 127 - (h.toNat : Int) = (k : Int) := by omega
  have hkt : k ≤ t.length := by omega
  have hk8 : k ≤ 8 := by omega
  have hp' : h.toNat < 128 := by omega
  have hdec : decide ((h.toNat : Int) < 128) = true := by simp; omega
  clear hm hn h8 hsh hk
  go_enter Tryd.func42, Tryd.ntmps42
  go_wp2
  go_loop [8, 9] (fun n i => ∃ j : Nat, i = .int .i64 ((j : Int) + 1) ∧ j ≤ k ∧ n = .int .i64 (valB true (t.take j)) ∧ valB true (t.take j) ≤ 4611686018427387904 ∧ Hid (headFine true (t.take j))) (fun _ i => k + 1 - (intOf i).toNat)
  case atStart => exact ⟨0, rfl, by omega, rfl, by simp [valB], headFine_nil _⟩
  case round =>
    obtain ⟨j, rfl, hj, rfl, hv, hf⟩ := hrel
    by_cases hlt2 : j < k
    · have hjt : j < t.length := by omega
      have hst := Lib.hid (valB_step true t hjt)
      have hhs := Lib.hid (headFine_step true t hjt hf.out)
      obtain ⟨b, hb⟩ : ∃ b : UInt8, t[j] = b := ⟨_, rfl⟩
      have hij : s[j + 1]'(by omega) = b := (hit.out j hjt).trans hb
      have hbl := b.toNat_lt
      have HB := Lib.hid hb
      rw [hb] at hst hhs
      have hst2 : Hid (valB true (t.take (j + 1)) = valB true (t.take j) * 256 + (255 - b.toNat)) := hst.out
      have bad : j = 0 ∧ 255 - b.toNat = 0 ∨ 4611686018427387904 < valB true (t.take j) * 256 + (255 - b.toNat) → rdInt (h :: t) = (0, 0, 12) := by
        rintro (⟨e1, e2⟩ | e)
        · subst e1
          exact rd_zero H8.out HS.out HK.out (by omega) (by rw [HN.out, HB.out]; exact e2)
        · exact rd_great (j := j + 1) H8.out HS.out HK.out (by omega) (by rw [HN.out, hst2.out]; exact e)
      have BAD := Lib.hid bad
      clear hb hst bad
      obtain ⟨n, hn⟩ : ∃ n : Nat, valB true (t.take j) = n := ⟨_, rfl⟩
      rw [hn] at hst2 hv BAD ⊢
      have HNn := Lib.hid hn
      clear hn
      have fin0 : (255 - b.toNat) ≠ 0 ∨ j ≠ 0 → headFine true (t.take (j + 1)) := fun e => hhs.out fun e2 => by
        rcases e with e | e
        · exact e
        · exact absurd e2 e
      have FIN := Lib.hid fin0
      clear fin0
      by_cases hb0 : 255 - b.toNat = 0
      · have hz1 : ((255 - (b.toNat : Int)) == 0) = true := by rw [beq_iff_eq]; omega
        by_cases hj0 : j = 0
        · subst hj0
          have HR := Lib.hid (BAD.out (.inl ⟨rfl, hb0⟩))
          have HB0 := Lib.hid hb0
          clear hb0
          go_wp2
          go_ret3
          exact ret3_of HR.out w
        · have hj1 : ((j : Int) + 1 == 1) = false := by rw [beq_eq_false_iff_ne]; omega
          have HB0 := Lib.hid hb0
          clear hb0
          go_wp2
          all_goals first
            | (go_ret3
               exact ret3_of (BAD.out (.inr (by have := HB0.out; omega))) w)
            | exact ⟨⟨j + 1, by congr 1, by omega, by rw [hst2.out]; exact congrArg _ (by have := HB0.out; omega), by rw [hst2.out]; have := HB0.out; omega, FIN.out (.inr hj0)⟩, by simp [intOf]; omega⟩
      · have hz1 : ((255 - (b.toNat : Int)) == 0) = false := by rw [beq_eq_false_iff_ne]; omega
        have HB0 := Lib.hid hb0
        clear hb0
        go_wp2
        all_goals first
          | (go_ret3
             exact ret3_of (BAD.out (.inr (by omega))) w)
          | exact ⟨⟨j + 1, by congr 1; omega, by omega, by rw [hst2.out]; exact congrArg _ (by omega), by rw [hst2.out]; omega, FIN.out (.inl HB0.out)⟩, by simp [intOf]; omega⟩
          | exact ⟨⟨j + 1, by congr 1, by omega, by rw [hst2.out]; exact congrArg _ (by omega), by rw [hst2.out]; omega, FIN.out (.inl HB0.out)⟩, by simp [intOf]; omega⟩
    · obtain rfl : j = k := by omega
      by_cases hedge : valB true (t.take j) = 4611686018427387904
      · have hr := rd_edge (t := t) H8.out HS.out HK.out HN.out (by rw [HN.out]; exact hedge)
        have HR := Lib.hid hr
        have HE := Lib.hid hedge
        have hed : ((valB true (t.take j) : Int) == 4611686018427387904) = true := by rw [hedge]; rfl
        obtain ⟨m, hm⟩ : ∃ m : Nat, valB true (t.take j) = m := ⟨_, rfl⟩
        rw [hm] at hv hed ⊢
        clear hr hedge hm
        go_wp2
        go_ret3
        exact ret3_of HR.out w
      · have hr := rd_ok (t := t) H8.out HS.out HK.out (by rw [HN.out]; exact hv) (by rw [HN.out]; exact fun _ => hedge) (by rw [HN.out]; exact hf.out)
        rw [HN.out] at hr
        have HR := Lib.hid hr
        have hed : ((valB true (t.take j) : Int) == 4611686018427387904) = false := by rw [beq_eq_false_iff_ne]; omega
        obtain ⟨m, hm⟩ : ∃ m : Nat, valB true (t.take j) = m := ⟨_, rfl⟩
        rw [hm] at hv hed HR ⊢
        clear hr hedge hm
        go_wp2
        go_ret3
        exact ret3_of HR.out w

theorem refReadInt_any (l : List UInt8) (hl : l.length < 4611686018427387904) (w : World) : Calls Tryd.prog 42 #[.string ⟨l.toArray⟩] w (Ret3 (rdInt l) w) := by
  cases l with
  | nil => exact refReadInt_nil w
  | cons h t =>
    simp only [List.length_cons] at hl
    by_cases h8 : 8 < more h
    · exact refReadInt_far h t (by omega) w h8
    · by_cases hs : t.length < more h
      · exact refReadInt_short h t (by omega) w h8 hs
      · cases hn : isNeg h
        · exact refReadInt_pos h t (by omega) w h8 hs hn
        · exact refReadInt_neg h t (by omega) w h8 hs hn
end Go.Proofs.YtaficbkaofhjeaaDoor
