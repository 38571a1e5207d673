/- PolicyBack, walked: it returns true. Conditions: the library's tables and its box stand as laid; the policy lies in memory. -/
import Derived.Test.YtgdpjmckpjkmeaaGreatDoorPsBk4
import Derived.Test.YtgdpjmckpjkmeaaGreatDoorPsAwk
namespace Go.Proofs.YtgdpjmckpjkmeaaGreatDoor
open Go.RowKit
theorem par_er_ne {s : ByteArray} {a f : Nat} (h : parseM s = .er a f) : f ≠ 0 := by
  unfold parseM at h
  split at h
  · next h1 =>
    injection h with h2 h3
    subst h2 h3
    exact toksE_er h1
  · unfold endP at h
    split at h
    · injection h with h2 h3; omega
    · split at h
      · next h4 => injection h with h2 h3; rw [← h3]; exact h4
      · split at h
        · next h4 => injection h with h2 h3; rw [← h3]; exact h4
        · cases h
theorem chkP_chkE {rs : List Rl} (h : chkP rs = 0) : ∀ r ∈ rs, chkE r.cond = 0 ∧ chkE r.key = 0 := fun r hr => ⟨(tyE_good ((chkP_rule h).2 r hr).1).1, (tyE_good ((chkP_rule h).2 r hr).2).1⟩
theorem print_size {rs : List Rl} (h : chkP rs = 0) : (printM rs).length ≤ 140737488355328 := by
  have := print_len (rs := rs) (fun r hr => ⟨(rule_wr ((chkP_rule h).2 r hr).1 ((chkP_rule h).2 r hr).2).2.2.1, (rule_wr ((chkP_rule h).2 r hr).1 ((chkP_rule h).2 r hr).2).2.2.2⟩)
  have h16 := (chkP_rule h).1
  omega
theorem pprV_ok {rs : List Rl} (h : chkP rs = 0) : pprV rs = .tuple #[.string ⟨(printM rs).toArray⟩, .int .i64 0] := by unfold pprV; rw [if_pos h]
theorem pprV_no {rs : List Rl} (h : chkP rs ≠ 0) : pprV rs = .tuple #[.string ⟨#[]⟩, .int .i64 (chkP rs : Nat)] := by unfold pprV; rw [if_neg h]
theorem ppr_form (rs : List Rl) : ∃ (t : ByteArray) (f : Nat), pprV rs = .tuple #[.string t, .int .i64 (f : Nat)] ∧ (f = 0 → chkP rs = 0 ∧ t.size ≤ 140737488355328 ∧ (t.size ≤ 4000 → parseM t = .ok rs)) := by
  by_cases h : chkP rs = 0
  · have hts : (⟨(printM rs).toArray⟩ : ByteArray).size = (printM rs).length := by simp [ByteArray.size]
    exact ⟨_, 0, pprV_ok h, fun _ => ⟨h, by rw [hts]; exact print_size h, fun hl => parse_print h (by rw [← hts]; exact hl)⟩⟩
  · exact ⟨_, chkP rs, pprV_no h, fun h2 => absurd h2 h⟩
set_option maxRecDepth 100000 in
set_option maxHeartbeats 12800000 in
theorem back_any (A : Option Addr) (c B : Nat) (rs : List Rl) (s : ByteArray) (w : World) (hP : LiesP w B A c rs) (hB : B ≤ w.heap.size) (hen : Env w.heap.size w) :
    Calls Tryz.prog 3 #[.agg #[.slice A rs.length c], .string s] w (Ret (.bool true) w) := by
  have hl := hP.len
  have HAW := Lib.hid (fun W (hb : Below w.heap.size w W) => awake_any W ((hen.next hb).more hb.size))
  have HGR := Lib.hid (fun W (hb : Below w.heap.size w W) => great_any A c B rs W (hP.below' hb hB) (Nat.le_trans hB hb.size))
  have HPR := Lib.hid (fun W (hb : Below w.heap.size w W) => pprint_any A c B rs W (hP.below' hb hB) (Nat.le_trans hB hb.size) ((hen.next hb).more hb.size).tab)
  have HPY := Lib.hid (fun W (hb : Below w.heap.size w W) (ys : List Rl) (A1 : Option Addr) (c1 B1 : Nat) (h1 : LiesP W B1 A1 c1 ys) (h2 : B1 ≤ W.heap.size) => pprint_any A1 c1 B1 ys W h1 h2 ((hen.next hb).more hb.size).tab)
  have HPA := Lib.hid (fun W (hb : Below w.heap.size w W) (t : ByteArray) (ht : t.size ≤ 140737488355328) => parse_any t ht W ((hen.next hb).more hb.size))
  have HP := Lib.hid hP
  have hO := one_new w #[.slice A rs.length c] 24
  unfold Ret at HAW HGR HPR HPY
  unfold Ret
  clear hP hen
  cases hg : grtP rs with
  | true =>
    rw [hg] at HGR
    clear hg
    go_enter Tryz.func3, Tryz.ntmps3
    go_upto_region 1 with fail
    generalize w.alloc _ = w1 at hO ⊢
    have x0 := hO.fst 0 _ rfl
    have HB1 := Lib.hid hO.below
    clear hO
    go_wp2_with (first
      | (go_at_call 6; refine (HGR.out _ HB1.out).mono ?_; rintro e w2 ⟨rfl, hb2⟩; have HB2 := Lib.hid (HB1.out.trans (hb2.mono HB1.out.size)))
      | (go_at_call 7; refine (HAW.out _ HB2.out).mono ?_; rintro e w3 ⟨rfl, hb3⟩))
    go_ret
    exact ⟨rfl, HB2.out.trans (hb3.mono HB2.out.size)⟩
  | false =>
    rw [hg] at HGR
    clear hg
    by_cases hs : 300 < s.size
    · have c1 : decide ((s.size : Int) > 300) = true := decide_eq_true (by omega)
      have c2 : decide (300 < (s.size : Int)) = true := decide_eq_true (by omega)
      have c3 : decide (300 < s.size) = true := decide_eq_true hs
      clear hs
      go_enter Tryz.func3, Tryz.ntmps3
      go_upto_region 1 with fail
      generalize w.alloc _ = w1 at hO ⊢
      have x0 := hO.fst 0 _ rfl
      have HB1 := Lib.hid hO.below
      clear hO
      go_wp2_with (first
        | (go_at_call 6; refine (HGR.out _ HB1.out).mono ?_; rintro e w2 ⟨rfl, hb2⟩; have HB2 := Lib.hid (HB1.out.trans (hb2.mono HB1.out.size)))
        | (go_at_call 7; refine (HAW.out _ HB2.out).mono ?_; rintro e w3 ⟨rfl, hb3⟩))
      go_ret
      exact ⟨rfl, HB2.out.trans (hb3.mono HB2.out.size)⟩
    · have c1 : decide ((s.size : Int) > 300) = false := decide_eq_false (by omega)
      have c2 : decide (300 < (s.size : Int)) = false := decide_eq_false (by omega)
      have c3 : decide (300 < s.size) = false := decide_eq_false hs
      have HSZ : Hid (s.size ≤ 300) := Lib.hid (by omega)
      clear hs
      go_enter Tryz.func3, Tryz.ntmps3
      go_upto_region 1 with fail
      generalize w.alloc _ = w1 at hO ⊢
      have x0 := hO.fst 0 _ rfl
      have HB1 := Lib.hid hO.below
      go_upto_region 3 with (go_at_call 6; refine (HGR.out _ HB1.out).mono ?_; rintro e w2 ⟨rfl, hb2⟩)
      clear x0 c1 c2 c3 HGR
      replace hO := hO.next hb2
      clear hb2
      obtain ⟨t, f, hprv, hcond⟩ := ppr_form rs
      rw [hprv] at HPR
      have HCO := Lib.hid hcond
      clear hprv hcond
      have x0 := hO.fst 0 _ rfl
      have HO2 := Lib.hid hO
      clear hO
      go_upto_region 4 with (go_at_call 8; refine (HPR.out _ HO2.out.below).mono ?_; rintro e w3 ⟨rfl, hb3⟩)
      have hO := HO2.out.next hb3
      clear x0 hb3 HPR HO2
      have hcs : f ≠ 0 ∨ (f = 0 ∧ 4000 < t.size) ∨ (f = 0 ∧ t.size ≤ 4000) := by omega
      rcases hcs with hk0 | ⟨rfl, hk1⟩ | ⟨rfl, hk1⟩
      case' inl =>
        have n0 : ((f : Nat) : Int) ≠ 0 := by omega
        have n1 : (((f : Nat) : Int) == 0) = false := by simpa using hk0
        have n2 : (f == 0) = false := by simpa using hk0
        have HBX := Lib.hid hO.below
        clear hk0 hO HCO
        go_upto_region 8 with fail
        clear n0 n1 n2
        generalize w3 = wc at HBX ⊢
      case' inr.inl =>
        have n0 : decide ((t.size : Int) ≤ 4000) = false := decide_eq_false (by omega)
        have n1 : decide (t.size ≤ 4000) = false := decide_eq_false (by omega)
        have HBX := Lib.hid hO.below
        clear hk1 hO HCO
        go_upto_region 8 with fail
        clear n0 n1
        generalize w3 = wc at HBX ⊢
      case' inr.inr =>
        obtain ⟨hck, hsz, hpt⟩ := HCO.out rfl
        have HVV := Lib.hid (chkP_chkE hck)
        have HO3 := Lib.hid hO
        have x0 := hO.fst 0 _ rfl
        clear hO hck HCO
        have n0 : decide ((t.size : Int) ≤ 4000) = true := decide_eq_true (by omega)
        have n1 : decide (t.size ≤ 4000) = true := decide_eq_true hk1
        have HQ := Lib.hid (HPA.out _ HO3.out.below t hsz)
        rw [hpt hk1] at HQ
        unfold ParR at HQ
        clear hk1 hpt hsz
        go_upto_region 6 with (go_at_call 9; refine HQ.out.mono ?_; rintro e w4 ⟨hb4, A4, c4, rfl, hP4⟩)
        have hO4 := HO3.out.next hb4
        have hba := below_alloc w4 (.cells #[.slice A4 rs.length c4] 24)
        have y0 : (w4.alloc (.cells #[.slice A4 rs.length c4] 24)).cell? ⟨w4.heap.size, 0, none⟩ = some (.slice A4 rs.length c4) := bx_new w4 #[.slice A4 rs.length c4] 24 0 _ rfl
        have hO5 := hO4.next hba
        have HB5 := Lib.hid hO5.below
        have HSM := Lib.hid (rsame_any A A4 c c4 w4.heap.size rs _ ((HP.out.below' hO5.below hB).more (Nat.le_trans hB hO4.below.size)) (hP4.below' hba (Nat.le_refl _)) hba.size HVV.out)
        unfold Ret at HSM
        generalize w4.alloc _ = w5 at y0 hO5 HB5 HSM hba ⊢
        clear x0
        have x0 := hO5.fst 0 _ rfl
        clear hO4 hO5 hba hP4 hb4 HVV HO3 HQ
        go_upto_region 8 with (go_at_call 10; refine HSM.out.mono ?_; rintro e w6 ⟨rfl, hb6⟩)
        have HBX := Lib.hid (HB5.out.trans (hb6.mono HB5.out.size))
        clear hb6 x0 y0 HB5 HSM n0 n1
        generalize w6 = wc at HBX ⊢
      all_goals (
        have HQ := Lib.hid (HPA.out wc HBX.out s (by have := HSZ.out; omega))
        unfold ParR at HQ
        cases hp : parseM s with
        | er a f =>
          have hf := par_er_ne hp
          have ha := parse_place hp
          rw [hp] at HQ
          have n0 : ((f : Nat) : Int) ≠ 0 := by omega
          have n1 : (((f : Nat) : Int) != 0) = true := by simpa using hf
          have n2 : (f != 0) = true := by simpa using hf
          have n3 : decide ((a : Int) ≤ (s.size : Int)) = true := decide_eq_true (by omega)
          have n4 : decide (a ≤ s.size) = true := decide_eq_true ha
          have n5 : decide ((a : Int) ≥ 0) = true := decide_eq_true (by omega)
          have n6 : decide (0 ≤ (a : Int)) = true := decide_eq_true (by omega)
          clear hp hf ha
          go_upto_region 9 with (go_at_call 9; refine HQ.out.mono ?_; rintro e w4 ⟨hb4, rfl⟩)
          have hba := below_alloc w4 (.cells #[.slice none 0 0] 24)
          have y0 : (w4.alloc (.cells #[.slice none 0 0] 24)).cell? ⟨w4.heap.size, 0, none⟩ = some (.slice none 0 0) := bx_new w4 #[.slice none 0 0] 24 0 _ rfl
          have HB5 := Lib.hid ((HBX.out.trans (hb4.mono HBX.out.size)).trans (hba.mono (Nat.le_trans HBX.out.size hb4.size)))
          generalize w4.alloc _ = w5 at y0 HB5 hba ⊢
          clear hba hb4
          go_wp2_with (go_at_call 7; refine (HAW.out _ HB5.out).mono ?_; rintro e w6 ⟨rfl, hb6⟩)
          go_ret
          exact ⟨rfl, HB5.out.trans (hb6.mono HB5.out.size)⟩
        | ok ys =>
          have hy := parse_valid hp
          rw [hp] at HQ
          clear hp
          go_upto_region 9 with (go_at_call 9; refine HQ.out.mono ?_; rintro e w4 ⟨hb4, A4, c4, rfl, hP4⟩)
          have hba := below_alloc w4 (.cells #[.slice A4 ys.length c4] 24)
          have y0 : (w4.alloc (.cells #[.slice A4 ys.length c4] 24)).cell? ⟨w4.heap.size, 0, none⟩ = some (.slice A4 ys.length c4) := bx_new w4 #[.slice A4 ys.length c4] 24 0 _ rfl
          have hz5 : w4.heap.size < (w4.alloc (.cells #[.slice A4 ys.length c4] 24)).heap.size := by simp
          have HB5 := Lib.hid ((HBX.out.trans (hb4.mono HBX.out.size)).trans (hba.mono (Nat.le_trans HBX.out.size hb4.size)))
          have HP5 := Lib.hid (hP4.below' hba (Nat.le_refl _))
          have hz45 := hba.size
          generalize w4.alloc _ = w5 at y0 HB5 HP5 hz5 hz45 hba ⊢
          have HY := Lib.hid (fun (W : World) (hW : Below w5.heap.size w5 W) => (hW.cell (p := ⟨w4.heap.size, 0, none⟩) hz5).trans y0)
          have HPZ := Lib.hid (fun (W : World) (hW : Below w5.heap.size w5 W) => HPY.out W (HB5.out.trans (hW.mono HB5.out.size)) ys A4 c4 w4.heap.size (HP5.out.below' hW hz45) (Nat.le_trans hz45 hW.size))
          have HCK := Lib.hid (fun (W : World) (hW : Below w5.heap.size w5 W) => pck_any A4 c4 w4.heap.size ys W (HP5.out.below' hW hz45) (Nat.le_trans hz45 hW.size))
          have HVV := Lib.hid (chkP_chkE hy)
          unfold Ret at HCK
          rw [hy] at HCK
          rw [pprV_ok hy] at HPZ
          have hts : (⟨(printM ys).toArray⟩ : ByteArray).size = (printM ys).length := by simp [ByteArray.size]
          have hpl := print_size hy
          have HPT : Hid ((printM ys).length ≤ 4000 → parseM ⟨(printM ys).toArray⟩ = .ok ys) := Lib.hid (fun h => parse_print hy h)
          generalize (⟨(printM ys).toArray⟩ : ByteArray) = t at HPZ hts HPT
          rw [← hts] at HPT hpl
          have HQ2 := Lib.hid (fun W hb => HPA.out W hb t hpl)
          unfold ParR at HQ2
          clear hts hba hP4 hb4 hy hz45 hpl HQ
          go_upto_region 12 with (go_at_call 8; refine (HPZ.out _ (Below.refl _ _)).mono ?_; rintro e w6 ⟨rfl, hb6⟩)
          clear y0
          have HB6 := Lib.hid hb6
          have HW6 := Lib.hid (HB5.out.trans (hb6.mono HB5.out.size))
          by_cases hk1 : t.size ≤ 4000
          rotate_left
          · have n0 : decide ((t.size : Int) > 4000) = true := decide_eq_true (by omega)
            have n1 : decide (4000 < (t.size : Int)) = true := decide_eq_true (by omega)
            have n2 : decide (4000 < t.size) = true := decide_eq_true (by omega)
            clear hk1 hb6
            cases hp : parseM t with
            | er a f =>
              rw [hp] at HQ2
              clear hp
              go_upto_region 13 with (go_at_call 9; refine (HQ2.out _ HW6.out).mono ?_; rintro e w7 ⟨hb7, rfl⟩)
              have hba := below_alloc w7 (.cells #[.slice none 0 0] 24)
              have HB8 := Lib.hid ((HB6.out.trans (hb7.mono HB6.out.size)).trans (hba.mono (Nat.le_trans HB6.out.size hb7.size)))
              generalize w7.alloc _ = w8 at HB8 hba ⊢
              have x0 := HY.out _ HB8.out
              clear hba hb7
              go_wp2_with (first
                | (go_at_call 11; refine (HCK.out _ HB8.out).mono ?_; rintro e w9 ⟨rfl, hb9⟩; have HB9 := Lib.hid (HB8.out.trans (hb9.mono HB8.out.size)); have HW9 := Lib.hid (HB5.out.trans (HB9.out.mono HB5.out.size)))
                | (go_at_call 7; refine (HAW.out _ HW9.out).mono ?_; rintro e w10 ⟨rfl, hb10⟩))
              go_ret
              exact ⟨rfl, HW9.out.trans (hb10.mono HW9.out.size)⟩
            | ok zs =>
              rw [hp] at HQ2
              clear hp
              go_upto_region 13 with (go_at_call 9; refine (HQ2.out _ HW6.out).mono ?_; rintro e w7 ⟨hb7, A7, c7, rfl, hP7⟩)
              have hba := below_alloc w7 (.cells #[.slice A7 zs.length c7] 24)
              have HB8 := Lib.hid ((HB6.out.trans (hb7.mono HB6.out.size)).trans (hba.mono (Nat.le_trans HB6.out.size hb7.size)))
              generalize w7.alloc _ = w8 at HB8 hba ⊢
              have x0 := HY.out _ HB8.out
              clear hba hb7
              go_wp2_with (first
                | (go_at_call 11; refine (HCK.out _ HB8.out).mono ?_; rintro e w9 ⟨rfl, hb9⟩; have HB9 := Lib.hid (HB8.out.trans (hb9.mono HB8.out.size)); have HW9 := Lib.hid (HB5.out.trans (HB9.out.mono HB5.out.size)))
                | (go_at_call 7; refine (HAW.out _ HW9.out).mono ?_; rintro e w10 ⟨rfl, hb10⟩))
              go_ret
              exact ⟨rfl, HW9.out.trans (hb10.mono HW9.out.size)⟩
          · have n0 : decide ((t.size : Int) > 4000) = false := decide_eq_false (by omega)
            have n1 : decide (4000 < (t.size : Int)) = false := decide_eq_false (by omega)
            have n2 : decide (4000 < t.size) = false := decide_eq_false (by omega)
            rw [HPT.out hk1] at HQ2
            clear hk1 hb6
            go_upto_region 13 with (go_at_call 9; refine (HQ2.out _ HW6.out).mono ?_; rintro e w7 ⟨hb7, A7, c7, rfl, hP7⟩)
            have hba := below_alloc w7 (.cells #[.slice A7 ys.length c7] 24)
            have z0 : (w7.alloc (.cells #[.slice A7 ys.length c7] 24)).cell? ⟨w7.heap.size, 0, none⟩ = some (.slice A7 ys.length c7) := bx_new w7 #[.slice A7 ys.length c7] 24 0 _ rfl
            have hz8 : w7.heap.size < (w7.alloc (.cells #[.slice A7 ys.length c7] 24)).heap.size := by simp
            have HB8 := Lib.hid ((HB6.out.trans (hb7.mono HB6.out.size)).trans (hba.mono (Nat.le_trans HB6.out.size hb7.size)))
            have HP8 := Lib.hid (hP7.below' hba (Nat.le_refl _))
            have hz57 : w4.heap.size ≤ w7.heap.size := by have := HB6.out.size; have := hb7.size; omega
            have hz78 := hba.size
            generalize w7.alloc _ = w8 at HB8 HP8 hba z0 hz8 hz78 ⊢
            have x0 := HY.out _ HB8.out
            have HZ := Lib.hid (fun (W : World) (hW : Below w8.heap.size w8 W) => (hW.cell (p := ⟨w7.heap.size, 0, none⟩) hz8).trans z0)
            have HSM := Lib.hid (fun (W : World) (hW : Below w8.heap.size w8 W) => rsame_any A4 A7 c4 c7 w7.heap.size ys W ((HP5.out.below' (HB8.out.trans (hW.mono HB8.out.size)) (Nat.le_of_lt hz5)).more hz57) (HP8.out.below' hW hz78) (Nat.le_trans hz78 hW.size) HVV.out)
            unfold Ret at HSM
            clear hba hb7 z0 hP7
            go_wp2_with (first
              | (go_at_call 11; refine (HCK.out _ HB8.out).mono ?_; rintro e w9 ⟨rfl, hb9⟩; have HB9 := Lib.hid hb9; clear x0; have x0 := HY.out _ (HB8.out.trans (hb9.mono HB8.out.size)); have z0 := HZ.out _ hb9)
              | (go_at_call 10; refine (HSM.out _ HB9.out).mono ?_; rintro e w10 ⟨rfl, hb10⟩; have HW9 := Lib.hid (HB5.out.trans ((HB8.out.trans ((HB9.out.trans (hb10.mono HB9.out.size)).mono HB8.out.size)).mono HB5.out.size)))
              | (go_at_call 7; refine (HAW.out _ HW9.out).mono ?_; rintro e w11 ⟨rfl, hb11⟩))
            go_ret
            exact ⟨rfl, HW9.out.trans (hb11.mono HW9.out.size)⟩)
end Go.Proofs.YtgdpjmckpjkmeaaGreatDoor
