/- policy.fits, walked. Conditions: the bindings lie in memory. -/
import Derived.Test.YtkiilaajomjinaaGreatDoorPrRnk
import Derived.Test.YtkiilaajomjinaaGreatDoorPrBnd
import Derived.Test.YtkiilaajomjinaaGreatDoorPrPolL
import Derived.Test.YtkiilaajomjinaaGreatDoorPrTyE
import Derived.Deep.RegionHeld
import Derived.Sort.LotA
namespace Go.Proofs.YtkiilaajomjinaaGreatDoor
open Go.RowKit
def eqF (l ks : List Bd) : Bool := l.length == ks.length && (ks.zip l).all fun x => fitB ⟨x.1.name, x.1.ty⟩ x.2
theorem eqF_kd (l : List Bd) : eqF l kdB = fits l := by
  unfold eqF fits
  rw [show kdB.length = 11 from rfl]
  congr 1
  have : ∀ (ks : List Kd) (l : List Bd), (((ks.map fun k => (⟨k.name, k.ty, 0⟩ : Bd)).zip l).all fun x => fitB ⟨x.1.name, x.1.ty⟩ x.2) = (ks.zip l).all fun x => fitB x.1 x.2 := by
    intro ks
    induction ks with
    | nil => intro l; rfl
    | cons k ks ih =>
      intro l
      cases l with
      | nil => rfl
      | cons b l => simp only [List.map_cons, List.zip_cons_cons, List.all_cons, ih]
  exact this kds l
theorem eqF_len {l ks : List Bd} (h : l.length ≠ ks.length) : eqF l ks = false := by
  unfold eqF
  rw [show (l.length == ks.length) = false from by simpa using h]; rfl
theorem eqF_no {l ks : List Bd} {k : Nat} (h1 : k < l.length) (h2 : k < ks.length) (hf : fitB ⟨ks[k].name, ks[k].ty⟩ l[k] = false) : eqF l ks = false := by
  unfold eqF
  rw [Bool.and_eq_false_iff]
  right
  rw [List.all_eq_false]
  have h3 : k < (ks.zip l).length := by rw [List.length_zip]; omega
  refine ⟨(ks[k], l[k]), ?_, by simpa using hf⟩
  have := List.getElem_mem h3
  rwa [List.getElem_zip] at this
theorem eqF_yes {l ks : List Bd} (h : l.length = ks.length) (hf : ∀ (k : Nat) (h1 : k < l.length) (h2 : k < ks.length), fitB ⟨ks[k].name, ks[k].ty⟩ l[k] = true) : eqF l ks = true := by
  unfold eqF
  rw [show (l.length == ks.length) = true from by simpa using h, Bool.true_and, List.all_eq_true]
  intro x hx
  obtain ⟨k, hk, rfl⟩ := List.getElem_of_mem hx
  rw [List.length_zip] at hk
  rw [List.getElem_zip]
  exact hf k (by omega) (by omega)
set_option maxRecDepth 100000 in
set_option maxHeartbeats 3200000 in
theorem eqf_any (A1 A2 : Option Addr) (c1 c2 B1 B2 : Nat) (l ks : List Bd) (w : World) (h1 : RdB w B1 A1 l) (hB1 : B1 ≤ w.heap.size) (h2 : RdB w B2 A2 ks) (hB2 : B2 ≤ w.heap.size) (hl : l.length ≤ 9223372036854775807) :
    Calls Tryz.prog 81 #[.slice A1 l.length c1, .slice A2 ks.length c2, .func (.func 82) #[] #[]] w (Ret (.bool (eqF l ks)) w) := by
  have H1 := Lib.hid h1
  have H2 := Lib.hid h2
  unfold Ret
  clear h1 h2
  by_cases hne : l.length = ks.length
  rotate_left
  · have e1 : ((l.length : Int) != (ks.length : Int)) = true := by simpa using (by omega : ¬ (l.length : Int) = (ks.length : Int))
    have e2 : (l.length != ks.length) = true := by simpa using hne
    have HV := Lib.hid (eqF_len hne)
    clear hne
    go_enter Tryz.func81, Tryz.ntmps81
    go_wp2_with fail
    go_ret
    exact ⟨by rw [HV.out]; rfl, Below.refl _ _⟩
  · have e1 : ((l.length : Int) != (ks.length : Int)) = false := by simpa using (by omega : (l.length : Int) = (ks.length : Int))
    have e2 : (l.length != ks.length) = false := by simpa using hne
    have HNE := Lib.hid hne
    clear hne
    go_enter Tryz.func81, Tryz.ntmps81
    go_wp2_with fail
    go_loopw [6, 17] (fun r i wr => r = .bool false ∧ ∃ k : Nat, i = .int .i64 (k : Nat) ∧ k ≤ l.length ∧ Hid (∀ (j : Nat) (h1 : j < l.length) (h2 : j < ks.length), j < k → fitB ⟨ks[j].name, ks[j].ty⟩ l[j] = true) ∧ Below w.heap.size w wr) (fun _ i _ => l.length - (intOf i).toNat)
    case atStart => exact ⟨rfl, 0, rfl, by omega, Lib.hid (fun j h1 h2 h => by omega), Below.refl _ _⟩
    case round =>
      obtain ⟨rfl, k, rfl, hk, hall, hb⟩ := hrel
      have hk0 : (0 : Int) ≤ (k : Int) := by omega
      by_cases hlk : k < l.length
      · have hd1 : decide ((k : Int) < (l.length : Int)) = true := decide_eq_true (by omega)
        have hwr1 : IntKind.i64.wrap ((k : Int) + 1) = (k : Int) + 1 := by rw [IntKind.wrap_i64]; omega
        have hd2 : decide (k < l.length) = true := decide_eq_true hlk
        have hkl : (k : Int) < (l.length : Int) := by omega
        have hlk2 : k < ks.length := by have := HNE.out; omega
        have hkl2 : (k : Int) < (ks.length : Int) := by omega
        have hR1 : RdB wr B1 A1 l := Rd.below' H1.out hb hB1
        have hR2 : RdB wr B2 A2 ks := Rd.below' H2.out hb hB2
        obtain ⟨b, off, rfl, hbB, y0, y1, y2⟩ := hR1.at_ hlk
        obtain ⟨b', off', rfl, hbB', z0, z1, z2⟩ := hR2.at_ hlk2
        have HYES : Hid (fitB ⟨ks[k].name, ks[k].ty⟩ l[k] = true → ∀ (j : Nat) (h1 : j < l.length) (h2 : j < ks.length), j < k + 1 → fitB ⟨ks[j].name, ks[j].ty⟩ l[j] = true) := Lib.hid (fun e j h1 h2 hjk => by
          by_cases e2 : j = k
          · subst e2; exact e
          · exact hall.out j h1 h2 (by omega))
        have HNO : Hid (fitB ⟨ks[k].name, ks[k].ty⟩ l[k] = false → eqF l ks = false) := Lib.hid (fun e => eqF_no hlk hlk2 e)
        have hO := two_new wr #[.string l[k].name, .int .i64 l[k].ty, .int .i64 l[k].val] #[.string ks[k].name, .int .i64 ks[k].ty, .int .i64 ks[k].val] 93 93
        have HF : Hid (∀ W, Calls Tryz.prog 82 #[.agg #[.string l[k].name, .int .i64 l[k].ty, .int .i64 l[k].val], .agg #[.string ks[k].name, .int .i64 ks[k].ty, .int .i64 ks[k].val]] W (Ret (.bool (fitB ⟨ks[k].name, ks[k].ty⟩ l[k])) W)) := Lib.hid (fun W => fit1_any _ _ _ _ _ _ W)
        have HB := Lib.hid hb
        generalize hq : fitB ⟨ks[k].name, ks[k].ty⟩ l[k] = q at HF HYES HNO
        have HQ := Lib.hid hq
        have z0a := fun ob => (World.cell?_alloc_lt wr ob ⟨b', off' + k * 3, none⟩ (World.block_lt_of_cell? _ _ z0)).trans z0
        have z1a := fun ob => (World.cell?_alloc_lt wr ob ⟨b', off' + k * 3 + 1, none⟩ (World.block_lt_of_cell? _ _ z1)).trans z1
        have z2a := fun ob => (World.cell?_alloc_lt wr ob ⟨b', off' + k * 3 + 2, none⟩ (World.block_lt_of_cell? _ _ z2)).trans z2
        generalize l[k].name = nmk at y0 HF hO
        generalize l[k].ty = tyk at y1 HF hO
        generalize l[k].val = vk at y2 HF hO
        generalize ks[k].name = nmj at z0a HF hO
        generalize ks[k].ty = tyj at z1a HF hO
        generalize ks[k].val = vj at z2a HF hO
        unfold Ret at HF
        clear hb hall hq hR1 hR2 z0 z1 z2
        go_upto_region 7 with fail
        clear y0 y1 y2 z0a z1a z2a
        generalize World.alloc _ _ = w4 at hO ⊢
        obtain ⟨x0, x1, x2⟩ := bx3 hO.fst
        obtain ⟨u0, u1, u2⟩ := bx3 hO.snd
        have HO := Lib.hid (HB.out.trans (hO.below.mono HB.out.size))
        clear hO
        cases q with
        | true =>
          go_wp2_with (go_at_call 82; refine (HF.out _).mono ?_; rintro e w5 ⟨rfl, hb5⟩)
          exact ⟨⟨rfl, k + 1, by go_num, by omega, Lib.hid (HYES.out (by first | rfl | exact True.intro)), HO.out.trans (hb5.mono HO.out.size)⟩, by simp [intOf]; omega⟩
        | false =>
          go_wp2_with (go_at_call 82; refine (HF.out _).mono ?_; rintro e w5 ⟨rfl, hb5⟩)
          go_ret
          exact ⟨by rw [HNO.out (by first | rfl | exact True.intro)]; rfl, HO.out.trans (hb5.mono HO.out.size)⟩
      · have hd1 : decide ((k : Int) < (l.length : Int)) = false := decide_eq_false (by omega)
        have hd2 : decide (k < l.length) = false := decide_eq_false hlk
        have HV : Hid (eqF l ks = true) := Lib.hid (eqF_yes HNE.out fun j h1 h2 => hall.out j h1 h2 (by omega))
        clear hall
        go_wp2_with fail
        go_ret
        exact ⟨by rw [HV.out]; rfl, hb⟩
set_option maxRecDepth 100000 in
set_option maxHeartbeats 1600000 in
theorem fits_any (A : Option Addr) (c B : Nat) (l : List Bd) (w : World) (h : RdB w B A l) (hB : B ≤ w.heap.size) (hl : l.length ≤ 9223372036854775807) :
    Calls Tryz.prog 46 #[.slice A l.length c] w (Ret (.bool (fits l)) w) := by
  have HK := Lib.hid (kinds_any w)
  have H := Lib.hid h
  have HE := Lib.hid (eqF_kd l)
  unfold KdsR at HK
  unfold Ret
  clear h
  obtain ⟨ks, hks⟩ : ∃ ks, ks = kdB := ⟨_, rfl⟩
  rw [← hks] at HK HE
  clear hks
  go_enter Tryz.func46, Tryz.ntmps46
  go_wp2_with fail
  refine HK.out.mono ?_
  rintro e w1 ⟨A2, c2, rfl, hb1, hR⟩
  have HC := Lib.hid (eqf_any A A2 c c2 B w1.heap.size l ks w1 (Rd.below' H.out hb1 hB) (Nat.le_trans hB hb1.size) hR (Nat.le_refl _) hl)
  unfold Ret at HC
  clear hR HK
  go_wp2_with fail
  refine HC.out.mono ?_
  rintro e w2 ⟨rfl, hb2⟩
  clear HC
  go_wp2_with fail
  go_ret
  exact ⟨by rw [HE.out]; rfl, hb1.trans (hb2.mono hb1.size)⟩
end Go.Proofs.YtkiilaajomjinaaGreatDoor

/- cmp.Compare of two numbers, walked. Conditions: none. -/
namespace Go.Proofs.YtkiilaajomjinaaGreatDoor
open Go.RowKit
set_option maxRecDepth 100000
theorem isNaN_any (x : Int) (w : World) : Calls Tryz.prog 84 #[.int .i64 x] w (RetP (.bool false) w) := by
  have e1 : (x != x) = false := by simp
  unfold RetP
  go_enter Tryz.func84, Tryz.ntmps84
  go_wp2_with fail
  go_ret
  exact ⟨rfl, rfl⟩
def cmpI (x y : Int) : Int := if x < y then -1 else if y < x then 1 else 0
theorem compare_any (x y : Int) (w : World) : Calls Tryz.prog 51 #[.int .i64 x, .int .i64 y] w (RetP (.int .i64 (cmpI x y)) w) := by
  have HN : Hid (∀ (z : Int) (W : World), Calls Tryz.prog 84 #[.int .i64 z] W (RetP (.bool false) W)) := Lib.hid isNaN_any
  unfold RetP at HN ⊢
  by_cases h1 : x < y
  · have HV : Hid (cmpI x y = -1) := Lib.hid (by unfold cmpI; rw [if_pos h1])
    have e1 : decide (x < y) = true := decide_eq_true h1
    clear h1
    go_enter Tryz.func51, Tryz.ntmps51
    go_wp2_with (refine (HN.out _ _).mono ?_; rintro e5 w5 ⟨rfl, rfl⟩)
    go_ret
    exact ⟨by rw [HV.out]; rfl, rfl⟩
  · have e1 : decide (x < y) = false := decide_eq_false h1
    by_cases h2 : y < x
    · have HV : Hid (cmpI x y = 1) := Lib.hid (by unfold cmpI; rw [if_neg h1, if_pos h2])
      have e2 : decide (y < x) = true := decide_eq_true h2
      clear h1 h2
      go_enter Tryz.func51, Tryz.ntmps51
      go_wp2_with (refine (HN.out _ _).mono ?_; rintro e5 w5 ⟨rfl, rfl⟩)
      go_ret
      exact ⟨by rw [HV.out]; rfl, rfl⟩
    · have HV : Hid (cmpI x y = 0) := Lib.hid (by unfold cmpI; rw [if_neg h1, if_neg h2])
      have e2 : decide (y < x) = false := decide_eq_false h2
      clear h1 h2
      go_enter Tryz.func51, Tryz.ntmps51
      go_wp2_with (refine (HN.out _ _).mono ?_; rintro e5 w5 ⟨rfl, rfl⟩)
      go_ret
      exact ⟨by rw [HV.out]; rfl, rfl⟩
end Go.Proofs.YtkiilaajomjinaaGreatDoor

/- cmp.Or of two numbers, walked. Conditions: the two numbers lie in memory. -/
namespace Go.Proofs.YtkiilaajomjinaaGreatDoor
open Go.RowKit
set_option maxRecDepth 100000
theorem or2_any (g c : Nat) (x y : Int) (w : World) (c0 : w.cell? ⟨g, 0, none⟩ = some (.int .i64 x)) (c1 : w.cell? ⟨g, 1, none⟩ = some (.int .i64 y)) : Calls Tryz.prog 50 #[.slice (some ⟨g, 0, none⟩) 2 c] w (RetP (.int .i64 (if x ≠ 0 then x else y)) w) := by
  unfold RetP
  go_enter Tryz.func50, Tryz.ntmps50
  go_wp2_with fail
  go_loopw [8] (fun r wr => wr = w ∧ ((r = .int .i64 0) ∨ (r = .int .i64 1 ∧ x = 0) ∨ (r = .int .i64 2 ∧ x = 0 ∧ y = 0))) (fun r _ => 2 - (intOf r).toNat)
  case atStart => exact ⟨rfl, .inl rfl⟩
  case round =>
    obtain ⟨rfl, rfl | ⟨rfl, rfl⟩ | ⟨rfl, rfl, rfl⟩⟩ := hrel
    · by_cases hx : x = 0
      · subst hx
        go_wp2_with fail
        exact ⟨by simp, by decide⟩
      · have e1 : (x != 0) = true := by simpa using hx
        go_wp2_with fail
        go_ret
        exact ⟨rfl, rfl⟩
    · by_cases hy : y = 0
      · subst hy
        go_wp2_with fail
        exact ⟨by simp, by decide⟩
      · have e1 : (y != 0) = true := by simpa using hy
        go_wp2_with fail
        go_ret
        exact ⟨rfl, rfl⟩
    · go_wp2_with fail
      go_ret
      exact ⟨rfl, rfl⟩
end Go.Proofs.YtkiilaajomjinaaGreatDoor

/- policy.Order$1, walked: it compares ranks. Conditions: the ranks lie in memory. -/
namespace Go.Proofs.YtkiilaajomjinaaGreatDoor
open Go.RowKit
def orI (x y : Int) : Int := if x ≠ 0 then x else y
def cmpRk (a b : Int × Int) : Int := orI (cmpI a.1 b.1) (cmpI a.2 b.2)
def Od1R (v : Int) (W : World) : Ending → World → Prop := fun e W' => e = .returned (.int .i64 v) ∧ ∃ o, W' = W.drew.alloc o
theorem or2_orI (g c : Nat) (x y : Int) (w : World) (c0 : w.cell? ⟨g, 0, none⟩ = some (.int .i64 x)) (c1 : w.cell? ⟨g, 1, none⟩ = some (.int .i64 y)) : Calls Tryz.prog 50 #[.slice (some ⟨g, 0, none⟩) 2 c] w (RetP (.int .i64 (orI x y)) w) := or2_any g c x y w c0 c1
set_option maxRecDepth 100000 in
set_option maxHeartbeats 3200000 in
theorem ord1_any (G gr off n cap : Nat) (rk : Nat → Int × Int) (x y : Nat) (hx : x < n) (hy : y < n) (W : World) (hG : W.cell? ⟨G, 0, none⟩ = some (.slice (some ⟨gr, off, none⟩) n cap))
    (hr : ∀ i, i < n → W.cell? ⟨gr, off + i * 2, none⟩ = some (.int .i64 (rk i).1) ∧ W.cell? ⟨gr, off + i * 2 + 1, none⟩ = some (.int .i64 (rk i).2)) :
    Calls Tryz.prog 49 #[.int .i64 (x : Nat), .int .i64 (y : Nat), .pointer (some ⟨G, 0, none⟩)] W (Od1R (cmpRk (rk x) (rk y)) W) := by
  have HC : Hid (∀ (a b : Int) (V : World), Calls Tryz.prog 51 #[.int .i64 a, .int .i64 b] V (RetP (.int .i64 (cmpI a b)) V)) := Lib.hid compare_any
  unfold RetP at HC
  obtain ⟨r1, r2⟩ := hr x hx
  obtain ⟨r3, r4⟩ := hr y hy
  have hx0 : (0 : Int) ≤ (x : Int) := by omega
  have hy0 : (0 : Int) ≤ (y : Int) := by omega
  have hxn : (x : Int) < (n : Int) := by omega
  have hyn : (y : Int) < (n : Int) := by omega
  have h0 : W.drew.cell? ⟨G, 0, none⟩ = _ := hG
  have h1 : W.drew.cell? ⟨gr, off + x * 2, none⟩ = _ := r1
  have h2 : W.drew.cell? ⟨gr, off + x * 2 + 1, none⟩ = _ := r2
  have h3 : W.drew.cell? ⟨gr, off + y * 2, none⟩ = _ := r3
  have h4 : W.drew.cell? ⟨gr, off + y * 2 + 1, none⟩ = _ := r4
  clear hr hG r1 r2 r3 r4
  unfold cmpRk
  go_enter Tryz.func49, Tryz.ntmps49
  go_upto_region 1 with fail
  refine wp_region_held_drew (S := fun w' => w'.cell? ⟨G, 0, none⟩ = some (.slice (some ⟨gr, off, none⟩) n cap) ∧ w'.cell? ⟨gr, off + x * 2, none⟩ = some (.int .i64 (rk x).1) ∧ w'.cell? ⟨gr, off + x * 2 + 1, none⟩ = some (.int .i64 (rk x).2) ∧ w'.cell? ⟨gr, off + y * 2, none⟩ = some (.int .i64 (rk y).1) ∧ w'.cell? ⟨gr, off + y * 2 + 1, none⟩ = some (.int .i64 (rk y).2)) (by kernel_rfl) ⟨h0, h1, h2, h3, h4⟩ (fun hHeld => ?_)
  generalize hW0 : W.drew = W0 at h0 h1 h2 h3 h4 hHeld ⊢
  have HW0 := Lib.hid hW0
  clear hW0
  refine wpAnyH_take (i := 0) (v := ?_) rfl (by kernel_rfl) (by kernel_rfl) (by kernel_rfl) (fun _ _ _ h => h) (Or.inl ⟨by kernel_rfl, ?_⟩) (by assumption) ?_
  rotate_left
  · intro w hSw; (try dsimp only at hSw); go_simp; with_reducible rfl
  try simp only [List.getElem_toArray, List.getElem_cons_zero, Act.put, List.setIfInBounds_toArray, List.set_cons_zero, List.set_cons_succ]
  refine wpAnyH_take (i := 1) (v := ?_) rfl (by kernel_rfl) (by kernel_rfl) (by kernel_rfl) (fun _ _ _ h => h) (Or.inl ⟨by kernel_rfl, ?_⟩) (by assumption) ?_
  rotate_left
  · intro w hSw; (try dsimp only at hSw); go_simp; with_reducible rfl
  try simp only [List.getElem_toArray, List.getElem_cons_succ, List.getElem_cons_zero, Act.put, List.setIfInBounds_toArray, List.set_cons_zero, List.set_cons_succ]
  refine wpAnyH_take (i := 2) (v := ?_) rfl (by kernel_rfl) (by kernel_rfl) (by kernel_rfl) (fun _ _ _ h => h) (Or.inl ⟨by kernel_rfl, ?_⟩) (by assumption) ?_
  rotate_left
  · intro w hSw; (try dsimp only at hSw); go_simp; with_reducible rfl
  try simp only [List.getElem_toArray, List.getElem_cons_succ, List.getElem_cons_zero, Act.put, List.setIfInBounds_toArray, List.set_cons_zero, List.set_cons_succ]
  refine wpAnyH_take (i := 3) (v := ?_) rfl (by kernel_rfl) (by kernel_rfl) (by kernel_rfl) (fun _ _ _ h => h) (Or.inl ⟨by kernel_rfl, ?_⟩) (by assumption) ?_
  rotate_left
  · intro w hSw; (try dsimp only at hSw); go_simp; with_reducible rfl
  try simp only [List.getElem_toArray, List.getElem_cons_succ, List.getElem_cons_zero, Act.put, List.setIfInBounds_toArray, List.set_cons_zero, List.set_cons_succ]
  refine wpAnyH_take (i := 4) (v := ?_) rfl (by kernel_rfl) (by kernel_rfl) (by kernel_rfl) (fun _ _ _ h => h) (Or.inl ⟨by kernel_rfl, ?_⟩) (by assumption) ?_
  rotate_left
  · intro w hSw; (try dsimp only at hSw); go_simp; with_reducible rfl
  try simp only [List.getElem_toArray, List.getElem_cons_succ, List.getElem_cons_zero, Act.put, List.setIfInBounds_toArray, List.set_cons_zero, List.set_cons_succ]
  refine wpAnyH_take (i := 5) (v := ?_) rfl (by kernel_rfl) (by kernel_rfl) (by kernel_rfl) (fun _ _ _ h => h) (Or.inl ⟨by kernel_rfl, ?_⟩) (by assumption) ?_
  rotate_left
  · intro w hSw; (try dsimp only at hSw); go_simp; with_reducible rfl
  try simp only [List.getElem_toArray, List.getElem_cons_succ, List.getElem_cons_zero, Act.put, List.setIfInBounds_toArray, List.set_cons_zero, List.set_cons_succ]
  refine wpAnyH_take (i := 6) (v := ?_) rfl (by kernel_rfl) (by kernel_rfl) (by kernel_rfl) (fun _ _ _ h => h) (Or.inl ⟨by kernel_rfl, ?_⟩) (by assumption) ?_
  rotate_left
  · intro w hSw; (try dsimp only at hSw); go_simp; with_reducible rfl
  try simp only [List.getElem_toArray, List.getElem_cons_succ, List.getElem_cons_zero, Act.put, List.setIfInBounds_toArray, List.set_cons_zero, List.set_cons_succ]
  refine wpAnyH_take (i := 7) (v := ?_) rfl (by kernel_rfl) (by kernel_rfl) (by kernel_rfl) (fun _ _ _ h => h) (Or.inl ⟨by kernel_rfl, ?_⟩) (by assumption) ?_
  rotate_left
  · intro w hSw; (try dsimp only at hSw); go_simp; with_reducible rfl
  try simp only [List.getElem_toArray, List.getElem_cons_succ, List.getElem_cons_zero, Act.put, List.setIfInBounds_toArray, List.set_cons_zero, List.set_cons_succ]
  refine wpAnyH_take (i := 8) (v := ?_) rfl (by kernel_rfl) (by kernel_rfl) (by kernel_rfl) (fun _ _ _ h => h) (Or.inl ⟨by kernel_rfl, ?_⟩) (by assumption) ?_
  rotate_left
  · intro w hSw; (try dsimp only at hSw); go_simp; with_reducible rfl
  try simp only [List.getElem_toArray, List.getElem_cons_succ, List.getElem_cons_zero, Act.put, List.setIfInBounds_toArray, List.set_cons_zero, List.set_cons_succ]
  refine wpAnyH_take (i := 9) (v := ?_) rfl (by kernel_rfl) (by kernel_rfl) (by kernel_rfl) (fun _ _ _ h => h) (Or.inl ⟨by kernel_rfl, ?_⟩) (by assumption) ?_
  rotate_left
  · intro w hSw; (try dsimp only at hSw); go_simp; with_reducible rfl
  try simp only [List.getElem_toArray, List.getElem_cons_succ, List.getElem_cons_zero, Act.put, List.setIfInBounds_toArray, List.set_cons_zero, List.set_cons_succ]
  refine wpAnyH_take (i := 11) (v := ?_) rfl (by kernel_rfl) (by kernel_rfl) (by kernel_rfl) (fun _ _ _ h => h) (Or.inl ⟨by kernel_rfl, ?_⟩) (by assumption) ?_
  rotate_left
  · intro w hSw; (try dsimp only at hSw); go_simp; with_reducible rfl
  try simp only [List.getElem_toArray, List.getElem_cons_succ, List.getElem_cons_zero, Act.put, List.setIfInBounds_toArray, List.set_cons_zero, List.set_cons_succ]
  refine wpAnyH_take (i := 12) (v := ?_) rfl (by kernel_rfl) (by kernel_rfl) (by kernel_rfl) (fun _ _ _ h => h) (Or.inl ⟨by kernel_rfl, ?_⟩) (by assumption) ?_
  rotate_left
  · intro w hSw; (try dsimp only at hSw); go_simp; with_reducible rfl
  try simp only [List.getElem_toArray, List.getElem_cons_succ, List.getElem_cons_zero, Act.put, List.setIfInBounds_toArray, List.set_cons_zero, List.set_cons_succ]
  refine wpAnyH_take (i := 13) (v := ?_) rfl (by kernel_rfl) (by kernel_rfl) (by kernel_rfl) (fun _ _ _ h => h) (Or.inl ⟨by kernel_rfl, ?_⟩) (by assumption) ?_
  rotate_left
  · intro w hSw; (try dsimp only at hSw); go_simp; with_reducible rfl
  try simp only [List.getElem_toArray, List.getElem_cons_succ, List.getElem_cons_zero, Act.put, List.setIfInBounds_toArray, List.set_cons_zero, List.set_cons_succ]
  refine wpAnyH_take (i := 14) (v := ?_) rfl (by kernel_rfl) (by kernel_rfl) (by kernel_rfl) (fun _ _ _ h => h) (Or.inl ⟨by kernel_rfl, ?_⟩) (by assumption) ?_
  rotate_left
  · intro w hSw; (try dsimp only at hSw); go_simp; with_reducible rfl
  try simp only [List.getElem_toArray, List.getElem_cons_succ, List.getElem_cons_zero, Act.put, List.setIfInBounds_toArray, List.set_cons_zero, List.set_cons_succ]
  refine wpAnyH_take (i := 15) (v := ?_) rfl (by kernel_rfl) (by kernel_rfl) (by kernel_rfl) (fun _ _ _ h => h) (Or.inl ⟨by kernel_rfl, ?_⟩) (by assumption) ?_
  rotate_left
  · intro w hSw; (try dsimp only at hSw); go_simp; with_reducible rfl
  try simp only [List.getElem_toArray, List.getElem_cons_succ, List.getElem_cons_zero, Act.put, List.setIfInBounds_toArray, List.set_cons_zero, List.set_cons_succ]
  refine wpAnyH_take (i := 16) (v := ?_) rfl (by kernel_rfl) (by kernel_rfl) (by kernel_rfl) (fun _ _ _ h => h) (Or.inl ⟨by kernel_rfl, ?_⟩) (by assumption) ?_
  rotate_left
  · intro w hSw; (try dsimp only at hSw); go_simp; with_reducible rfl
  try simp only [List.getElem_toArray, List.getElem_cons_succ, List.getElem_cons_zero, Act.put, List.setIfInBounds_toArray, List.set_cons_zero, List.set_cons_succ]
  refine wpAnyH_take (i := 17) (v := ?_) rfl (by kernel_rfl) (by kernel_rfl) (by kernel_rfl) (fun _ _ _ h => h) (Or.inl ⟨by kernel_rfl, ?_⟩) (by assumption) ?_
  rotate_left
  · intro w hSw; (try dsimp only at hSw); go_simp; with_reducible rfl
  try simp only [List.getElem_toArray, List.getElem_cons_succ, List.getElem_cons_zero, Act.put, List.setIfInBounds_toArray, List.set_cons_zero, List.set_cons_succ]
  refine wpAnyH_take (i := 18) (v := ?_) rfl (by kernel_rfl) (by kernel_rfl) (by kernel_rfl) (fun _ _ _ h => h) (Or.inl ⟨by kernel_rfl, ?_⟩) (by assumption) ?_
  rotate_left
  · intro w hSw; (try dsimp only at hSw); go_simp; with_reducible rfl
  try simp only [List.getElem_toArray, List.getElem_cons_succ, List.getElem_cons_zero, Act.put, List.setIfInBounds_toArray, List.set_cons_zero, List.set_cons_succ]
  refine wpAnyH_take (i := 19) (v := ?_) rfl (by kernel_rfl) (by kernel_rfl) (by kernel_rfl) (fun _ _ _ h => h) (Or.inl ⟨by kernel_rfl, ?_⟩) (by assumption) ?_
  rotate_left
  · intro w hSw; (try dsimp only at hSw); go_simp; with_reducible rfl
  try simp only [List.getElem_toArray, List.getElem_cons_succ, List.getElem_cons_zero, Act.put, List.setIfInBounds_toArray, List.set_cons_zero, List.set_cons_succ]
  refine wpAnyH_take (i := 20) (v := ?_) rfl (by kernel_rfl) (by kernel_rfl) (by kernel_rfl) (fun _ _ _ h => h) (Or.inl ⟨by kernel_rfl, ?_⟩) (by assumption) ?_
  rotate_left
  · intro w hSw; (try dsimp only at hSw); go_simp; with_reducible rfl
  try simp only [List.getElem_toArray, List.getElem_cons_succ, List.getElem_cons_zero, Act.put, List.setIfInBounds_toArray, List.set_cons_zero, List.set_cons_succ]
  refine wpAnyH_ready (rs := [10]) (by kernel_rfl) (by simp) ?_
  refine AllReadyH.cons rfl (fun K hK => ?_) AllReadyH.nil
  go_simp
  refine (HC.out (rk x).1 (rk y).1 _).mono ?_
  rintro e W5 ⟨rfl, hw5⟩
  obtain rfl : W0 = W5 := hw5.symm
  try dsimp only
  refine hK.out _ _ ?_ (fun hHeld => ?_)
  · exact hHeld
  clear hK K
  try simp only [List.getElem_toArray, List.getElem_cons_succ, List.getElem_cons_zero, Act.put, List.setIfInBounds_toArray, List.set_cons_zero, List.set_cons_succ]
  refine wpAnyH_ready (rs := [21]) (by kernel_rfl) (by simp) ?_
  refine AllReadyH.cons rfl (fun K hK => ?_) AllReadyH.nil
  go_simp
  refine (HC.out (rk x).2 (rk y).2 _).mono ?_
  rintro e W5 ⟨rfl, hw5⟩
  obtain rfl : W0 = W5 := hw5.symm
  try dsimp only
  refine hK.out _ _ ?_ (fun hHeld => ?_)
  · exact hHeld
  clear hK K
  try simp only [List.getElem_toArray, List.getElem_cons_succ, List.getElem_cons_zero, Act.put, List.setIfInBounds_toArray, List.set_cons_zero, List.set_cons_succ]
  refine wpAnyH_ready (rs := [22]) (by kernel_rfl) (by simp) ?_
  refine AllReadyH.cons rfl (fun K hK => ?_) AllReadyH.nil
  go_simp
  refine hK.out _ _ ?_ (fun hHeld => ?_)
  · exact ⟨(World.cell?_alloc_lt _ _ _ (World.block_lt_of_cell? _ _ h0)).trans h0, (World.cell?_alloc_lt _ _ _ (World.block_lt_of_cell? _ _ h1)).trans h1, (World.cell?_alloc_lt _ _ _ (World.block_lt_of_cell? _ _ h2)).trans h2, (World.cell?_alloc_lt _ _ _ (World.block_lt_of_cell? _ _ h3)).trans h3, (World.cell?_alloc_lt _ _ _ (World.block_lt_of_cell? _ _ h4)).trans h4⟩
  clear hK K
  try simp only [List.getElem_toArray, List.getElem_cons_succ, List.getElem_cons_zero, Act.put, List.setIfInBounds_toArray, List.set_cons_zero, List.set_cons_succ]
  refine wpAnyH_ready (rs := [23]) (by kernel_rfl) (by simp) ?_
  refine AllReadyH.cons rfl (fun K hK => ?_) AllReadyH.nil
  go_simp
  refine (or2_orI W0.heap.size 2 _ _ _ (bx_new W0 _ _ 0 _ rfl) (bx_new W0 _ _ 1 _ rfl)).mono ?_
  rintro e W5 ⟨rfl, hw5⟩
  subst hw5
  try dsimp only
  refine hK.out _ _ ?_ (fun hHeld => ?_)
  · exact hHeld
  clear hK K
  try simp only [List.getElem_toArray, List.getElem_cons_succ, List.getElem_cons_zero, Act.put, List.setIfInBounds_toArray, List.set_cons_zero, List.set_cons_succ]
  refine wpAnyH_ready (rs := [24]) (by kernel_rfl) (by simp) ?_
  refine AllReadyH.cons rfl (fun K hK => ?_) AllReadyH.nil
  go_simp
  refine hK.out _ _ ?_ (fun hHeld => ?_)
  · exact hHeld
  clear hK K
  try simp only [List.getElem_toArray, List.getElem_cons_succ, List.getElem_cons_zero, Act.put, List.setIfInBounds_toArray, List.set_cons_zero, List.set_cons_succ]
  refine wpAnyH_done (by kernel_rfl) ?_ _
  try dsimp only [Exit.then]
  go_wp2_with fail
  go_ret
  exact ⟨rfl, _, congrArg (fun q => World.alloc q _) HW0.out.symm⟩
end Go.Proofs.YtkiilaajomjinaaGreatDoor

/- The library's insertion sort keeps the order of what is equal: what it makes of the numbers below n. No program in sight. -/
namespace Go.Proofs.YtkiilaajomjinaaGreatDoor
open Go.Sort

/-- Less in rank; less in rank, or equal and ahead. -/
def ltR (a b : Int × Int) : Bool := decide (a.1 < b.1) || (a.1 == b.1 && decide (a.2 < b.2))
def ltS (a b : Int × Int) (x y : Nat) : Bool := ltR a b || (a == b && decide (x < y))
theorem ltR_irrefl (a : Int × Int) : ltR a a = false := by simp [ltR]
section
variable {n : Nat} (rk : Fin (n + 1) → Int × Int)
def ltA (x y : Fin (n + 1)) : Bool := ltR (rk x) (rk y)
def ltB (x y : Fin (n + 1)) : Bool := ltS (rk x) (rk y) x.val y.val
theorem ltB_eq {x y : Fin (n + 1)} (h : y.val < x.val) : ltB rk x y = ltA rk x y := by
  unfold ltB ltA ltS
  rw [decide_eq_false (by omega : ¬ x.val < y.val)]
  simp
theorem ltB_iff (x y : Fin (n + 1)) : ltB rk x y = true ↔ (rk x).1 < (rk y).1 ∨ ((rk x).1 = (rk y).1 ∧ ((rk x).2 < (rk y).2 ∨ ((rk x).2 = (rk y).2 ∧ x.val < y.val))) := by
  unfold ltB ltS ltR
  simp only [Bool.or_eq_true, Bool.and_eq_true, decide_eq_true_eq, beq_iff_eq, Prod.ext_iff]
  omega
theorem swoB : SWO (ltB rk) where
  irrefl x := by
    cases h : ltB rk x x
    · rfl
    · rw [ltB_iff] at h; omega
  trans x y z h1 h2 := by
    rw [ltB_iff] at h1 h2 ⊢
    omega
  ntrans x y z h1 h2 := by
    cases h : ltB rk x z
    · rfl
    · have h1' : ¬ ltB rk x y = true := by rw [h1]; decide
      have h2' : ¬ ltB rk y z = true := by rw [h2]; decide
      rw [ltB_iff] at h1' h2' h
      omega
theorem totB (x y : Fin (n + 1)) (h1 : ltB rk x y = false) (h2 : ltB rk y x = false) : x = y := by
  have h1' : ¬ ltB rk x y = true := by rw [h1]; decide
  have h2' : ¬ ltB rk y x = true := by rw [h2]; decide
  rw [ltB_iff] at h1' h2'
  apply Fin.ext
  omega
/-- One element on its way down, all others below it being lesser numbers: both orders move it alike. -/
theorem insInner_alike : ∀ (j : Nat) (d : Array (Fin (n + 1))), j < d.size → (∀ k, k < j → (d[k]!).val < (d[j]!).val) → insInner (ltA rk) 0 j d = insInner (ltB rk) 0 j d
  | 0, _, _, _ => rfl
  | j + 1, d, hj, h => by
    unfold insInner
    rw [ltB_eq rk (h j (by omega))]
    split
    · refine insInner_alike j _ (by rw [Go.Sort.swp_size]; omega) fun k hk => ?_
      rw [swp_get d hj (by omega) k, swp_get d hj (by omega) j, if_neg (by omega), if_neg (by omega), if_pos rfl]
      exact h k (by omega)
    · rfl
theorem insOuter_alike (m : Nat) : ∀ (k i : Nat) (d : Array (Fin (n + 1))), m - i = k → m ≤ d.size → (∀ q, q < i → (d[q]!).val < i) → (∀ q, i ≤ q → q < d.size → (d[q]!).val = q) → SortedIn (ltB rk) 0 i d → insOuter (ltA rk) 0 m i d = insOuter (ltB rk) 0 m i d
  | 0, i, d, hk, hm, _, _, _ => by
    unfold insOuter
    rw [if_neg (by omega), if_neg (by omega)]
  | k + 1, i, d, hk, hm, h1, h2, hs => by
    have hi : i < m := by omega
    rw [insOuter, if_pos hi, insInner_alike rk i d (by omega) (fun q hq => by have := h1 q hq; have := h2 i (by omega) (by omega); omega)]
    have hp := insInner_spec (lt := ltB rk) (swoB rk) swp_permIn permIn_refl permIn_trans 0 (i + 1) i (by omega) i d (Nat.zero_le _) (Nat.le_refl _) (by omega) ⟨fun p q hap hpq hqi _ hq => hs p q hap hpq (by omega), fun q h1 h2 => by omega⟩
    rw [insOuter_alike m k (i + 1) _ (by omega) (by rw [hp.1.1]; exact hm) (fun q hq => permIn_all d _ 0 (i + 1) (fun x => x.val < i + 1) (by omega) hp.1 (fun t _ ht => ?_) q (Nat.zero_le _) hq) (fun q hq1 hq2 => ?_) hp.2]
    · conv => rhs; rw [insOuter, if_pos hi]
    · by_cases e : t = i
      · subst e; have := h2 t (by omega) (by omega); omega
      · have := h1 t (by omega); omega
    · rw [hp.1.1] at hq2
      rw [hp.1.2.1 q (.inr hq1)]
      exact h2 q (by omega) hq2
theorem extract_all {α : Type} (a : Array α) (m : Nat) (h : a.size = m) : a.extract 0 m = a := by subst h; simp
/-- The numbers up to n, in order. -/
def numsA (n : Nat) : Array (Fin (n + 1)) := Array.ofFn id
theorem numsA_size (n : Nat) : (numsA n).size = n + 1 := by simp [numsA]
theorem numsA_at (n q : Nat) (h : q < n + 1) : ((numsA n)[q]!).val = q := by
  rw [getElem!_pos _ q (by rw [numsA_size]; exact h)]
  simp [numsA]
theorem sorted_out : insertionSort (ltA rk) (numsA n) 0 (n + 1) = insertionSort (ltB rk) (numsA n) 0 (n + 1) := by
  unfold insertionSort
  refine insOuter_alike rk (n + 1) _ (0 + 1) (numsA n) rfl (by rw [numsA_size]; omega) (fun q hq => ?_) (fun q hq1 hq2 => numsA_at n q (by rw [numsA_size] at hq2; exact hq2)) (fun i j h1 h2 h3 => by omega)
  rw [numsA_at n q (by omega)]; omega
/-- What comes out: the numbers below n + 1, each once, strictly in order. -/
theorem sorted_list : ((insertionSort (ltA rk) (numsA n) 0 (n + 1)).toList.map Fin.val).Perm (List.range (n + 1)) ∧ ((insertionSort (ltA rk) (numsA n) 0 (n + 1)).toList).Pairwise (fun x y => ltB rk x y = true) ∧ (insertionSort (ltA rk) (numsA n) 0 (n + 1)).size = n + 1 := by
  rw [sorted_out]
  obtain ⟨hp, hs⟩ := insertionSort_holds (lt := ltB rk) (swoB rk) (numsA n) 0 (n + 1) (Nat.zero_le _) (by rw [numsA_size]; exact Nat.le_refl _)
  obtain ⟨h1, -, h3⟩ := hp
  rw [numsA_size] at h1
  have hall : (insertionSort (ltB rk) (numsA n) 0 (n + 1)).toList.Perm (numsA n).toList := by
    rwa [extract_all _ _ h1, extract_all _ _ (numsA_size n)] at h3
  have hr : (numsA n).toList.map Fin.val = List.range (n + 1) := by
    apply List.ext_getElem
    · simp [numsA]
    · intro i h1 h2
      simp only [numsA, List.getElem_map, Array.getElem_toList, Array.getElem_ofFn, id, List.getElem_range]
  have hn : ((insertionSort (ltB rk) (numsA n) 0 (n + 1)).toList.map Fin.val).Perm (List.range (n + 1)) := by
    rw [← hr]; exact hall.map _
  refine ⟨hn, ?_, h1⟩
  have hnd : ((insertionSort (ltB rk) (numsA n) 0 (n + 1)).toList.map Fin.val).Nodup := hn.nodup_iff.2 List.nodup_range
  rw [List.pairwise_iff_getElem]
  intro i j hi hj hij
  simp only [Array.length_toList] at hi hj
  have h9 := hs i j (Nat.zero_le _) hij (by omega)
  rw [getElem!_pos _ i hi, getElem!_pos _ j hj] at h9
  simp only [Array.getElem_toList]
  cases hb : ltB rk _ _ with
  | true => rfl
  | false =>
    have e := totB rk _ _ hb h9
    exfalso
    have h8 := (List.pairwise_iff_getElem.1 hnd) i j (by simpa using hi) (by simpa using hj) hij
    apply h8
    simp [e]
end
end Go.Proofs.YtkiilaajomjinaaGreatDoor
