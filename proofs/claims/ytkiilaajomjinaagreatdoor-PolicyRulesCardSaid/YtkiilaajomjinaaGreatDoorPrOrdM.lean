/- Orders of preference in plain Lean: there is one alone. No program in sight. -/
import Derived.Test.YtkiilaajomjinaaGreatDoorPrFts
import Derived.Test.YtkiilaajomjinaaGreatDoorPrPolM
import Derived.Test.YtkiilaajomjinaaGreatDoorShelf
import Derived.Test.YtkiilaajomjinaaGreatDoorPrRnk
import Derived.Maps.AppendAt
namespace Go.Proofs.YtkiilaajomjinaaGreatDoor

theorem perm_sorted_eq {α : Type} {r : α → α → Prop} (has : ∀ x y, r x y → r y x → False) : ∀ {l m : List α}, l.Perm m → l.Pairwise r → m.Pairwise r → l = m
  | [], m, hp, _, _ => by rw [List.nil_perm.1 hp]
  | a :: l, [], hp, _, _ => absurd hp.length_eq (by simp)
  | a :: l, b :: m, hp, h1, h2 => by
    have h1' := List.pairwise_cons.1 h1
    have h2' := List.pairwise_cons.1 h2
    have hab : a = b := by
      have ha : a ∈ b :: m := hp.mem_iff.1 (by simp)
      have hb : b ∈ a :: l := hp.mem_iff.2 (by simp)
      rcases List.mem_cons.1 ha with e | ha
      · exact e
      · rcases List.mem_cons.1 hb with e | hb
        · exact e.symm
        · exact (has _ _ (h1'.1 b hb) (h2'.1 a ha)).elim
    subst hab
    rw [perm_sorted_eq has (List.Perm.cons_inv hp) h1'.2 h2'.2]
/-- l is the order of preference of n things of those ranks. -/
structure IsOrd (n : Nat) (rk : Nat → Int × Int) (l : List Nat) : Prop where
  perm : l.Perm (List.range n)
  sorted : l.Pairwise fun x y => ltS (rk x) (rk y) x y = true
theorem ltS_iff (a b : Int × Int) (x y : Nat) : ltS a b x y = true ↔ a.1 < b.1 ∨ (a.1 = b.1 ∧ (a.2 < b.2 ∨ (a.2 = b.2 ∧ x < y))) := by
  unfold ltS ltR
  simp only [Bool.or_eq_true, Bool.and_eq_true, decide_eq_true_eq, beq_iff_eq, Prod.ext_iff]
  omega
theorem ltS_asymm {a b : Int × Int} {x y : Nat} (h1 : ltS a b x y = true) (h2 : ltS b a y x = true) : False := by
  rw [ltS_iff] at h1 h2; omega
theorem IsOrd.unique {n : Nat} {rk : Nat → Int × Int} {l m : List Nat} (h1 : IsOrd n rk l) (h2 : IsOrd n rk m) : l = m :=
  perm_sorted_eq (fun _ _ => ltS_asymm) (h1.perm.trans h2.perm.symm) h1.sorted h2.sorted
theorem IsOrd.len {n : Nat} {rk : Nat → Int × Int} {l : List Nat} (h : IsOrd n rk l) : l.length = n := by simpa using h.perm.length_eq
theorem IsOrd.mem {n : Nat} {rk : Nat → Int × Int} {l : List Nat} (h : IsOrd n rk l) {x : Nat} (hx : x ∈ l) : x < n := List.mem_range.1 (h.perm.mem_iff.1 hx)
theorem IsOrd.nodup {n : Nat} {rk : Nat → Int × Int} {l : List Nat} (h : IsOrd n rk l) : l.Nodup := h.perm.nodup_iff.2 List.nodup_range
/-- Only the order of ranks matters. -/
theorem IsOrd.congr {n : Nat} {rk rk' : Nat → Int × Int} {l : List Nat} (h : IsOrd n rk l) (he : ∀ x y, x < n → y < n → ltR (rk x) (rk y) = true → ltR (rk' x) (rk' y) = true) (hq : ∀ x y, x < n → y < n → rk x = rk y → rk' x = rk' y) : IsOrd n rk' l := by
  refine ⟨h.perm, ?_⟩
  have hm : ∀ x ∈ l, x < n := fun x hx => h.mem hx
  have := h.sorted
  refine List.Pairwise.imp_of_mem (fun {x y} hx hy hxy => ?_) this
  unfold ltS at hxy ⊢
  simp only [Bool.or_eq_true, Bool.and_eq_true, decide_eq_true_eq, beq_iff_eq] at hxy ⊢
  rcases hxy with h1 | ⟨h1, h2⟩
  · exact .inl (he x y (hm x hx) (hm y hy) h1)
  · exact .inr ⟨hq x y (hm x hx) (hm y hy) h1, h2⟩
/-- Equal ranks: the order of the list. -/
theorem IsOrd.const {n : Nat} {rk : Nat → Int × Int} {l : List Nat} (h : IsOrd n rk l) (hc : ∀ x y, rk x = rk y) : l = List.range n := by
  refine h.unique ⟨List.Perm.refl _, ?_⟩
  have := List.pairwise_lt_range (n := n)
  refine this.imp fun {x y} hxy => ?_
  unfold ltS
  rw [hc x y]
  simp [hxy]
/-- The choices that a condition lets by come in the same order, where it and the ranks under it agree. -/
theorem IsOrd.filter {n : Nat} {rk rk' : Nat → Int × Int} {l m : List Nat} (h1 : IsOrd n rk l) (h2 : IsOrd n rk' m) (p : Nat → Bool) (hp : ∀ x, x < n → p x = true → rk x = rk' x) : l.filter p = m.filter p := by
  refine perm_sorted_eq (r := fun x y => ltS (rk x) (rk y) x y = true) (fun _ _ => ltS_asymm) ((h1.perm.trans h2.perm.symm).filter p) (h1.sorted.filter p) ?_
  have hs := h2.sorted.filter p
  refine List.Pairwise.imp_of_mem (fun {x y} hx hy hxy => ?_) hs
  have hx' := List.mem_filter.1 hx
  have hy' := List.mem_filter.1 hy
  rw [hp x (h2.mem hx'.1) hx'.2, hp y (h2.mem hy'.1) hy'.2]
  exact hxy
/-- What the library's sort leaves, as a list of numbers. -/
theorem IsOrd.of_sort (n : Nat) (rk : Nat → Int × Int) : IsOrd (n + 1) rk ((Go.Sort.insertionSort (ltA fun x : Fin (n + 1) => rk x.val) (numsA n) 0 (n + 1)).toList.map Fin.val) := by
  obtain ⟨h1, h2, h3⟩ := sorted_list (n := n) (fun x => rk x.val)
  refine ⟨h1, ?_⟩
  rw [List.pairwise_map]
  exact h2
end Go.Proofs.YtkiilaajomjinaaGreatDoor

/- slices.SortStableFunc of the numbers 0 .. n by their ranks, walked. Conditions: at most 12 numbers; numbers and ranks lie in memory. -/
namespace Go.Proofs.YtkiilaajomjinaaGreatDoor
open Go.RowKit Go.Lib Go.Sort Go.Shelf
def encF {n : Nat} (x : Fin (n + 1)) : Value := .int .i64 (x.val : Int)
def cfF (n : Nat) (rk : Nat → Int × Int) (x y : Fin (n + 1)) : Int := cmpRk (rk x.val) (rk y.val)
theorem cmpRk_lt (a b : Int × Int) : decide (cmpRk a b < 0) = ltR a b := by
  rw [Bool.eq_iff_iff]
  unfold cmpRk orI cmpI ltR
  simp only [decide_eq_true_eq, Bool.or_eq_true, Bool.and_eq_true, beq_iff_eq]
  repeat' split
  all_goals omega
theorem ltOf_rk (n : Nat) (rk : Nat → Int × Int) : ltOf (cfF n rk) = ltA (fun x : Fin (n + 1) => rk x.val) := by
  funext x y
  exact cmpRk_lt _ _
theorem sw_cell {α : Type} [Inhabited α] {enc : α → Value} {w : World} {blk boff m : Nat} {dk : Array α} {os : Array Obj} {p : Addr} {v : Value} (h : w.cell? p = some v) (hb : p.block ≠ blk) : (sortWorld enc w blk boff m dk os).cell? p = some v := by
  have h1 : (putRow enc (Go.Sort.ahead w m) blk boff dk).cell? p = some v := by
    rw [cell?_putRow_other _ _ _ _ _ _ (.inl hb)]; exact h
  unfold sortWorld
  rw [cell?_grow _ _ _ (World.block_lt_of_cell? _ _ h1)]
  exact h1
theorem grow_one (w : World) (o : Obj) : w.drew.alloc o = grow (w.drewN 1) #[o] := by
  have e : (w.drewN 1) = w.drew := rfl
  rw [e]
  unfold grow
  rw [Array.append_singleton]
  rfl
theorem cmp_lays (n : Nat) (rk : Nat → Int × Int) (G gr off cap blk boff : Nat) (w : World) (hG : w.cell? ⟨G, 0, none⟩ = some (.slice (some ⟨gr, off, none⟩) (n + 1) cap))
    (hr : ∀ i, i < n + 1 → w.cell? ⟨gr, off + i * 2, none⟩ = some (.int .i64 (rk i).1) ∧ w.cell? ⟨gr, off + i * 2 + 1, none⟩ = some (.int .i64 (rk i).2)) (h1 : G ≠ blk) (h2 : gr ≠ blk) :
    CmpLays1 Tryz.prog 49 #[.pointer (some ⟨G, 0, none⟩)] (encF (n := n)) (cfF n rk) blk boff (numsA n).size w := by
  intro m os dk hs x y
  refine (ord1_any G gr off (n + 1) cap rk x.val y.val x.isLt y.isLt _ (sw_cell hG h1) (fun i hi => ⟨sw_cell (hr i hi).1 h2, sw_cell (hr i hi).2 h2⟩)).mono ?_
  rintro e W' ⟨rfl, o, rfl⟩
  exact ⟨rfl, 1, #[o], grow_one _ o⟩
set_option maxRecDepth 100000 in
theorem insNone_any (p : Option Addr) (cap : Nat) (fv : Value) (w : World) :
    Calls Tryz.prog 131 #[.slice p 0 cap, .int .i64 0, .int .i64 0, fv] w fun e w' => e = .returned (.tuple #[]) ∧ w' = w := by
  go_enter Tryz.func131, Tryz.ntmps131
  go_wp2_with fail
  refine wp_loop_rounds 1 ?_
  rw [rounds_succ]
  go_wp2_with fail
  go_end0
  exact ⟨rfl, rfl⟩
set_option maxRecDepth 100000 in
theorem stableCmp_any (R : World → Ending → World → Prop) (A : Option Addr) (n cap : Nat) (fv : Value) (w : World) (hn : n < 20) (hI : ∀ W, W = w → Calls Tryz.prog 131 #[.slice A n cap, .int .i64 0, .int .i64 n, fv] W fun e w' => e = .returned (.tuple #[]) ∧ R w (.returned (.tuple #[])) w') :
    Calls Tryz.prog 83 #[.slice A n cap, .int .i64 n, fv] w fun e w' => e = .returned (.tuple #[]) ∧ R w (.returned (.tuple #[])) w' := by
  have HI := Lib.hid (hI w rfl)
  have d1 : decide ((20 : Int) ≤ (n : Int)) = false := decide_eq_false (by omega)
  have d2 : decide ((20 : Int) < (n : Int)) = false := decide_eq_false (by omega)
  have d3 : decide (20 ≤ n) = false := decide_eq_false (by omega)
  have d4 : decide (20 < n) = false := decide_eq_false (by omega)
  generalize R w = RR at HI ⊢
  clear hI hn
  go_enter Tryz.func83, Tryz.ntmps83
  go_wp2_with fail
  refine wp_loop_rounds 1 ?_
  rw [rounds_succ]
  go_wp2_with fail
  refine HI.out.mono ?_
  rintro e w5 ⟨rfl, h5⟩
  have H5 := Lib.hid h5
  clear h5
  go_wp2_with fail
  refine wp_loop_rounds 1 ?_
  rw [rounds_succ]
  go_wp2_with fail
  go_end0
  exact ⟨rfl, H5.out⟩
/-- The numbers 0 .. n, sorted. -/
def SortedR (n : Nat) (rk : Nat → Int × Int) (blk : Nat) (w : World) : Ending → World → Prop := fun _ w' => SW (encF (n := n)) w blk 0 (Sort.insertionSort (ltA fun x : Fin (n + 1) => rk x.val) (numsA n) 0 (n + 1)) w'
set_option maxRecDepth 100000 in
theorem stable_any (n : Nat) (hn : n < 12) (rk : Nat → Int × Int) (G gr off cap blk bcap : Nat) (w : World) (hG : w.cell? ⟨G, 0, none⟩ = some (.slice (some ⟨gr, off, none⟩) (n + 1) cap))
    (hr : ∀ i, i < n + 1 → w.cell? ⟨gr, off + i * 2, none⟩ = some (.int .i64 (rk i).1) ∧ w.cell? ⟨gr, off + i * 2 + 1, none⟩ = some (.int .i64 (rk i).2)) (h1 : G ≠ blk) (h2 : gr ≠ blk)
    (hH : Holds (encF (n := n)) w blk 0 (numsA n)) (hblk : blk < w.heap.size) :
    Calls Tryz.prog 48 #[.slice (some ⟨blk, 0, none⟩) (n + 1) bcap, .func (.func 49) #[] #[.pointer (some ⟨G, 0, none⟩)]] w fun e w' => e = .returned (.tuple #[]) ∧ SortedR n rk blk w (.returned (.tuple #[])) w' := by
  have hI : ∀ W, W = w → Calls Tryz.prog 131 #[.slice (some ⟨blk, 0, none⟩) (n + 1 : Nat) bcap, .int .i64 0, .int .i64 (n + 1 : Nat), .func (.func 49) #[] #[.pointer (some ⟨G, 0, none⟩)]] W fun e w' => e = .returned (.tuple #[]) ∧ SortedR n rk blk w (.returned (.tuple #[])) w' := by
    rintro W rfl
    have hcon := Tryz.insertionSortCmpFunc_s (encF (n := n)) (cfF n rk) 49 #[.pointer (some ⟨G, 0, none⟩)] blk 0 bcap 0 (n + 1) (numsA n) (numsA n) W W (fun args w => by kernel_rfl) (cmp_lays n rk G gr off cap blk 0 W hG hr h1 h2) ⟨fun _ => rfl, hH, hblk⟩ rfl (SW.start hH) (Nat.zero_le _) (by rw [numsA_size]; exact Nat.le_refl _) (by rw [numsA_size]; omega)
    rw [numsA_size, ltOf_rk] at hcon
    exact hcon
  have HS := Lib.hid (stableCmp_any (SortedR n rk blk) (some ⟨blk, 0, none⟩) (n + 1) bcap _ w (by omega) hI)
  generalize SortedR n rk blk w = RR at HS ⊢
  clear hI hG hr hH
  go_enter Tryz.func48, Tryz.ntmps48
  go_wp2_with fail
  refine HS.out.mono ?_
  rintro e w5 ⟨rfl, h5⟩
  have H5 := Lib.hid h5
  clear h5
  go_wp2_with fail
  go_end0
  exact ⟨rfl, H5.out⟩
set_option maxRecDepth 100000 in
theorem stableNone_any (p : Option Addr) (cap : Nat) (fv : Value) (w : World) : Calls Tryz.prog 48 #[.slice p 0 cap, fv] w fun e w' => e = .returned (.tuple #[]) ∧ w' = w := by
  have hI : ∀ W, W = w → Calls Tryz.prog 131 #[.slice p (0 : Nat) cap, .int .i64 0, .int .i64 (0 : Nat), fv] W fun e w' => e = .returned (.tuple #[]) ∧ (fun _ _ w' => w' = w : World → Ending → World → Prop) w (.returned (.tuple #[])) w' := by
    rintro W rfl
    exact insNone_any p cap fv W
  have HS := Lib.hid (stableCmp_any (fun _ _ w' => w' = w) p 0 cap fv w (by omega) hI)
  clear hI
  go_enter Tryz.func48, Tryz.ntmps48
  go_wp2_with fail
  refine HS.out.mono ?_
  rintro e w5 ⟨rfl, h5⟩
  have H5 := Lib.hid h5
  clear h5
  go_wp2_with fail
  go_end0
  exact ⟨rfl, H5.out⟩
theorem sw_below {α : Type} [Inhabited α] {enc : α → Value} {w W : World} {blk boff B : Nat} {dk : Array α} (h : SW enc w blk boff dk W) (hB : B ≤ blk) (hB2 : B ≤ w.heap.size) : Below B w W := by
  obtain ⟨n, os, rfl⟩ := h
  refine ⟨rfl, rfl, rfl, SW.le (enc := enc) (w0 := w) (blk := blk) (off := boff) (dk := dk) ⟨n, os, rfl⟩, fun k hk => ?_⟩
  have hs : (putRow enc (Go.Sort.ahead w n) blk boff dk).heap.size = w.heap.size := by rw [Go.Sort.size_putRow]; rfl
  unfold sortWorld grow
  simp only
  rw [Array.getElem?_append_left (by omega)]
  unfold putRow mapBlock
  simp only [Array.getElem?_modify]
  rw [if_neg (by omega)]
  rfl
end Go.Proofs.YtkiilaajomjinaaGreatDoor

/- What policy.Order holds in memory. Conditions: none. -/
namespace Go.Proofs.YtkiilaajomjinaaGreatDoor
open Go.RowKit
/-- Attributes of a choice. -/
structure At where
  task : Int
  case_ : Int
  vals : List Bd
/-- A slice of attributes. -/
structure LiesA (w : World) (B : Nat) (A : Option Addr) (c : Nat) (ls : List At) : Prop where
  len : ls.length ≤ 9223372036854775807
  at_ : ∀ (i : Nat) (h : i < ls.length), ls[i].vals.length ≤ 9223372036854775807 ∧ ∃ (b off : Nat) (A' : Option Addr) (c' : Nat), A = some ⟨b, off, none⟩ ∧ b < B ∧ RdB w B A' ls[i].vals ∧
    w.cell? ⟨b, off + i * 3, none⟩ = some (.int .i64 ls[i].task) ∧ w.cell? ⟨b, off + i * 3 + 1, none⟩ = some (.int .i64 ls[i].case_) ∧ w.cell? ⟨b, off + i * 3 + 2, none⟩ = some (.slice A' ls[i].vals.length c')
theorem LiesA.below' {w w' : World} {B C c : Nat} {A : Option Addr} {ls : List At} (h : LiesA w B A c ls) (hb : Below C w w') (hC : B ≤ C) : LiesA w' B A c ls := by
  refine ⟨h.len, fun i hi => ?_⟩
  obtain ⟨hl, b, off, A', c', e, hbB, hr, x0, x1, x2⟩ := h.at_ i hi
  exact ⟨hl, b, off, A', c', e, hbB, Rd.below' hr hb hC, (hb.cell (p := ⟨b, off + i * 3, none⟩) (by show b < C; omega)).trans x0, (hb.cell (p := ⟨b, off + i * 3 + 1, none⟩) (by show b < C; omega)).trans x1, (hb.cell (p := ⟨b, off + i * 3 + 2, none⟩) (by show b < C; omega)).trans x2⟩
def natV (k : Nat) : Value := .int .i64 (k : Nat)
def rkC (rs : List Rl) (a : At) : List Value := [.int .i64 (rankR rs a.vals).1, .int .i64 (rankR rs a.vals).2]
theorem rkC_len (rs : List Rl) (a : At) : (rkC rs a).length = 2 := rfl
theorem grown_cell {w w' : World} {row : Option Nat} {p : Addr} {v : Value} (h : w.grownBy w' row) (hc : w.cell? p = some v) (hne : row ≠ some p.block) : w'.cell? p = some v := by
  have := h.block p.block (World.block_lt_of_cell? _ _ hc) (fun e => hne e.symm)
  simp only [World.cell?, this]
  exact hc
theorem grown_frozen {w w' : World} {row : Option Nat} {p : Addr} {v : Value} (h : w.grownBy w' row) (hc : w.cell? p = some v) (hne : row ≠ some p.block) : w'.frozen? p = w.frozen? p :=
  frozen_block (h.block p.block (World.block_lt_of_cell? _ _ hc) (fun e => hne e.symm))
theorem rankInfo : (Tryz.prog.info? 96).map (fun i => (i.zero, i.size, i.bytes)) = some (some (.agg #[.int .i64 0, .int .i64 0]), 2, 16) := by kernel_rfl
/-- What Order holds: the indices, the ranks, the variable of the ranks, the policy's box, and one box more. -/
structure OMem (w : World) (base RV PB AB : Nat) (pv av : Value) (rs : List Rl) (ls : List At) (jo jr : Nat) (vo vr vv : Value) (W : World) : Prop where
  out : W.ownsRow base 3 1 vo jo ((List.range jo).map natV)
  rks : W.ownsRow base 96 2 vr jr ((ls.take jr).flatMap (rkC rs))
  apart : ∀ g, vo.ownBlock = some g → vr.ownBlock ≠ some g
  rv : W.cell? ⟨RV, 0, none⟩ = some vv
  rvf : W.frozen? ⟨RV, 0, none⟩ = false
  pb : W.cell? ⟨PB, 0, none⟩ = some pv
  ab : W.cell? ⟨AB, 2, none⟩ = some av
  abo : vo.ownBlock ≠ some AB
  abr : vr.ownBlock ≠ some AB
  rvo : RV ≠ AB
  below : Below w.heap.size w W
  size : base ≤ W.heap.size
  lo : w.heap.size ≤ PB ∧ PB < base ∧ w.heap.size ≤ RV ∧ RV < base ∧ w.heap.size ≤ base ∧ PB ≠ RV
section
variable {w : World} {base RV PB AB : Nat} {pv av : Value} {rs : List Rl} {ls : List At} {jo jr : Nat} {vo vr vv : Value} {W W' : World}
theorem OMem.next (h : OMem w base RV PB AB pv av rs ls jo jr vo vr vv W) (hb : Below W.heap.size W W') : OMem w base RV PB AB pv av rs ls jo jr vo vr vv W' :=
  ⟨own_next h.out hb, own_next h.rks hb, h.apart, (hb.cell (p := ⟨RV, 0, none⟩) (World.block_lt_of_cell? _ _ h.rv)).trans h.rv, (hb.frozen (p := ⟨RV, 0, none⟩) (World.block_lt_of_cell? _ _ h.rv)).trans h.rvf, (hb.cell (p := ⟨PB, 0, none⟩) (World.block_lt_of_cell? _ _ h.pb)).trans h.pb,
    (hb.cell (p := ⟨AB, 2, none⟩) (World.block_lt_of_cell? _ _ h.ab)).trans h.ab, h.abo, h.abr, h.rvo, h.below.trans (hb.mono h.below.size), Nat.le_trans h.size hb.size, h.lo⟩
theorem OMem.drew (h : OMem w base RV PB AB pv av rs ls jo jr vo vr vv W) : OMem w base RV PB AB pv av rs ls jo jr vo vr vv W.drew :=
  h.next ⟨rfl, rfl, rfl, Nat.le_refl _, fun _ _ => rfl⟩
/-- Another box. -/
theorem OMem.box (h : OMem w base RV PB AB pv av rs ls jo jr vo vr vv W) {AB' : Nat} {av' : Value} (hc : W.cell? ⟨AB', 2, none⟩ = some av') (ho : vo.ownBlock ≠ some AB') (hr : vr.ownBlock ≠ some AB') (hv : RV ≠ AB') : OMem w base RV PB AB' pv av' rs ls jo jr vo vr vv W :=
  ⟨h.out, h.rks, h.apart, h.rv, h.rvf, h.pb, hc, ho, hr, hv, h.below, h.size, h.lo⟩
theorem OMem.run_out (h : OMem w base RV PB AB pv av rs ls jo jr vo vr vv W) (hj : jo ≤ 12) (ty : TypeId) : ∃ v2 W2, (Builtin.append_ #[44, 44] ty #[vo, .slice (some ⟨W.heap.size, 0, none⟩) 1 1]).run Tryz.prog (W.alloc (.cells #[natV jo] 3)) = .ok v2 W2 ∧ OMem w base RV PB AB pv av rs ls (jo + 1) jr v2 vr vv W2 := by
  obtain ⟨i0, hi, hz0, hz1, hz2⟩ := info_parts intInfo
  have h1 := h.next (below_alloc W (.cells #[natV jo] 3))
  obtain ⟨v2, W2, hrun, hown, hg, -, hob⟩ := run_append_own_at (P := Tryz.prog) (w := W.alloc (.cells #[natV jo] 3)) base 44 ty 3 i0 (.int .i64 0) 1 8 Tryz.underlying44 hi hz0 hz1 hz2 rfl (by omega) vo jo _ h1.out ⟨W.heap.size, 0, none⟩ 1 1 [natV jo] rfl (bx_add (bx_new W #[natV jo] 3)) (by simp [Value.oneCell', natV]) (by unfold maxLen; omega) (by omega) h1.size
  have hlo := h.lo
  have hrow : ∀ k, k < base → vo.ownBlock ≠ some k := fun k hk e => by have := World.ownsRow.lt h1.out k e; omega
  have hsz : W.heap.size + 1 = (W.alloc (.cells #[natV jo] 3)).heap.size := by simp
  refine ⟨v2, W2, hrun, by rw [List.range_succ, List.map_append]; exact hown, World.ownsRow.kept h1.rks hg ?_, fun g hg2 => ?_, grown_cell hg h1.rv (hrow RV (by omega)), (grown_frozen hg h1.rv (hrow RV (by omega))).trans h1.rvf, grown_cell hg h1.pb (hrow PB (by omega)), grown_cell hg h1.ab h.abo, ?_, h.abr, h.rvo, ?_, Nat.le_trans h1.size hg.size, h.lo⟩
  · cases hv : vr.ownBlock with
    | none => exact .inl rfl
    | some g => exact .inr (fun e => h.apart g e.symm (by rw [hv]))
  · rcases hob with e | e
    · rw [e] at hg2; exact h.apart g hg2
    · rw [e] at hg2
      injection hg2 with hg2
      intro e2
      have := World.ownsRow.lt h1.rks g e2
      omega
  · rcases hob with e | e
    · rw [e]; exact h.abo
    · rw [e]
      intro e2
      injection e2 with e2
      have := World.block_lt_of_cell? _ _ h1.ab
      simp only at this
      omega
  · exact h1.below.grown hg h1.below.size (fun g e => by have := World.ownsRow.lt h1.out g e; omega)
theorem OMem.run_rks (h : OMem w base RV PB AB pv av rs ls jo jr vo vr vv W) (hj : jr ≤ 12) (hl : jr < ls.length) (ty : TypeId) : ∃ v2 W2, (Builtin.append_ #[94, 94] ty #[vr, .slice (some ⟨W.heap.size, 0, none⟩) 1 1]).run Tryz.prog (W.alloc (.cells #[.int .i64 (rankR rs ls[jr].vals).1, .int .i64 (rankR rs ls[jr].vals).2] 96)) = .ok v2 W2 ∧ OMem w base RV PB AB pv av rs ls jo (jr + 1) vo v2 vv W2 := by
  obtain ⟨i0, hi, hz0, hz1, hz2⟩ := info_parts rankInfo
  have h1 := h.next (below_alloc W (.cells #[.int .i64 (rankR rs ls[jr].vals).1, .int .i64 (rankR rs ls[jr].vals).2] 96))
  obtain ⟨v2, W2, hrun, hown, hg, -, hob⟩ := run_append_own_at (P := Tryz.prog) (w := W.alloc (.cells #[.int .i64 (rankR rs ls[jr].vals).1, .int .i64 (rankR rs ls[jr].vals).2] 96)) base 94 ty 96 i0 (.agg #[.int .i64 0, .int .i64 0]) 2 16 Tryz.underlying94 hi hz0 hz1 hz2 rfl (by omega) vr jr _ h1.rks ⟨W.heap.size, 0, none⟩ 1 1 (rkC rs ls[jr]) rfl (bx_add (bx_new W #[.int .i64 (rankR rs ls[jr].vals).1, .int .i64 (rankR rs ls[jr].vals).2] 96)) (by simp [Value.oneCell', rkC]) (by unfold maxLen; omega) (by omega) h1.size
  have hlo := h.lo
  have hrow : ∀ k, k < base → vr.ownBlock ≠ some k := fun k hk e => by have := World.ownsRow.lt h1.rks k e; omega
  have hsz : W.heap.size + 1 = (W.alloc (.cells #[.int .i64 (rankR rs ls[jr].vals).1, .int .i64 (rankR rs ls[jr].vals).2] 96)).heap.size := by simp
  refine ⟨v2, W2, hrun, World.ownsRow.kept h1.out hg ?_, ?_, fun g hg2 => ?_, grown_cell hg h1.rv (hrow RV (by omega)), (grown_frozen hg h1.rv (hrow RV (by omega))).trans h1.rvf, grown_cell hg h1.pb (hrow PB (by omega)), grown_cell hg h1.ab h.abr, h.abo, ?_, h.rvo, ?_, Nat.le_trans h1.size hg.size, h.lo⟩
  · cases hv : vo.ownBlock with
    | none => exact .inl rfl
    | some g => exact .inr (fun e => h.apart g hv e.symm)
  · rw [List.take_add_one, List.getElem?_eq_getElem hl, List.flatMap_append]
    simpa using hown
  · rcases hob with e | e
    · rw [e]; exact h.apart g hg2
    · rw [e]
      intro e2
      injection e2 with e2
      have := World.ownsRow.lt h1.out g hg2
      omega
  · rcases hob with e | e
    · rw [e]; exact h.abr
    · rw [e]
      intro e2
      injection e2 with e2
      have := World.block_lt_of_cell? _ _ h1.ab
      simp only at this
      omega
  · exact h1.below.grown hg h1.below.size (fun g e => by have := World.ownsRow.lt h1.rks g e; omega)
theorem own_set {W : World} {base size n : Nat} {e : TypeId} {v u : Value} {xs : List Value} (h : W.ownsRow base e size v n xs) {p : Addr} (hp : p.block < base) : (W.setCell p u).ownsRow base e size v n xs := by
  refine ⟨h.1, ?_⟩
  rcases h.2 with hn | ⟨g, cap, cur, rfl, hb, hg, rest⟩
  · exact .inl hn
  · exact .inr ⟨g, cap, cur, rfl, hb, by rw [heap_setCell_other _ _ _ _ (by omega)]; exact hg, rest⟩
/-- The variable of the ranks is stored. -/
theorem OMem.store (h : OMem w base RV PB AB pv av rs ls jo jr vo vr vv W) (u : Value) : OMem w base RV PB AB pv av rs ls jo jr vo vr u (W.setCell ⟨RV, 0, none⟩ u) := by
  have hlo := h.lo
  refine ⟨own_set h.out (p := ⟨RV, 0, none⟩) (by show RV < base; omega), own_set h.rks (p := ⟨RV, 0, none⟩) (by show RV < base; omega), h.apart, World.cell?_setCell_same _ _ _ h.rv, by rw [World.frozen?_setCell]; exact h.rvf, (World.cell?_setCell_far _ _ _ _ (by show RV ≠ PB; omega)).trans h.pb, (World.cell?_setCell_far _ _ _ _ h.rvo).trans h.ab, h.abo, h.abr, h.rvo, h.below.setCell (p := ⟨RV, 0, none⟩) (by show w.heap.size ≤ RV; omega) _, by simpa using h.size, h.lo⟩
end
end Go.Proofs.YtkiilaajomjinaaGreatDoor
