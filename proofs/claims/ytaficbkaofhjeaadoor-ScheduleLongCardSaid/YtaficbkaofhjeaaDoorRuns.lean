/- schedule.runs, walked. Conditions: the slice reads as a list. -/
import Derived.Test.YtaficbkaofhjeaaDoorRefEnc
import Derived.Test.YtaficbkaofhjeaaDoorSeqLaw
import Derived.Test.YtaficbkaofhjeaaDoorSlice
import Derived.Sort.QuietTacIn
import Derived.Sort.BigQuietIn
namespace Go.Proofs.YtaficbkaofhjeaaDoor
open Go.RowKit Go.Shelf
attribute [local go_sem] Oper.semAt_some
attribute [local go_sem ↓] run_eql_ch

/-- The length of the slice that a box holds, read off the world: for a loop's measure. -/
def boxLen (b : Nat) (w : World) : Nat := match w.heap[b]? with
  | some (.cells c _ _) => (match c.getD 0 (.bool false) with | .slice _ n _ => n | _ => 0)
  | _ => 0
theorem boxLen_eq {b : Nat} {w : World} {t : TypeId} {A : Option Addr} {n c : Nat} (h : Boxed w b t (.slice A n c)) : boxLen b w = n := by
  unfold Boxed at h; simp [boxLen, h]
theorem Chs.cut {w : World} {B : Nat} {A : Option Addr} {l : List Ch} {k cap : Nat} (h : Chs w B A l) (hk : k ≤ l.length) (hc : l.length ≤ cap) : Chs w B (cutAddr A cap k 2) (l.drop k) := by
  have := Rd.drop h hk hc
  unfold Chs
  rw [List.length_drop]
  have e : chCells (l.drop k) = (chCells l).drop (k * 2) := by
    clear this h hc
    induction l generalizing k with
    | nil => simp [chCells]
    | cons c l ih =>
      cases k with
      | zero => simp
      | succ k => rw [List.drop_succ_cons, ih (by simpa using hk), chCells_cons, show (k + 1) * 2 = k * 2 + 1 + 1 from by omega]; simp
  rw [e]
  exact this
/-- What runs does to the world by itself: it may write its own variable. -/
def OnlyB (b : Nat) (A B : World) : Prop := A.grownBy B (some b)
/-- What a round of runs keeps: its variable, and what lies below B0. -/
def KeepsR (b B0 : Nat) (A B : World) : Prop := B.heap[b]? = A.heap[b]? ∧ Below B0 A B

set_option maxRecDepth 100000 in
set_option maxHeartbeats 3200000 in
theorem runs1_in (n : Nat) (hn : 1 ≤ n) (l Bn B0 : Nat) (A : Option Addr) (c : Nat) (L : List Ch) (hL : L.length ≤ 2000) (hcap : L.length ≤ c) (J Jx : List (Nat × Ch) → World → Prop)
    (hJ : ∀ s A B, J s A → OnlyB Bn A B → J s B)
    (hY : ∀ pre x W, J pre W → pre.length < 2001 → YieldAt Fence.wide (n - 1) Tryd.prog l #[.int .i64 (x.1 : Nat), .agg #[.int .i64 x.2.1, .int .i64 x.2.2]] W fun e W' =>
      (e = .returned (.bool true) ∧ J (pre ++ [x]) W' ∧ KeepsR Bn B0 W W') ∨ (e = .returned (.bool false) ∧ Jx (pre ++ [x]) W'))
    (W : World) (hBn : Boxed W Bn 22 (.slice A L.length c)) (hc : Chs W B0 A L) (hB0 : B0 ≤ Bn) (h0 : J [] W) :
    CallsIn Fence.wide n Tryd.prog 32 #[.func (.yield l) #[] #[], .pointer (some ⟨Bn, 0, none⟩)] W fun e W' => (∃ v, e = .returned v) ∧
      ((∃ ys, ys = rle L ∧ J ys W') ∨ (∃ pre, True ∧ Jx pre W')) := by
  refine callsIn_of_wp Tryd.func32 rfl trivial ?_ rfl
  simp only [Tryd.ntmps32, List.size_toArray, List.length_cons, List.length_nil, Nat.reduceAdd, Nat.reduceSub, Array.replicate_succ, Array.replicate_zero, List.push_toArray, List.append_toArray, List.nil_append, List.cons_append]
  gi_wp2
  gi_loopw [3] (fun _ wr => ∃ (pre : List (Nat × Ch)) (rest : List Ch) (A' : Option Addr) (c' : Nat), rle L = pre ++ rle rest ∧ J pre wr ∧ Boxed wr Bn 22 (.slice A' rest.length c') ∧ Chs wr B0 A' rest ∧ rest.length ≤ c' ∧ rest.length ≤ 2000 ∧ pre.length + rest.length ≤ 2000)
    (fun _ wr => boxLen Bn wr)
  case atStart => exact ⟨[], L, A, c, rfl, h0, hBn, hc, hcap, hL, by simpa using hL⟩
  case round =>
    obtain ⟨pre, rest, A', c', hrle, hj, hbox, hch, hcp, hr2, hpr⟩ := hrel
    have HR := Lib.hid hrle
    have hcl := hbox.cell
    clear hrle
    cases rest with
    | nil =>
      gi_wp2
      go_end0
      exact ⟨⟨_, rfl⟩, .inl ⟨pre, by have := HR.out; rw [rle_nil, List.append_nil] at this; exact this.symm, hj⟩⟩
    | cons x rest =>
      obtain ⟨b, off, rfl, had, h1, h2⟩ := hch.at_ (k := 0) (by simp)
      simp only [Nat.zero_mul, Nat.add_zero, List.getElem_cons_zero] at h1 h2
      gi_wp2
      obtain ⟨wo, rfl⟩ : ∃ wo : World, wo = wr := ⟨_, rfl⟩
      obtain ⟨m, hm⟩ : ∃ m : Nat, lead x (x :: rest) = m := ⟨_, rfl⟩
      have hmle : m ≤ rest.length + 1 := by have := lead_le x (x :: rest); rw [hm] at this; simpa using this
      have hmpos : 1 ≤ m := by have := lead_pos x rest; omega
      have HLT : Hid (∀ i, i < m → (x :: rest)[i]? = some x) := fun i hi => lead_lt (by omega)
      have HST : Hid ((x :: rest)[m]? ≠ some x) := by
        show ¬ _
        rw [← hm]; exact lead_stop x _
      have HM := Lib.hid hm
      clear hm
      gi_loopw [3] (fun j wr => ∃ (i q : Nat), j = .int .i64 (i : Nat) ∧ 1 ≤ i ∧ i ≤ m ∧ wr = wo.drewN q) (fun j _ => m - (intOf j).toNat)
      case atStart => exact ⟨1, 0, rfl, by omega, by omega, rfl⟩
      case round =>
        obtain ⟨i, q, rfl, h1i, him, rfl⟩ := hrel
        have hx2 : (0 : Int) ≤ (i : Int) := by omega
        have hr3 : rest.length + 1 ≤ 2000 := by simpa using hr2
        have hib : (i : Int) ≤ 2001 := by omega
        have hpr2 : pre.length + (rest.length + 1) ≤ 2000 := by simpa using hpr
        by_cases hlt : i < m
        · have hx3 : (i : Int) < (rest.length : Int) + 1 := by omega
          obtain ⟨b', off', e', _, f1, f2⟩ := hch.at_ (k := i) (by simp; omega)
          cases e'
          have hlm : (x :: rest)[i]'(by simp; omega) = x := by
            have := HLT.out i hlt
            rw [List.getElem?_eq_getElem (by simp; omega)] at this
            exact Option.some.inj this
          rw [hlm] at f1 f2
          have hcb : chB x.1 x.2 x.1 x.2 = true := by rw [chB_eq]; simp
          have hd1 : decide ((i : Int) < (rest.length : Int) + 1) = true := by simp; omega
          clear hlm
          gi_wp2
          gi_big_quiet_th (fail)
          gi_wp2
          exact ⟨⟨i + 1, _, by go_num, by omega, by omega, rfl⟩, by simp [intOf]; omega⟩
        · obtain rfl : i = m := by omega
          by_cases hend : i < rest.length + 1
          · have hx3 : (i : Int) < (rest.length : Int) + 1 := by omega
            obtain ⟨b', off', e', _, f1, f2⟩ := hch.at_ (k := i) (by simp; omega)
            cases e'
            obtain ⟨y, hy⟩ : ∃ y : Ch, (x :: rest)[i]'(by simp; omega) = y := ⟨_, rfl⟩
            have hyx : y ≠ x := by
              have := HST.out
              rw [List.getElem?_eq_getElem (by simp; omega), hy] at this
              exact fun e => this (by rw [e])
            rw [hy] at f1 f2
            have hcb : chB y.1 y.2 x.1 x.2 = false := by rw [chB_eq]; simpa using hyx
            have hd1 : decide ((i : Int) < (rest.length : Int) + 1) = true := by simp; omega
            clear hy hyx
            have hplen : pre.length < 2001 := by omega
            have hsl := fun W => run_slice_from (P := Tryd.prog) Tryd.underlying22 Tryd.sizeOf36 (some ⟨b, off, none⟩) (n := rest.length + 1) (cap := c') (l := i) (by omega) .i64 W
            gi_wp2
            gi_big_quiet_th (fail)
            obtain ⟨fn, tmps, assign, body, hy2, hR2⟩ := hY pre (i, x) (wo.drewN (q + nq)) (hJ _ _ _ hj (only_drewN _ _ _)) hplen
            dsimp only at hy2
            gi_wp2
            refine hR2.mono ?_
            rintro e W3 (⟨rfl, hJ3, hk3, hk4⟩ | ⟨rfl, hJx3⟩)
            · have hbox3 : Boxed W3 Bn 22 (.slice (some ⟨b, off, none⟩) (rest.length + 1) c') := hk3.trans hbox
              have hcl3 := hbox3.cell
              have hfr3 := hbox3.frozen
              gi_wp2
              have hlen : ((x :: rest).drop i).length = rest.length + 1 - i := by simp
              have hch3 : Chs W3 B0 (cutAddr (some ⟨b, off, none⟩) c' i 2) ((x :: rest).drop i) := Chs.below (Rd.drewN (hch.cut (by simp; omega) hcp) (q + nq)) hk4
              have hset := hbox3.set (.slice (cutAddr (some ⟨b, off, none⟩) c' i 2) (rest.length + 1 - i) (c' - i))
              refine ⟨⟨pre ++ [(i, x)], (x :: rest).drop i, cutAddr (some ⟨b, off, none⟩) c' i 2, c' - i, ?_, hJ _ _ _ hJ3 (grownBy_setCell' W3 Bn _), by rw [hlen]; exact hset, Rd.setCell hch3 hB0 _, by rw [hlen]; simp only [List.length_cons] at hcp; omega, by rw [hlen]; omega, by rw [hlen]; simp; omega⟩, ?_⟩
              · rw [HR.out, rle_cons, HM.out]; simp
              · rw [boxLen_eq hset, boxLen_eq hbox]; simp; omega
            · gi_wp2
              refine bodyPost_ret (results_none rfl _ _ _) rfl ?_
              exact ⟨⟨_, rfl⟩, .inr ⟨_, trivial, hJx3⟩⟩
          · have hd1 : decide ((i : Int) < (rest.length : Int) + 1) = false := by simp; omega
            have hplen : pre.length < 2001 := by omega
            have hsl := fun W => run_slice_from (P := Tryd.prog) Tryd.underlying22 Tryd.sizeOf36 (some ⟨b, off, none⟩) (n := rest.length + 1) (cap := c') (l := i) (by omega) .i64 W
            gi_wp2
            gi_big_quiet_th (fail)
            obtain ⟨fn, tmps, assign, body, hy2, hR2⟩ := hY pre (i, x) (wo.drewN (q + nq)) (hJ _ _ _ hj (only_drewN _ _ _)) hplen
            dsimp only at hy2
            gi_wp2
            refine hR2.mono ?_
            rintro e W3 (⟨rfl, hJ3, hk3, hk4⟩ | ⟨rfl, hJx3⟩)
            · have hbox3 : Boxed W3 Bn 22 (.slice (some ⟨b, off, none⟩) (rest.length + 1) c') := hk3.trans hbox
              have hcl3 := hbox3.cell
              have hfr3 := hbox3.frozen
              gi_wp2
              have hlen : ((x :: rest).drop i).length = rest.length + 1 - i := by simp
              have hch3 : Chs W3 B0 (cutAddr (some ⟨b, off, none⟩) c' i 2) ((x :: rest).drop i) := Chs.below (Rd.drewN (hch.cut (by simp; omega) hcp) (q + nq)) hk4
              have hset := hbox3.set (.slice (cutAddr (some ⟨b, off, none⟩) c' i 2) (rest.length + 1 - i) (c' - i))
              refine ⟨⟨pre ++ [(i, x)], (x :: rest).drop i, cutAddr (some ⟨b, off, none⟩) c' i 2, c' - i, ?_, hJ _ _ _ hJ3 (grownBy_setCell' W3 Bn _), by rw [hlen]; exact hset, Rd.setCell hch3 hB0 _, by rw [hlen]; simp only [List.length_cons] at hcp; omega, by rw [hlen]; omega, by rw [hlen]; simp; omega⟩, ?_⟩
              · rw [HR.out, rle_cons, HM.out]; simp
              · rw [boxLen_eq hset, boxLen_eq hbox]; simp; omega
            · gi_wp2
              refine bodyPost_ret (results_none rfl _ _ _) rfl ?_
              exact ⟨⟨_, rfl⟩, .inr ⟨_, trivial, hJx3⟩⟩

theorem runs_stops (n : Nat) (hn : 1 ≤ n) (Bn B0 : Nat) (A : Option Addr) (c : Nat) (L : List Ch) (hL : L.length ≤ 2000) (hcap : L.length ≤ c) (w : World) (hBn : Boxed w Bn 22 (.slice A L.length c)) (hc : Chs w B0 A L) (hB0 : B0 ≤ Bn) :
    SeqAb Fence.wide n Tryd.prog 32 #[.pointer (some ⟨Bn, 0, none⟩)] (fun x : Nat × Ch => #[Value.int .i64 (x.1 : Nat), .agg #[.int .i64 x.2.1, .int .i64 x.2.2]]) (OnlyB Bn) (KeepsR Bn B0) (fun ys => ys = rle L) (fun _ => True) (fun pre _ => pre.length < 2001) w := fun l J Jx W hW hJ _ hY h0 =>
  runs1_in n hn l Bn B0 A c L hL hcap J Jx hJ hY W ((hW.block Bn hBn.lt).trans hBn) (hc.below' hW (by have := hBn.lt; omega)) hB0 h0

set_option maxHeartbeats 400000 in
theorem runs_in (n : Nat) (A : Option Addr) (k c : Nat) (w : World) :
    CallsIn Fence.wide n Tryd.prog 19 #[.slice A k c] w fun e w' => e = .returned (.func (.func 32) #[] #[.pointer (some ⟨w.heap.size, 0, none⟩)]) ∧ w' = w.alloc (.cells #[.slice A k c] 22) := by
  refine callsIn_of_wp Tryd.func19 rfl trivial ?_ rfl
  simp only [Tryd.ntmps19, List.size_toArray, List.length_cons, List.length_nil, Nat.reduceAdd, Nat.reduceSub, Array.replicate_succ, Array.replicate_zero, List.push_toArray, List.append_toArray, List.nil_append, List.cons_append]
  gi_wp2
  go_ret
  exact ⟨rfl, rfl⟩
end Go.Proofs.YtaficbkaofhjeaaDoor
