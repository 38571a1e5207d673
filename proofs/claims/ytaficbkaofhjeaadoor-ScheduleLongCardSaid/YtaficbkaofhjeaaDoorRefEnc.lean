/- ref32.Encode, walked. Conditions: the slice reads as a list. -/
import Derived.Test.YtaficbkaofhjeaaDoorEncList
import Derived.Test.YtaficbkaofhjeaaDoorSame
import Derived.Test.YtaficbkaofhjeaaDoorRunM
import Derived.Deep.RegionHeld3
namespace Go.Proofs.YtaficbkaofhjeaaDoor
open Go.RowKit

/-- What an encoder of schedules returns. -/
def encSRes (l : List Ch) : Value := if checkE l = 0 then listRes (nums (rle l)) else .tuple #[.string ⟨#[]⟩, .int .i64 (checkE l)]
theorem checkE_len {l : List Ch} (h : checkE l = 0) : l.length ≤ 2000 := by
  unfold checkE at h
  split at h
  · omega
  · omega

section
attribute [local go_sem ↓] run_eql_ch
set_option maxRecDepth 100000 in
set_option maxHeartbeats 3200000 in
theorem refEncode_any (A : Option Addr) (c : Nat) (l : List Ch) (w : World) (h : Chs w w.heap.size A l) (hm : l.length ≤ maxLen) :
    Calls Tryd.prog 8 #[.slice A l.length c] w (Ret (encSRes l) w) := by
  obtain ⟨i0, hi, hz0, hz1, hz2⟩ := info_parts i64info
  by_cases hce : checkE l = 0
  · have hl := checkE_len hce
    have hres : encSRes l = listRes (nums (rle l)) := by rw [encSRes, if_pos hce]
    have hcall := refCheck_any A c l w h hm
    rw [hce] at hcall
    rw [hres]
    clear hres hce
    have HCALL := Lib.hid hcall
    clear hcall hm
    go_enter Tryd.func8, Tryd.ntmps8
    go_wp2_with fail
    refine HCALL.out.mono ?_
    rintro e w1 ⟨rfl, hb1⟩
    go_wp2
    go_loopw [5, 6, 7] (fun v i _ wr => ∃ (k : Nat) (pre : List (Nat × Ch)), i = .int .i64 k ∧ k ≤ l.length ∧ pre.length ≤ k ∧ rle l = pre ++ rle (l.drop k) ∧ OwnI wr w.heap.size v (nums pre) ∧ Below w.heap.size w wr) (fun _ i _ _ => l.length - (intOf i).toNat)
    case atStart => exact ⟨0, [], rfl, by omega, by simp, rfl, World.ownsRow_nil _ _ _ _, hb1⟩
    case round =>
      obtain ⟨k, pre, rfl, hk, hpk, hrle, hown, hb⟩ := hrel
      have HRLE := Lib.hid hrle
      clear hrle
      by_cases hlt : k < l.length
      · obtain ⟨b, off, rfl, had, h1, h2⟩ := (h.below hb).at_ hlt
        have hcons : l.drop k = l[k] :: l.drop (k + 1) := List.drop_eq_getElem_cons hlt
        obtain ⟨x, hx⟩ : ∃ x : Ch, l[k] = x := ⟨_, rfl⟩
        rw [hx] at h1 h2 hcons
        have HC := Lib.hid hcons
        have HX := Lib.hid hx
        clear hcons hx
        have hi1 : (0 : Int) ≤ (k : Int) := by omega
        have hi2 : (k : Int) < (l.length : Int) := by omega
        go_wp2
        obtain ⟨wo, rfl⟩ : ∃ wo : World, wo = wr := ⟨_, rfl⟩
        obtain ⟨n, hn⟩ : ∃ n : Nat, lead x (x :: l.drop (k + 1)) = n := ⟨_, rfl⟩
        have hnle : k + n ≤ l.length := by
          have := lead_le x (x :: l.drop (k + 1))
          rw [hn] at this
          simp at this
          omega
        have hnpos : 1 ≤ n := by have := lead_pos x (l.drop (k + 1)); omega
        have HLT : Hid (∀ i, k ≤ i → i < k + n → l[i]? = some x) := by
          intro i hi1 hi2
          obtain ⟨j, rfl⟩ : ∃ j, i = k + j := ⟨i - k, by omega⟩
          rw [← List.getElem?_drop, HC.out]
          exact lead_lt (by omega)
        have HST : Hid (l[k + n]? ≠ some x) := by
          show ¬ _
          rw [← List.getElem?_drop, HC.out, ← hn]
          exact lead_stop x _
        have HN := Lib.hid hn
        clear hn
        go_loopw [7] (fun j wr => ∃ (i q : Nat), j = .int .i64 (i : Nat) ∧ k ≤ i ∧ i ≤ k + n ∧ wr = wo.drewN q) (fun j _ => k + n - (intOf j).toNat)
        case atStart => exact ⟨k, 0, rfl, by omega, by omega, rfl⟩
        case round =>
          obtain ⟨i, q, rfl, hki, hin, rfl⟩ := hrel
          have hx2 : (0 : Int) ≤ (i : Int) := by omega
          by_cases hmn2 : i < k + n
          · have hx3 : (i : Int) < (l.length : Int) := by omega
            obtain ⟨b', off', e', _, f1, f2⟩ := (h.below hb).at_ (k := i) (by omega)
            cases e'
            have hlm : l[i]'(by omega) = x := by
              have := HLT.out i hki hmn2
              rw [List.getElem?_eq_getElem (by omega)] at this
              exact Option.some.inj this
            rw [hlm] at f1 f2
            have hch : chB x.1 x.2 x.1 x.2 = true := by rw [chB_eq]; simp
            have hdl : decide (i < l.length) = true := by simp; omega
            clear hlm
            go_wp2
            go_quiet (fail)
            go_wp2
            exact ⟨⟨i + 1, _, by go_num, by omega, by omega, rfl⟩, by simp [intOf]; omega⟩
          · obtain rfl : i = k + n := by omega
            by_cases hend : k + n < l.length
            · have hx3 : ((k + n : Nat) : Int) < (l.length : Int) := by omega
              obtain ⟨b', off', e', _, f1, f2⟩ := (h.below hb).at_ (k := k + n) hend
              cases e'
              obtain ⟨y, hy⟩ : ∃ y : Ch, l[k + n] = y := ⟨_, rfl⟩
              have hyx : y ≠ x := by
                have := HST.out
                rw [List.getElem?_eq_getElem hend, hy] at this
                exact fun e => this (by rw [e])
              rw [hy] at f1 f2
              have hch : chB y.1 y.2 x.1 x.2 = false := by rw [chB_eq]; simpa using hyx
              obtain ⟨i, hi⟩ : ∃ i, i = k + n := ⟨_, rfl⟩
              rw [← hi] at f1 f2 hx3 hend hin hx2 ⊢
              have hdl : decide (i < l.length) = true := by simp; omega
              have HI := Lib.hid hi
              clear hy hyx hi
              go_wp2
              go_quiet (fail)
              go_wp2_with fail
              have hsub : (i : Int) - (k : Int) = (n : Int) := by have := HI.out; omega
              have hwr : IntKind.i64.wrap (n : Int) = (n : Int) := IntWalk.i64_in _ (by omega)
              have hpl : (nums pre).length = 3 * pre.length := nums_len pre
              have hmx : (nums pre).length + 3 ≤ maxLen := by unfold maxLen; omega
              have hby : ((nums pre).length + 3) * 8 ≤ 140737488355328 := by omega
              have hbs : w.heap.size ≤ wo.heap.size + 1 := by have := hb.size; omega
              have hbw : b < wo.heap.size := by have := hb.size; omega
              have hownA : ∀ o, (wo.alloc o).ownsRow w.heap.size 3 1 u5 (nums pre).length (i64s (nums pre)) := fun o => World.ownsRow.alloc hown o
              have hne : u5.ownBlock ≠ some b := fun e => by have := (World.ownsRow.lt hown b e).1; omega
              clear hpl
              go_region_held3 (fun w' => w'.cell? ⟨b, off + k * 2, none⟩ = some (.int .i64 x.1) ∧ w'.cell? ⟨b, off + k * 2 + 1, none⟩ = some (.int .i64 x.2)) (first | exact ⟨h1, h2⟩ | exact ⟨(World.cell?_alloc_lt wo _ _ hbw).trans h1, (World.cell?_alloc_lt wo _ _ hbw).trans h2⟩ | (refine ⟨?_, ?_⟩ <;> (rw [hg2.cell_far _ (by simp; omega) (Ne.symm hne)]; first | exact (World.cell?_alloc_lt wo _ _ hbw).trans h1 | exact (World.cell?_alloc_lt wo _ _ hbw).trans h2))) ((refine step_append_lies _ (by rfl) _ _ _ (by rfl) w.heap.size 3 i0 _ 1 8 Tryd.underlying39 hi hz0 hz1 hz2 rfl (by omega) u5 (nums pre).length (i64s (nums pre)) (by rfl) (by exact hownA _) ⟨wo.heap.size, 0, none⟩ 3 3 [.int .i64 (n : Int), .int .i64 x.1, .int .i64 x.2] (by rfl) (by rfl) (by exact World.news_of_block (cs := #[.int .i64 (n : Int), .int .i64 x.1, .int .i64 x.2]) (t := 3) (fr := (0, 0)) (heap_alloc_new wo _)) (by simp [Value.oneCell']) (by omega) hmx hby (by simp; omega) (wo.heap.size + 1) (by simp) ?_; intro g cap w2 hown2 hg2 hat hlt2))
              have hb2 : Below w.heap.size w w2 := ((below_drewN hb (q + nq + 1)).trans (below_alloc2 (w := wo.drewN (q + nq + 1)) hb.size (.cells #[.int .i64 (n : Int), .int .i64 x.1, .int .i64 x.2] 3))).grown hg2 (by have := hb.size; simp; omega) (fun g e => (World.ownsRow.lt hown g e).1)
              go_wp2
              refine ⟨⟨k + n, pre ++ [(n, x)], by rw [HI.out], by omega, by simp; omega, ?_, ownI_of_eq (by simp [nums_append, nums_one]) (by rw [nums_append, i64s_append]; rfl) hown2, hb2⟩, by simp [intOf]; omega⟩
              rw [HRLE.out, HC.out, rle_cons, HN.out, ← HC.out, List.drop_drop]
              simp
            · have hdl : decide (k + n < l.length) = false := by simp; omega
              obtain ⟨i, hi⟩ : ∃ i, i = k + n := ⟨_, rfl⟩
              rw [← hi] at hdl hin hx2 hend ⊢
              have HI := Lib.hid hi
              clear hi
              go_wp2
              go_quiet (fail)
              go_wp2_with fail
              have hsub : (i : Int) - (k : Int) = (n : Int) := by have := HI.out; omega
              have hwr : IntKind.i64.wrap (n : Int) = (n : Int) := IntWalk.i64_in _ (by omega)
              have hpl : (nums pre).length = 3 * pre.length := nums_len pre
              have hmx : (nums pre).length + 3 ≤ maxLen := by unfold maxLen; omega
              have hby : ((nums pre).length + 3) * 8 ≤ 140737488355328 := by omega
              have hbs : w.heap.size ≤ wo.heap.size + 1 := by have := hb.size; omega
              have hbw : b < wo.heap.size := by have := hb.size; omega
              have hownA : ∀ o, (wo.alloc o).ownsRow w.heap.size 3 1 u5 (nums pre).length (i64s (nums pre)) := fun o => World.ownsRow.alloc hown o
              have hne : u5.ownBlock ≠ some b := fun e => by have := (World.ownsRow.lt hown b e).1; omega
              clear hpl
              go_region_held3 (fun w' => w'.cell? ⟨b, off + k * 2, none⟩ = some (.int .i64 x.1) ∧ w'.cell? ⟨b, off + k * 2 + 1, none⟩ = some (.int .i64 x.2)) (first | exact ⟨h1, h2⟩ | exact ⟨(World.cell?_alloc_lt wo _ _ hbw).trans h1, (World.cell?_alloc_lt wo _ _ hbw).trans h2⟩ | (refine ⟨?_, ?_⟩ <;> (rw [hg2.cell_far _ (by simp; omega) (Ne.symm hne)]; first | exact (World.cell?_alloc_lt wo _ _ hbw).trans h1 | exact (World.cell?_alloc_lt wo _ _ hbw).trans h2))) ((refine step_append_lies _ (by rfl) _ _ _ (by rfl) w.heap.size 3 i0 _ 1 8 Tryd.underlying39 hi hz0 hz1 hz2 rfl (by omega) u5 (nums pre).length (i64s (nums pre)) (by rfl) (by exact hownA _) ⟨wo.heap.size, 0, none⟩ 3 3 [.int .i64 (n : Int), .int .i64 x.1, .int .i64 x.2] (by rfl) (by rfl) (by exact World.news_of_block (cs := #[.int .i64 (n : Int), .int .i64 x.1, .int .i64 x.2]) (t := 3) (fr := (0, 0)) (heap_alloc_new wo _)) (by simp [Value.oneCell']) (by omega) hmx hby (by simp; omega) (wo.heap.size + 1) (by simp) ?_; intro g cap w2 hown2 hg2 hat hlt2))
              have hb2 : Below w.heap.size w w2 := ((below_drewN hb (q + nq + 1)).trans (below_alloc2 (w := wo.drewN (q + nq + 1)) hb.size (.cells #[.int .i64 (n : Int), .int .i64 x.1, .int .i64 x.2] 3))).grown hg2 (by have := hb.size; simp; omega) (fun g e => (World.ownsRow.lt hown g e).1)
              go_wp2
              refine ⟨⟨k + n, pre ++ [(n, x)], by rw [HI.out], by omega, by simp; omega, ?_, ownI_of_eq (by simp [nums_append, nums_one]) (by rw [nums_append, i64s_append]; rfl) hown2, hb2⟩, by simp [intOf]; omega⟩
              rw [HRLE.out, HC.out, rle_cons, HN.out, ← HC.out, List.drop_drop]
              simp
      · obtain rfl : k = l.length := by omega
        have hpre : pre = rle l := by
          have := HRLE.out
          rw [List.drop_length, rle_nil, List.append_nil] at this
          exact this.symm
        subst hpre
        obtain ⟨A', c', rfl⟩ := own_form hown
        have hln := nums_len (rle l)
        have hcl := refList_any A' c' (nums (rle l)) wr ((Rd.of_own hown)) (by unfold maxLen; omega)
        unfold listRes at hcl
        have HCL := Lib.hid hcl
        clear hcl hln
        go_wp2_with fail
        refine HCL.out.mono ?_
        rintro e w2 ⟨rfl, hb2⟩
        go_wp2
        go_ret2
        exact ⟨rfl, hb.trans (hb2.mono hb.size)⟩
  · have hcall := refCheck_any A c l w h hm
    have hres : encSRes l = .tuple #[.string ⟨#[]⟩, .int .i64 (checkE l)] := by rw [encSRes, if_neg hce]
    have hne : (checkE l != 0) = true := by simpa using hce
    rw [hres]
    have HCALL := Lib.hid hcall
    clear hres hce hcall
    go_enter Tryd.func8, Tryd.ntmps8
    go_wp2_with fail
    refine HCALL.out.mono ?_
    rintro e w1 ⟨rfl, hb1⟩
    go_wp2
    go_ret2
    exact ⟨rfl, hb1⟩
end
end Go.Proofs.YtaficbkaofhjeaaDoor
