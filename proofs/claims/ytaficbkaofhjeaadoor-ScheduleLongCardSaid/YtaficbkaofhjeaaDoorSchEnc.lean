/- schedule.Encode, walked. Conditions: the slice reads as a list. -/
import Derived.Test.YtaficbkaofhjeaaDoorRuns
namespace Go.Proofs.YtaficbkaofhjeaaDoor
open Go.RowKit Go.Shelf
attribute [local go_sem] Oper.semAt_some

theorem own_cells {W : World} {base e size k : Nat} {v : Value} {xs : List Value} (h : W.ownsRow base e size v k xs) : ∀ (j : Nat) (o : Obj), v.ownBlock = some j → W.heap[j]? = some o → o.isCells = true := by
  intro j o ej hj
  rcases h.2 with ⟨rfl, _⟩ | ⟨g, cap, cur, rfl, _, hgb, _⟩
  · simp [Value.ownBlock] at ej
  · obtain rfl : g = j := by simpa [Value.ownBlock] using ej
    rw [hgb] at hj; cases hj; rfl

set_option maxRecDepth 100000 in
set_option maxHeartbeats 3200000 in
theorem schEncode_ok (A : Option Addr) (c : Nat) (l : List Ch) (hcap : l.length ≤ c) (hce : checkE l = 0) (w : World) (h : Chs w w.heap.size A l) (hm : l.length ≤ maxLen) :
    Calls Tryd.prog 7 #[.slice A l.length c] w (Ret (listRes (nums (rle l))) w) := by
  obtain ⟨i0, hi, hz0, hz1, hz2⟩ := info_parts i64info
  have hl := checkE_len hce
  have hcall := check_any A c l w h hm
  rw [hce] at hcall
  have HCALL := Lib.hid hcall
  have hF : ∀ f, Fence.wide.fn f := fun _ => trivial
  have hf7 := hF 7
  have hf11 := hF 11
  have hf19 := hF 19
  have hf20 := hF 20
  clear hcall hm hce
  refine (callsIn_wide (n := 3)).1 ?_
  refine callsIn_of_wp_marks Tryd.func7 rfl trivial ?_ rfl
  simp only [Tryd.ntmps7, List.size_toArray, List.length_cons, List.length_nil, Nat.reduceAdd, Nat.reduceSub, Array.replicate_succ, Array.replicate_zero, List.push_toArray, List.append_toArray, List.nil_append, List.cons_append]
  gi_wp2_with (gi_at_call 11; refine (callsIn_wide.2 HCALL.out).mono ?_; rintro e w1 ⟨rfl, hb1⟩)
  refine (runs_in 2 A l.length c _).mono ?_
  rintro e w2 ⟨rfl, rfl⟩
  have hN : w.heap.size ≤ w1.heap.size := hb1.size
  have bO := Boxed.new w1 39 (.slice none 0 0)
  have bL := Boxed.new (w1.alloc (.cells #[.slice none 0 0] 39)) 22 (.slice A l.length c)
  rw [World.size_alloc] at bL
  have hch2 : Chs ((w1.alloc (.cells #[.slice none 0 0] 39)).alloc (.cells #[.slice A l.length c] 22)) w.heap.size A l := Rd.alloc (Rd.alloc (h.below hb1) hN _) (by simp; omega) _
  have hB0 : Below w.heap.size w ((w1.alloc (.cells #[.slice none 0 0] 39)).alloc (.cells #[.slice A l.length c] 22)) := (hb1.alloc hN _).alloc (by simp; omega) _
  gi_wp2
  refine wpIn_rangeFunc_ab rfl (by omega) (gf := 32) (lb := #[.pointer (some ⟨w1.heap.size + 1, 0, none⟩)]) rfl trivial (enters_of Tryd.func32 (by kernel_rfl) rfl)
    (runs_stops 2 (by omega) (w1.heap.size + 1) w.heap.size A c l hl hcap _ bL hch2 (by omega))
    (fun h k => ⟨k.1.trans h.1, h.2.trans k.2⟩) (fun W k o o' hk ho _ _ => ⟨World.putObj_heap_other (by simp at hk; omega), (Below.refl _ W).grown (grownBy_putObj' W k o') (by have := (Array.getElem?_eq_some_iff.1 ho).1; simp at hk; omega) (fun g e => by cases e; simp at hk; omega)⟩) (Below.refl _ _) (fun _ => rfl)
    (fun A' B' k o hab hk ho _ => (hab.block k (Array.getElem?_eq_some_iff.1 ho).1 (by simp at hk; simp; omega)).trans ho)
    (fun pre W => (∃ v, Boxed W w1.heap.size 39 v ∧ W.ownsRow (w1.heap.size + 2) 3 1 v (nums pre).length (i64s (nums pre)) ∧ True) ∧ Below w.heap.size w W ∧ w1.heap.size + 2 ≤ W.heap.size)
    (fun _ _ _ => False)
    (OwnFrom.and (Own.from (holdsRow_own _ _ _ _ _ _ _ (fun _ _ => True)) _) (OwnFrom.and (ownFrom_below (Nat.le_refl _) (by simp; omega)) (fun _ _ _ _ hs hg _ => Nat.le_trans hs hg.size)))
    (fun _ _ _ _ _ hs _ _ => hs)
    (fun pre A' B' hs hab => by
      obtain ⟨⟨v, hv, hr, _⟩, hbb, hsz⟩ := hs
      refine ⟨⟨v, hv.kept hab (by simp), hr.kept hab ?_, trivial⟩, hbb.grown hab (by omega) (fun k e => by cases e; omega), Nat.le_trans hsz hab.size⟩
      by_cases e : v.ownBlock = some (w1.heap.size + 1)
      · have := (hr.lt _ e).1; omega
      · exact .inr e)
    (fun _ _ _ _ hs _ => hs)
    ⟨⟨_, bO.alloc _, World.ownsRow_nil _ _ _ _, trivial⟩, hB0, by simp⟩
    (fun x a' W => ∃ b, w1.heap.size + 2 ≤ b ∧ W.heap[b]? = some (.cells #[.int .i64 x.2.1, .int .i64 x.2.2] 36 (0, 0)) ∧ a' = { tmps := #[.slice A l.length c, undef, .string ⟨#[]⟩, .int .i64 0, .int .i64 0, .pointer (some ⟨w1.heap.size, 0, none⟩), .int .i64 (x.1 : Nat), .pointer (some ⟨b, 0, none⟩), .slice A l.length c, .int .i64 0, .int .i64 0, .bool false, undef, .slice A l.length c, .func (.func 32) #[] #[.pointer (some ⟨w1.heap.size + 1, 0, none⟩)], .int .i64 (x.1 : Nat), .agg #[.int .i64 x.2.1, .int .i64 x.2.2], undef, undef, undef, undef, undef, undef, undef, undef, undef, undef, undef, undef], defers := [] })
    (fun a' x W W' row hs hg hr => by
      obtain ⟨b, hb, hh, e⟩ := hs
      refine ⟨b, hb, (hg.block b (lt_of_block hh) (fun e' => ?_)).trans hh, e⟩
      obtain ⟨_, o, ho, hoc⟩ := hr b e'.symm
      rw [hh] at ho; cases ho; cases hoc) ?assign ?body ?done ?stop
  case assign =>
    rintro L pre x W K ⟨⟨v, hv, hr, _⟩, hbb, hsz⟩ hK
    gi_wp2
    exact hK _ _ ((KeepsOthers.alloc _ _).from _) ⟨Below.heap_alloc _ _ _ (by omega), below_alloc2 (by omega) _⟩ ⟨⟨v, hv.alloc _, hr.alloc _, trivial⟩, hbb.alloc (by omega) _, by simp; omega⟩ ⟨W.heap.size, hsz, World.alloc_heap_new W _, rfl⟩
  case body =>
    rintro L pre x a' W ⟨⟨v, hv, hr, _⟩, hbb, hsz⟩ ⟨b, hb, hblk, rfl⟩ hlt
    have hc := hv.cell
    have c0 : W.cell? ⟨b, 0, none⟩ = some (.int .i64 x.2.1) := by simp [World.cell?, hblk]
    have c1 : W.cell? ⟨b, 1, none⟩ = some (.int .i64 x.2.2) := by simp [World.cell?, hblk]
    have hnl := nums_len pre
    have hmx : (nums pre).length + 3 ≤ maxLen := by unfold maxLen; omega
    have hby : ((nums pre).length + 3) * 8 ≤ 140737488355328 := by omega
    have hbs : w1.heap.size + 2 ≤ (W.alloc (.cells #[.int .i64 (x.1 : Nat), .int .i64 x.2.1, .int .i64 x.2.2] 3)).heap.size := by simp; omega
    clear hnl
    gi_wp2_with (gi_at_builtin; refine wpListIn_append_own _ rfl _ _ 39 rfl (w1.heap.size + 2) 3 i0 (.int .i64 0) 1 8 Tryd.underlying39 hi hz0 hz1 hz2 rfl (by decide) _ _ _ rfl (hr.alloc _) ⟨W.heap.size, 0, none⟩ 3 3 [.int .i64 (x.1 : Nat), .int .i64 x.2.1, .int .i64 x.2.2] rfl rfl (World.news_of_block (cs := #[.int .i64 (x.1 : Nat), .int .i64 x.2.1, .int .i64 x.2.2]) (t := 3) (fr := (0, 0)) (heap_alloc_new W _)) (by simp [Value.oneCell']) hmx hby hbs ?_; intro v' w3 hown' hgrow _; obtain ⟨A2, c2, rfl⟩ := own_form hown'; have hv1 := (hv.alloc (.cells #[.int .i64 (x.1 : Nat), .int .i64 x.2.1, .int .i64 x.2.2] 3)).kept hgrow (hv.not_row (by decide) hr); have hc1 := hv1.cell; have hf1 := hv1.frozen)
    have hcells := own_cells (hr.alloc (.cells #[.int .i64 (x.1 : Nat), .int .i64 x.2.1, .int .i64 x.2.2] 3))
    have hbelow : Below w.heap.size W (w3.setCell ⟨w1.heap.size, 0, none⟩ (.slice A2 ((nums pre).length + 3) c2)) := (((below_alloc2 (by omega) (.cells #[.int .i64 (x.1 : Nat), .int .i64 x.2.1, .int .i64 x.2.2] 3)).grown hgrow (by simp; omega) (fun k e => by have := (hr.lt k e).1; omega))).setCell (p := ⟨w1.heap.size, 0, none⟩) hN _
    refine ⟨(((KeepsOthers.alloc W _).trans (KeepsOthers.of_grownBy hgrow hcells)).trans (KeepsOthers.setCell _ _ _)).from _, ⟨?_, hbelow⟩, ⟨_, hv1.set _, ?_⟩, hbb.trans hbelow, Nat.le_trans hsz (hbelow.size)⟩
    · rw [Below.heap_setCell w3 _ _ _ (by simp), hgrow.block _ (by simp; omega) (fun e => by have := (hr.lt _ e.symm).1; omega), Below.heap_alloc _ _ _ (by omega)]
    · have := hown'.kept (grownBy_setCell' w3 w1.heap.size (.slice A2 ((nums pre).length + 3) c2)) (.inr (hv1.not_row (by decide) hown').symm)
      have e1 : nums [x] = [(x.1 : Int), x.2.1, x.2.2] := rfl
      simpa [nums_append, e1, i64s_append, i64s] using this
  case done =>
    rintro D ys W hD rfl ⟨⟨v, hv, hr, _⟩, hbb, hsz⟩ hK
    obtain ⟨A2, c2, rfl⟩ := own_form hr
    have hc := hv.cell
    have hnl := nums_len (rle l)
    have hrl := rle_len l
    have hcl := encList_any A2 c2 (nums (rle l)) W (Rd.of_own hr) (by unfold maxLen; omega)
    unfold listRes at hcl
    have HCL := Lib.hid hcl
    clear hcl hnl hrl
    gi_wp2_with (gi_at_call 20; refine (callsIn_wide.2 HCL.out).mono ?_; rintro e w4 ⟨rfl, hb4⟩)
    have hK4 := (hb4.block D (lt_of_block hK)).trans hK
    refine ⟨by simp, .inl ⟨_, _, rfl, run_takeDeferred hK4, ?_⟩⟩
    exact ⟨_, results_tmp2 rfl _ _ _, rfl, (hbb.trans (hb4.mono hbb.size)).trans (belowK_b (w := w) (Nat.le_refl _) _ D _ _ (by simp at hD; omega) hK4 rfl rfl)⟩
  case stop =>
    rintro D c pre W _ _ h _
    exact h.elim

/-- schedule.Encode, for any list. -/
theorem schEncode_any (A : Option Addr) (c : Nat) (l : List Ch) (hcap : l.length ≤ c) (w : World) (h : Chs w w.heap.size A l) (hm : l.length ≤ maxLen) :
    Calls Tryd.prog 7 #[.slice A l.length c] w (Ret (encSRes l) w) := by
  by_cases hce : checkE l = 0
  · have := schEncode_ok A c l hcap hce w h hm
    rwa [encSRes, if_pos hce]
  · have hcall := check_any A c l w h hm
    have hres : encSRes l = .tuple #[.string ⟨#[]⟩, .int .i64 (checkE l)] := by rw [encSRes, if_neg hce]
    have hne : (checkE l != 0) = true := by simpa using hce
    rw [hres]
    have HCALL := Lib.hid hcall
    clear hres hce hcall
    go_enter Tryd.func7, Tryd.ntmps7
    go_wp2_with fail
    refine HCALL.out.mono ?_
    rintro e w1 ⟨rfl, hb1⟩
    go_wp2
    go_ret2
    exact ⟨rfl, hb1⟩
end Go.Proofs.YtaficbkaofhjeaaDoor
