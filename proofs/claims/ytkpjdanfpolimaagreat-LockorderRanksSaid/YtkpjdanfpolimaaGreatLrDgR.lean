/- LockorderRanks, walked: it returns true. Conditions: the program lies in memory, its numbers are 64-bit. -/
import Derived.Test.YtkpjdanfpolimaaGreatLrDgL
import Derived.Laws.OwnMore
namespace Go.Proofs.YtkpjdanfpolimaaGreat
open Go.RowKit Go.Shelf
theorem cell2_set {W : World} {b : Nat} {a c : Value} {t : TypeId} (h : W.heap[b]? = some (.cells #[a, c] t (0, 0))) (v : Value) : (W.setCell ⟨b, 1, none⟩ v).heap[b]? = some (.cells #[a, v] t (0, 0)) := heap_setCell_same W b 1 #[a, c] t v h
theorem rkL_set {n k : Nat} {f g : Nat → Nat} (hk : k < n) (h : ∀ i, i < n → i ≠ k → g i = f i) : (i64s (rkL n f)).set k (.int .i64 (g k : Int)) = i64s (rkL n g) := by
 apply List.ext_getElem?
 intro i
 rw [List.getElem?_set]
 by_cases e : k = i
 ·subst e; simp [i64s, rkL, hk]
 ·by_cases hi : i < n
  ·simp [i64s, rkL, e, hi, h i hi (fun z => e z.symm)]
  ·simp [i64s, rkL, e, hi]
theorem swap_list {n u v : Nat} (f : Nat → Nat) (hu : u < n) (hv : v < n) : ((i64s (rkL n f)).set u (.int .i64 (f v : Int))).set v (.int .i64 (f u : Int)) = i64s (rkL n (swapF f u v)) := by
 have h1 := rkL_set (f := f) (g := fun i => if i = u then f v else f i) hu (fun i _ hi => by simp only [hi, if_false])
 simp only [if_true] at h1
 have h2 := rkL_set (f := fun i => if i = u then f v else f i) (g := swapF f u v) hv (fun i _ hi => by unfold swapF; simp only [hi, if_false])
 have h3 : swapF f u v v = f u := by unfold swapF; rw [if_pos rfl]
 rw [h3] at h2
 rw [h1, h2]
theorem own_some {W : World} {B e size n c : Nat} {A : Option Addr} {xs : List Value} (h : W.ownsRow B e size (.slice A n c) n xs) (hn : 0 < n) : ∃ g, A = some ⟨g, 0, none⟩ ∧ B ≤ g ∧ g < W.heap.size := by
 rcases h.2 with ⟨h1, h2⟩ | ⟨g, cap, cur, e, hb, hg, -⟩
 ·omega
 ·injection e with e1 e2 e3
  exact ⟨g, e1, hb, (Array.getElem?_eq_some_iff.1 hg).1⟩
theorem clone_own {W : World} {base n : Nat} {v : Value} {zs : List Int} (hn : zs.length = n) (hb : n ≤ 1000) (h : W.ownsRow base 3 1 v n (i64s zs)) :
  Calls Tryz.prog 19 #[v] W fun e W' => ∃ v', e = .returned v' ∧ W'.ownsRow W.heap.size 3 1 v' n (i64s zs) ∧ Below W.heap.size W W' := by
 by_cases h0 : n = 0
 ·have hz : zs = [] := List.length_eq_zero_iff.1 (by omega)
  subst hz
  rcases h.2 with ⟨rfl, -⟩ | ⟨g, cap, cur, rfl, -⟩
  ·refine (Tryz.slices_Clone_int_nil 0 0 W).mono ?_
   rintro e W' ⟨rfl, rfl⟩
   exact ⟨_, rfl, by rw [h0]; exact World.ownsRow_nil _ _ _ _, Below.refl _ _⟩
  ·subst h0
   refine (Tryz.slices_Clone_int_zero ⟨g, 0, none⟩ cap W).mono ?_
   rintro e W' ⟨v', rfl, h1, -, h2⟩
   exact ⟨v', rfl, h1, h2⟩
 ·obtain ⟨A, c, rfl⟩ := own_form h
  obtain ⟨b, off, rfl, -, hc⟩ := (Rd.of_own h).addr (by omega)
  refine (Tryz.slices_Clone_int b off n c zs W (by omega) (by omega) (fun j hj => by
   have := hc j (.int .i64 (zs.getD j 0)) (by simp [i64s, hj])
   exact this)).mono ?_
  rintro e W' ⟨v', rfl, h1, -, h2⟩
  rw [List.take_of_length_le (by omega)] at h1
  exact ⟨v', rfl, h1, h2⟩
set_option maxRecDepth 100000 in
set_option maxHeartbeats 6400000 in
theorem ranksLaw_any (p : Prg) (hfit : Fits p) (m : Nat) (hm : m < 256) (w : World) (h : Lies w w.heap.size p) : Calls Tryz.prog 4 #[p.val, .int .u8 m] w (Ret (.bool true) w) := by
 have HFI := Lib.hid (fun (W : World) (hb : Below w.heap.size w W) => fine_any p W (h.next hb))
 have HAW := Lib.hid (fun (W : World) => awake_any W)
 have HCE := Lib.hid (fun (hv : prgOk p) (W : World) (hb : Below w.heap.size w W) => certify_any p hfit hv W (h.next hb))
 have HSU := Lib.hid (fun (hv : prgOk p) (W : World) (hb : Below w.heap.size w W) => suspects_any p hfit hv W (h.next hb))
 have HGR := Lib.hid (fun (hv : prgOk p) (W : World) (hb : Below w.heap.size w W) => graph_any p hfit hv W (h.next hb))
 have HVE := Lib.hid (fun (hv : prgOk p) (A : Option Addr) (c : Nat) (f : Nat → Nat) (W : World) (hb : Below w.heap.size w W) (hr : Rd W W.heap.size 1 A p.obs.length (i64s (rkL p.obs.length f))) => (by
  have := verify_any p hfit hv 1 A c (rkL p.obs.length f) W (h.next hb) (by rw [rkL_len]; exact hr)
  rw [rkL_len] at this
  exact this : Calls Tryz.prog 14 #[p.val, .agg #[.int .i64 1, .slice A p.obs.length c]] W (Ret (.int .i64 (verE p 1 (rkL p.obs.length f))) W)))
 unfold Prg.val at HFI HCE HSU HGR HVE ⊢
 clear h hfit
 go_enter Tryz.func4, Tryz.ntmps4
 go_upto_region 1 with fail
 have hT := one_new w #[.slice p.funA p.funs.length p.funC, .slice p.obA p.obs.length p.obC, .slice p.vrA p.vrs.length p.vrC] 26
 generalize w.alloc _ = w1 at hT ⊢
 obtain ⟨x0, x1, x2⟩ := bx3 hT.fst
 have HF1 := Lib.hid (HFI.out w1 hT.below)
 clear HFI
 go_wp2_with fail
 refine HF1.out.mono ?_
 rintro e w2 ⟨b, rfl, hbv, hb2⟩
 have hT2 := hT.next hb2
 have HBV := Lib.hid hbv
 clear x0 x1 x2 hT hb2 HF1 hbv
 cases b with
 | false =>
  have HA1 := Lib.hid (HAW.out w2)
  clear HAW
  go_wp2_with fail
  refine HA1.out.mono ?_
  rintro e w3 ⟨rfl, hb3⟩
  go_wp2_with fail
  go_ret
  exact ⟨rfl, hT2.below.trans (hb3.mono hT2.below.size)⟩
 | true =>
  have hv := HBV.out rfl
  have hW := wf_of hv
  have hob := hW.obs
  have hgl := graph_len hob
  obtain ⟨x0, x1, x2⟩ := bx3 hT2.fst
  have HC1 := Lib.hid (HCE.out hv w2 hT2.below)
  clear HCE HBV
  go_wp2_with fail
  refine HC1.out.mono ?_
  rintro e w3 ⟨cv, ck, cc, rfl, hb3, hcert⟩
  have hT3 := hT2.next hb3
  have hz23 := hb3.size
  have hwz : w.heap.size < w3.heap.size := by have := hT3.size; omega
  have hw2z := hT2.size
  clear x0 x1 x2 hT2 hb3 HC1
  rcases hcert with ⟨rfl, rfl, r, hrk, hown⟩ | ⟨rfl, rfl, rfl, hst⟩
  ·have hsz : suspects p.obs.length (graphOf p) = [] := (no_suspects (graph_range hW)).2 (by obtain ⟨o, ht, -⟩ := hrk; exact ht.noRing (graph_range hW))
   rw [hsz] at HSU
   have HRK := Lib.hid hrk
   clear hrk hsz
   obtain ⟨rA, rC, rfl⟩ := own_form hown
   have hrn : ∀ f : Nat → Nat, natC ((List.range p.obs.length).map f) = i64s (rkL p.obs.length f) := fun f => (rkL_nat _ f).symm
   rw [hrn] at hown
   have hrg : ∀ g, (Value.slice rA p.obs.length rC).ownBlock = some g → w.heap.size < g ∧ g < w3.heap.size := fun g e => ⟨by have := (hown.lt g e).1; omega, (hown.lt g e).2⟩
   clear hrn
   go_upto_region 4 with fail
   have hbC := below_alloc w3 (.cells #[.int .i64 1, .slice rA p.obs.length rC] 29)
   have hC4 := bx_new w3 #[.int .i64 1, .slice rA p.obs.length rC] 29
   have hT4 := hT3.next hbC
   have hzC : w3.heap.size < (w3.alloc (.cells #[.int .i64 1, .slice rA p.obs.length rC] 29)).heap.size := by simp
   have hown4 := own_next hown hbC
   clear hown
   clear hT3
   generalize w3.alloc _ = w4 at hC4 hT4 hzC hbC hown4 hrg ⊢
   generalize w3.heap.size = C at hC4 hzC hwz hbC hown4 hrg ⊢
   obtain ⟨x0, x1, x2⟩ := bx3 hT4.fst
   have HS1 := Lib.hid (HSU.out hv w4 hT4.below)
   clear HSU hbC
   go_wp2_with fail
   refine HS1.out.mono ?_
   rintro e w5 ⟨sv, rfl, hLL, hb5⟩
   obtain ⟨sA, sC, rfl, -⟩ := hLL.nls
   have hT5 := hT4.next hb5
   have hC5 := hC4.below hb5 hzC
   have hzC5 : C < w5.heap.size := Nat.lt_of_lt_of_le hzC hb5.size
   have hown5 := own_next hown4 hb5
   clear hown4
   clear x0 x1 x2 hT4 hC4 hzC hb5 HS1 hLL
   obtain ⟨x0, x1, x2⟩ := bx3 hT5.fst
   have HG1 := Lib.hid (HGR.out hv w5 hT5.below)
   clear HGR
   go_wp2_with fail
   refine HG1.out.mono ?_
   rintro e w6 ⟨gv, rfl, hE, hb6⟩
   obtain ⟨gA, gC, rfl, hE6⟩ := own_eds hE
   have hT6 := hT5.next hb6
   have hC6 := hC5.below hb6 hzC5
   have hzC6 : C < w6.heap.size := Nat.lt_of_lt_of_le hzC5 hb6.size
   have hown6 := own_next hown5 hb6
   clear hown5
   clear x0 x1 x2 hT5 hC5 hzC5 hb6 HG1 hE
   go_upto_region 10 with fail
   have k0 := hC6 0 _ rfl
   have k1 := hC6 1 _ rfl
   rename_i K hK
   refine (fun key : ∀ (X Y : Nat) (W : World), ((w6.heap.size ≤ X ∧ w6.heap.size ≤ Y ∧ X ≠ Y) ∧ W.heap[X]? = some (.cells #[.int .i64 1, .slice rA p.obs.length rC] 29 (0, 0)) ∧ W.heap[Y]? = some (.cells #[.int .i64 1, .slice rA p.obs.length rC] 29 (0, 0)) ∧ Below w6.heap.size w6 W) → K ((?fr : Nat → Nat → Act) X Y) W => ?body) ?key
   case body =>
    refine wp_region_held_drew (S := fun W => W.cell? ⟨C, 0, none⟩ = some (.int .i64 1) ∧ W.cell? ⟨C, 1, none⟩ = some (.slice rA p.obs.length rC)) (by kernel_rfl) ⟨k0, k1⟩ (fun hHeld => ?_)
    have HKA : Hid (∀ (W : World) (o : Obj), (W.cell? ⟨C, 0, none⟩ = some (.int .i64 1) ∧ W.cell? ⟨C, 1, none⟩ = some (.slice rA p.obs.length rC)) → ((W.alloc o).cell? ⟨C, 0, none⟩ = some (.int .i64 1) ∧ (W.alloc o).cell? ⟨C, 1, none⟩ = some (.slice rA p.obs.length rC))) := Lib.hid (fun W o h => ⟨((below_alloc W o).cell (block_lt_of_cell h.1)).trans h.1, ((below_alloc W o).cell (block_lt_of_cell h.2)).trans h.2⟩)
    have HKB : Hid (∀ (o o' : Obj), ((w6.alloc o).alloc o').drew.cell? ⟨C, 0, none⟩ = some (.int .i64 1) ∧ ((w6.alloc o).alloc o').drew.cell? ⟨C, 1, none⟩ = some (.slice rA p.obs.length rC)) := Lib.hid (fun o o' => HKA.out (w6.alloc o) o' (HKA.out w6 o ⟨k0, k1⟩))
    have HFA : Hid (∀ (o o' : Obj), ((w6.alloc o).alloc o').drew.heap[w6.heap.size]? = some o ∧ ((w6.alloc o).alloc o').drew.heap[w6.heap.size + 1]? = some o' ∧ Below w6.heap.size w6 ((w6.alloc o).alloc o').drew) := Lib.hid (fun o o' => ⟨(heap_alloc_old (w6.alloc o) o' (by simp)).trans (heap_alloc_new w6 o), by have := heap_alloc_new (w6.alloc o) o'; rwa [World.size_alloc] at this, ((below_alloc _ _).trans (below_alloc2 (by simp) _)).drew⟩)
    refine wpAnyH_take (i := 0) (v := ?_) rfl (by kernel_rfl) (by kernel_rfl) (by kernel_rfl) (fun _ _ _ h => h) (Or.inl ⟨by kernel_rfl, ?_⟩) (by assumption) ?_
    rotate_left
    ·intro w hSw; (try dsimp only at hSw); go_simp; with_reducible rfl
    try simp only [frS, Act.put]
    refine wpAnyH_take (i := 1) (v := ?_) rfl (by kernel_rfl) (by kernel_rfl) (by kernel_rfl) (fun _ _ _ h => h) (Or.inl ⟨by kernel_rfl, ?_⟩) (by assumption) ?_
    rotate_left
    ·intro w hSw; (try dsimp only at hSw); go_simp; with_reducible rfl
    try simp only [Act.put]
    refine wpAnyH_ready (rs := [2, 3]) (by kernel_rfl) (by simp) ?_
    refine (AllReadyH.cons rfl (fun K hK => ?_) (AllReadyH.cons rfl (fun K hK => ?_) AllReadyH.nil))
    ·go_simp
     refine hK.out _ _ ?_ (fun hHeld => ?_)
     ·exact HKA.out _ _ hHeld
     clear hK K
     try simp only [frS, Act.put]
     refine wpAnyH_ready (rs := [3]) (by kernel_rfl) (by simp) ?_
     refine AllReadyH.cons rfl (fun K hK => ?_) AllReadyH.nil
     go_simp
     refine hK.out _ _ ?_ (fun hHeld => ?_)
     ·exact HKA.out _ _ hHeld
     clear hK K
     try simp only [frS, Act.put]
     refine wpAnyH_ready (rs := [4]) (by kernel_rfl) (by simp) ?_
     refine AllReadyH.cons rfl (fun K hK => ?_) AllReadyH.nil
     go_simp
     refine hK.out _ _ ?_ (fun hHeld => ?_)
     ·exact HKB.out _ _
     clear hK K
     try simp only [frS, Act.put]
     refine wpAnyH_ready (rs := [5]) (by kernel_rfl) (by simp) ?_
     refine AllReadyH.cons rfl (fun K hK => ?_) AllReadyH.nil
     go_simp
     refine hK.out _ _ ?_ (fun hHeld => ?_)
     ·exact HKB.out _ _
     clear hK K
     try simp only [frS, Act.put]
     refine wpAnyH_done (by kernel_rfl) ?_ _
     try dsimp only [Exit.then]
     obtain ⟨h1, h2, h3⟩ := HFA.out (.cells #[.int .i64 1, .slice rA p.obs.length rC] 29) (.cells #[.int .i64 1, .slice rA p.obs.length rC] 29)
     generalize ((w6.alloc (.cells #[.int .i64 1, .slice rA p.obs.length rC] 29)).alloc (.cells #[.int .i64 1, .slice rA p.obs.length rC] 29)).drew = W at h1 h2 h3 ⊢
     obtain ⟨X, hX⟩ : ∃ X, X = w6.heap.size := ⟨_, rfl⟩
     obtain ⟨Y, hY⟩ : ∃ Y, Y = w6.heap.size + 1 := ⟨_, rfl⟩
     rw [← hY, ← hX]
     exact key X Y W ⟨⟨by omega, by omega, by omega⟩, by rw [hX]; exact h1, by rw [hY]; exact h2, h3⟩
    ·go_simp
     refine hK.out _ _ ?_ (fun hHeld => ?_)
     ·exact HKA.out _ _ hHeld
     clear hK K
     try simp only [frS, Act.put]
     refine wpAnyH_ready (rs := [2]) (by kernel_rfl) (by simp) ?_
     refine AllReadyH.cons rfl (fun K hK => ?_) AllReadyH.nil
     go_simp
     refine hK.out _ _ ?_ (fun hHeld => ?_)
     ·exact HKA.out _ _ hHeld
     clear hK K
     try simp only [frS, Act.put]
     refine wpAnyH_ready (rs := [4]) (by kernel_rfl) (by simp) ?_
     refine AllReadyH.cons rfl (fun K hK => ?_) AllReadyH.nil
     go_simp
     refine hK.out _ _ ?_ (fun hHeld => ?_)
     ·exact HKB.out _ _
     clear hK K
     try simp only [frS, Act.put]
     refine wpAnyH_ready (rs := [5]) (by kernel_rfl) (by simp) ?_
     refine AllReadyH.cons rfl (fun K hK => ?_) AllReadyH.nil
     go_simp
     refine hK.out _ _ ?_ (fun hHeld => ?_)
     ·exact HKB.out _ _
     clear hK K
     try simp only [frS, Act.put]
     refine wpAnyH_done (by kernel_rfl) ?_ _
     try dsimp only [Exit.then]
     obtain ⟨h1, h2, h3⟩ := HFA.out (.cells #[.int .i64 1, .slice rA p.obs.length rC] 29) (.cells #[.int .i64 1, .slice rA p.obs.length rC] 29)
     generalize ((w6.alloc (.cells #[.int .i64 1, .slice rA p.obs.length rC] 29)).alloc (.cells #[.int .i64 1, .slice rA p.obs.length rC] 29)).drew = W at h1 h2 h3 ⊢
     obtain ⟨X, hX⟩ : ∃ X, X = w6.heap.size + 1 := ⟨_, rfl⟩
     obtain ⟨Y, hY⟩ : ∃ Y, Y = w6.heap.size := ⟨_, rfl⟩
     rw [← hX, ← hY]
     exact key X Y W ⟨⟨by omega, by omega, by omega⟩, by rw [hX]; exact h2, by rw [hY]; exact h1, h3⟩
   rintro X Y W ⟨⟨hX, hY, hXY⟩, hXo, hYo, hbW⟩
   refine hK _ _ ?_
   clear hK K k0 k1
   have hz7 := hbW.size
   have hX7 : X < W.heap.size := (Array.getElem?_eq_some_iff.1 hXo).1
   have hY7 : Y < W.heap.size := (Array.getElem?_eq_some_iff.1 hYo).1
   have hown7 := own_next hown6 hbW
   have y1 := (hC6.below hbW hzC6) 1 _ rfl
   go_upto_region 11 with fail
   refine wp_region_held_drew (S := fun W => W.cell? ⟨C, 1, none⟩ = some (.slice rA p.obs.length rC)) (by kernel_rfl) y1 (fun hHeld => ?_)
   have hownd : W.drew.ownsRow w2.heap.size 3 1 (.slice rA p.obs.length rC) p.obs.length (i64s (rkL p.obs.length (crt p r))) := hown7
   have hXd : X < W.drew.heap.size := hX7
   have hYd : Y < W.drew.heap.size := hY7
   have hbd := hbW.drew
   change W.drew.heap[X]? = _ at hXo
   change W.drew.heap[Y]? = _ at hYo
   have hzd : w6.heap.size ≤ W.drew.heap.size := hz7
   clear hown7 hX7 hY7 hbW y1 hz7
   generalize W.drew = wd at hownd hXd hYd hbd hXo hYo hzd hHeld ⊢
   refine wpAnyH_take (i := 0) (v := ?_) rfl (by kernel_rfl) (by kernel_rfl) (by kernel_rfl) (fun _ _ _ h => h) (Or.inl ⟨by kernel_rfl, ?_⟩) (by assumption) ?_
   rotate_left
   ·intro w hSw; (try dsimp only at hSw); go_simp; with_reducible rfl
   try simp only [frS, Act.put]
   refine wpAnyH_take (i := 1) (v := ?_) rfl (by kernel_rfl) (by kernel_rfl) (by kernel_rfl) (fun _ _ _ h => h) (Or.inl ⟨by kernel_rfl, ?_⟩) (by assumption) ?_
   rotate_left
   ·intro w hSw; (try dsimp only at hSw); go_simp; with_reducible rfl
   try simp only [Act.put]
   refine wpAnyH_take (i := 3) (v := ?_) rfl (by kernel_rfl) (by kernel_rfl) (by kernel_rfl) (fun _ _ _ h => h) (Or.inl ⟨by kernel_rfl, ?_⟩) (by assumption) ?_
   rotate_left
   ·intro w hSw; (try dsimp only at hSw); go_simp; with_reducible rfl
   try simp only [Act.put]
   refine wpAnyH_take (i := 4) (v := ?_) rfl (by kernel_rfl) (by kernel_rfl) (by kernel_rfl) (fun _ _ _ h => h) (Or.inl ⟨by kernel_rfl, ?_⟩) (by assumption) ?_
   rotate_left
   ·intro w hSw; (try dsimp only at hSw); go_simp; with_reducible rfl
   try simp only [Act.put]
   refine wpAnyH_ready (rs := [2]) (by kernel_rfl) (by simp) ?_
   refine AllReadyH.cons rfl (fun K hK => ?_) AllReadyH.nil
   go_simp
   refine (clone_own (rkL_len _ _) (by omega) hownd).mono ?_
   rintro e W1 ⟨v1, rfl, hv1, hb1⟩
   obtain ⟨a1, c1, rfl⟩ := own_form hv1
   try dsimp only
   refine hK.out _ _ ?_ (fun hHeld => ?_)
   ·exact (hb1.cell (block_lt_of_cell hHeld)).trans hHeld
   clear hK K
   try simp only [frS, Act.put]
   refine wpAnyH_take (i := 6) (v := ?_) rfl (by kernel_rfl) (by kernel_rfl) (by kernel_rfl) (fun _ _ _ h => h) (Or.inl ⟨by kernel_rfl, ?_⟩) (by assumption) ?_
   rotate_left
   ·intro w hSw; (try dsimp only at hSw); go_simp; with_reducible rfl
   try simp only [frS, Act.put]
   refine wpAnyH_ready (rs := [5]) (by kernel_rfl) (by simp) ?_
   refine AllReadyH.cons rfl (fun K hK => ?_) AllReadyH.nil
   have hown1 := own_next hownd hb1
   go_simp
   refine (clone_own (rkL_len _ _) (by omega) hown1).mono ?_
   rintro e W2 ⟨v2, rfl, hv2, hb2⟩
   obtain ⟨a2, c2, rfl⟩ := own_form hv2
   have hX2 := (hb2.block X (by have := hb1.size; omega)).trans ((hb1.block X hXd).trans hXo)
   have hY2 := (hb2.block Y (by have := hb1.size; omega)).trans ((hb1.block Y hYd).trans hYo)
   have xc := cell_of_row W2 X 1 _ _ _ hX2
   have xf := frozen_of_row W2 X 1 _ _ hX2
   have yc := cell_of_row (W2.setCell ⟨X, 1, none⟩ (.slice a1 p.obs.length c1)) Y 1 _ _ _ ((heap_setCell_other _ _ _ _ (by show Y ≠ X; omega)).trans hY2)
   have yf := frozen_of_row (W2.setCell ⟨X, 1, none⟩ (.slice a1 p.obs.length c1)) Y 1 _ _ ((heap_setCell_other _ _ _ _ (by show Y ≠ X; omega)).trans hY2)
   simp only [List.getElem?_toArray, List.getElem?_cons_succ, List.getElem?_cons_zero] at xc yc
   try dsimp only
   refine hK.out _ _ ?_ (fun hHeld => ?_)
   ·exact (hb2.cell (block_lt_of_cell hHeld)).trans hHeld
   clear hK K
   try simp only [frS, Act.put]
   refine wpAnyH_ready (rs := [7]) (by kernel_rfl) (by simp) ?_
   refine AllReadyH.cons rfl (fun K hK => ?_) AllReadyH.nil
   go_simp
   refine hK.out _ _ ?_ (fun hHeld => ?_)
   ·exact (World.cell?_setCell_far _ _ _ _ (by show X ≠ C; omega)).trans hHeld
   clear hK K
   try simp only [frS, Act.put]
   refine wpAnyH_take (i := 8) (v := ?_) rfl (by kernel_rfl) (by kernel_rfl) (by kernel_rfl) (fun _ _ _ h => h) (Or.inl ⟨by kernel_rfl, ?_⟩) (by assumption) ?_
   rotate_left
   ·intro w hSw; (try dsimp only at hSw); go_simp; with_reducible rfl
   try simp only [frS, Act.put]
   refine wpAnyH_ready (rs := [9]) (by kernel_rfl) (by simp) ?_
   refine AllReadyH.cons rfl (fun K hK => ?_) AllReadyH.nil
   go_simp
   refine hK.out _ _ ?_ (fun hHeld => ?_)
   ·exact (World.cell?_setCell_far _ _ _ _ (by show Y ≠ C; omega)).trans hHeld
   clear hK K
   try simp only [frS, Act.put]
   refine wpAnyH_done (by kernel_rfl) ?_ _
   try dsimp only [Exit.then]
   have hB12 := hb1.size
   have hX9 : ((W2.setCell ⟨X, 1, none⟩ (.slice a1 p.obs.length c1)).setCell ⟨Y, 1, none⟩ (.slice a2 p.obs.length c2)).heap[X]? = some (.cells #[.int .i64 1, .slice a1 p.obs.length c1] 29 (0, 0)) :=
    (heap_setCell_other _ _ _ _ hXY).trans (cell2_set hX2 _)
   have hY9 : ((W2.setCell ⟨X, 1, none⟩ (.slice a1 p.obs.length c1)).setCell ⟨Y, 1, none⟩ (.slice a2 p.obs.length c2)).heap[Y]? = some (.cells #[.int .i64 1, .slice a2 p.obs.length c2] 29 (0, 0)) := cell2_set ((heap_setCell_other W2 ⟨X, 1, none⟩ Y (.slice a1 p.obs.length c1) (fun e => hXY e.symm)).trans hY2) _
   have hb9 : Below w6.heap.size w6 ((W2.setCell ⟨X, 1, none⟩ (.slice a1 p.obs.length c1)).setCell ⟨Y, 1, none⟩ (.slice a2 p.obs.length c2)) := (((hbd.trans (hb1.mono hzd)).trans (hb2.mono (by omega))).setCell (p := ⟨X, 1, none⟩) hX _).setCell (p := ⟨Y, 1, none⟩) hY _
   have ho1 : ((W2.setCell ⟨X, 1, none⟩ (.slice a1 p.obs.length c1)).setCell ⟨Y, 1, none⟩ (.slice a2 p.obs.length c2)).ownsRow wd.heap.size 3 1 (.slice a1 p.obs.length c1) p.obs.length (i64s (rkL p.obs.length (crt p r))) := own_set (own_set (own_next hv1 hb2) hXd _ _) hYd _ _
   have ho2 : ((W2.setCell ⟨X, 1, none⟩ (.slice a1 p.obs.length c1)).setCell ⟨Y, 1, none⟩ (.slice a2 p.obs.length c2)).ownsRow W1.heap.size 3 1 (.slice a2 p.obs.length c2) p.obs.length (i64s (rkL p.obs.length (crt p r))) := own_set (own_set hv2 (by omega) _ _) (by omega) _ _
   have hg1 : ∀ g, (Value.slice a1 p.obs.length c1).ownBlock = some g → g < W1.heap.size := fun g e => (hv1.lt g e).2
   clear hownd hown1 hv1 hv2 hb1 hb2 hX2 hY2 xc xf yc yf hHeld hbd hXo hYo
   generalize (W2.setCell ⟨X, 1, none⟩ (.slice a1 p.obs.length c1)).setCell ⟨Y, 1, none⟩ (.slice a2 p.obs.length c2) = w9 at hX9 hY9 hb9 ho1 ho2 ⊢
   generalize W1.heap.size = B2 at ho2 hg1 hB12
   generalize wd.heap.size = B1 at ho1 hXd hYd hB12 hzd
   have hfle := fun i => crt_le HRK.out i
   have HGD := Lib.hid (crt_good hW HRK.out)
   generalize crt p r = f at hfle HGD ho1 ho2 hown6
   have y1 := (hC6.below hb9 hzC6) 1 _ rfl
   go_upto_region 13 with fail
   clear y1
   go_loopw [13, 14, 77] (fun _ _ i wr => ∃ k : Nat, i = .int .i64 (k : Nat) ∧ k ≤ p.obs.length ∧ Below w6.heap.size w6 wr ∧ wr.heap[X]? = some (.cells #[.int .i64 1, .slice a1 p.obs.length c1] 29 (0, 0)) ∧ wr.heap[Y]? = some (.cells #[.int .i64 1, .slice a2 p.obs.length c2] 29 (0, 0)) ∧ wr.ownsRow B1 3 1 (.slice a1 p.obs.length c1) p.obs.length (i64s (rkL p.obs.length (fun i => if i < k then moreF f m i else f i))) ∧ wr.ownsRow B2 3 1 (.slice a2 p.obs.length c2) p.obs.length (i64s (rkL p.obs.length (fun i => if i < k then timesF f m i else f i)))) (fun _ _ i _ => p.obs.length - (intOf i).toNat)
   case atStart => exact ⟨0, rfl, by omega, hb9, hX9, hY9, by simpa using ho1, by simpa using ho2⟩
   case round =>
    clear hb9 hX9 hY9 ho1 ho2
    obtain ⟨k, rfl, hk, hb, hXr, hYr, ho1, ho2⟩ := hrel
    have hk0 : (0 : Int) ≤ (k : Int) := by omega
    have hwr : IntKind.i64.wrap ((k : Int) + 1) = (k : Int) + 1 := by rw [IntKind.wrap_i64]; omega
    by_cases hlt : k < p.obs.length
    ·have hd1 : decide ((k : Int) < (p.obs.length : Int)) = true := decide_eq_true (by omega)
     have hd2 : decide (k < p.obs.length) = true := decide_eq_true hlt
     have hjl : (k : Int) < (p.obs.length : Int) := by omega
     obtain ⟨rg, rfl, -, -⟩ := own_some hown6 (by omega)
     obtain ⟨g1, rfl, hgB1, hgs1⟩ := own_some ho1 (by omega)
     obtain ⟨g2, rfl, hgB2, hgs2⟩ := own_some ho2 (by omega)
     have hg12 : g1 < B2 := hg1 g1 rfl
     have cr := (own_next hown6 hb).cells (g := rg) rfl k (.int .i64 (f k : Int)) (by simp [i64s, rkL, hlt])
     rw [Addr.add_lit, Nat.zero_add] at cr
     have HMO : ∀ k, f k ≤ p.obs.length + 1 := hfle
     have hfk := hfle k
     have xc := cell_of_row wr X 1 _ _ _ hXr
     have yc := cell_of_row wr Y 1 _ _ _ hYr
     simp only [List.getElem?_toArray, List.getElem?_cons_succ, List.getElem?_cons_zero] at xc yc
     by_cases hf0 : 0 < f k
     ·have hd3 : decide ((0 : Int) < (f k : Int)) = true := decide_eq_true (by omega)
      have hd4 : decide (0 < f k) = true := decide_eq_true hf0
      have hw1 : IntKind.i64.wrap ((f k : Int) + (m : Int)) = (f k : Int) + (m : Int) := by rw [IntKind.wrap_i64]; omega
      have hw2 : IntKind.i64.wrap (1 + (m : Int)) = 1 + (m : Int) := by rw [IntKind.wrap_i64]; omega
      have hmb : f k * (1 + m) ≤ 17 * 256 := Nat.mul_le_mul (by omega) (by omega)
      have hw3 : IntKind.i64.wrap ((f k : Int) * (1 + (m : Int))) = (f k : Int) * (1 + (m : Int)) := by
       have e : (f k : Int) * (1 + (m : Int)) = ((f k * (1 + m) : Nat) : Int) := by push_cast; rfl
       rw [e, IntKind.wrap_i64]; omega
      have hwm : IntKind.i64.wrap (m : Int) = (m : Int) := by rw [IntKind.wrap_i64]; omega
      have a1c := ho1.cells (g := g1) rfl k _ (by simp only [i64s, rkL, List.getElem?_map, List.getElem?_range hlt, Option.map_some]; rfl)
      rw [Addr.add_lit, Nat.zero_add] at a1c
      have a1f := ho1.frozenAt k
      have hs1 := ho1.stored k (.int .i64 ((f k : Int) + (m : Int)))
      have e1 : (Value.int .i64 ((f k : Int) + (m : Int))) = .int .i64 (((fun i => if i < k + 1 then moreF f m i else f i) k : Nat) : Int) := by
       simp only [Nat.lt_succ_self, if_true]; unfold moreF; rw [if_pos hf0]; push_cast; rfl
      rw [e1, rkL_set hlt (g := fun i => if i < k + 1 then moreF f m i else f i) (fun i _ hi => by
       by_cases q : i < k
       ·simp only [q, if_true]; rw [if_pos (by omega)]
       ·simp only [q, if_false]; rw [if_neg (by omega)])] at hs1
      rw [← e1] at hs1
      clear e1
      have ho2' := own_set_far ho2 (b := g1) (fun g e => by injection e with e; subst e; show g2 ≠ g1; omega) k (.int .i64 ((f k : Int) + (m : Int)))
      have hX' := (heap_setCell_other wr ⟨g1, k, none⟩ X (.int .i64 ((f k : Int) + (m : Int))) (by show X ≠ g1; omega)).trans hXr
      have hY' := (heap_setCell_other wr ⟨g1, k, none⟩ Y (.int .i64 ((f k : Int) + (m : Int))) (by show Y ≠ g1; omega)).trans hYr
      have hb' := hb.setCell (p := ⟨g1, k, none⟩) (by show w6.heap.size ≤ g1; omega) (.int .i64 ((f k : Int) + (m : Int)))
      go_upto_region 17 with fail
      clear a1c a1f ho1 ho2 hXr hYr hb xc yc cr
      have ho1' := hs1.1
      clear hs1
      generalize wr.setCell ⟨g1, k, none⟩ _ = wq at ho1' ho2' hX' hY' hb' ⊢
      have yc := cell_of_row wq Y 1 _ _ _ hY'
      simp only [List.getElem?_toArray, List.getElem?_cons_succ, List.getElem?_cons_zero] at yc
      have a2c := ho2'.cells (g := g2) rfl k _ (by simp only [i64s, rkL, List.getElem?_map, List.getElem?_range hlt, Option.map_some]; rfl)
      rw [Addr.add_lit, Nat.zero_add] at a2c
      have a2f := ho2'.frozenAt k
      have hs2 := ho2'.stored k (.int .i64 ((f k : Int) * (1 + (m : Int))))
      have e2 : (Value.int .i64 ((f k : Int) * (1 + (m : Int)))) = .int .i64 (((fun i => if i < k + 1 then timesF f m i else f i) k : Nat) : Int) := by
       simp only [Nat.lt_succ_self, if_true]; unfold timesF; rw [if_pos hf0]; push_cast; rfl
      rw [e2, rkL_set hlt (g := fun i => if i < k + 1 then timesF f m i else f i) (fun i _ hi => by
       by_cases q : i < k
       ·simp only [q, if_true]; rw [if_pos (by omega)]
       ·simp only [q, if_false]; rw [if_neg (by omega)])] at hs2
      rw [← e2] at hs2
      have ho1'' := own_set_far ho1' (b := g2) (fun g e => by injection e with e; subst e; show g1 ≠ g2; omega) k (.int .i64 ((f k : Int) * (1 + (m : Int))))
      have hX'' := (heap_setCell_other wq ⟨g2, k, none⟩ X (.int .i64 ((f k : Int) * (1 + (m : Int)))) (by show X ≠ g2; omega)).trans hX'
      have hY'' := (heap_setCell_other wq ⟨g2, k, none⟩ Y (.int .i64 ((f k : Int) * (1 + (m : Int)))) (by show Y ≠ g2; omega)).trans hY'
      have hb'' := hb'.setCell (p := ⟨g2, k, none⟩) (by show w6.heap.size ≤ g2; omega) (.int .i64 ((f k : Int) * (1 + (m : Int))))
      have ho2'' := hs2.1
      clear ho1' ho2' hX' hY' hb' hs2 e2
      go_wp2_with fail
      go_round
      case rel => exact ⟨k + 1, rfl, by omega, hb'', hX'', hY'', ho1'', ho2''⟩
      case measure => show p.obs.length - (intOf (Value.int IntKind.i64 ((k : Int) + 1))).toNat < p.obs.length - (intOf (Value.int IntKind.i64 (k : Int))).toNat; simp only [intOf]; omega
     ·have hd3 : decide ((0 : Int) < (f k : Int)) = false := decide_eq_false (by omega)
      have hd4 : decide (0 < f k) = false := decide_eq_false hf0
      have q1 : (fun i => if i < k then moreF f m i else f i) = (fun i => if i < k + 1 then moreF f m i else f i) := funext fun i => by
       by_cases q : i = k
       ·subst q; rw [if_neg (by omega), if_pos (by omega)]; unfold moreF; rw [if_neg hf0]
       ·by_cases q2 : i < k
        ·rw [if_pos q2, if_pos (by omega)]
        ·rw [if_neg q2, if_neg (by omega)]
      have q2 : (fun i => if i < k then timesF f m i else f i) = (fun i => if i < k + 1 then timesF f m i else f i) := funext fun i => by
       by_cases q : i = k
       ·subst q; rw [if_neg (by omega), if_pos (by omega)]; unfold timesF; rw [if_neg hf0]
       ·by_cases q2 : i < k
        ·rw [if_pos q2, if_pos (by omega)]
        ·rw [if_neg q2, if_neg (by omega)]
      rw [q1] at ho1
      rw [q2] at ho2
      clear q1 q2
      go_wp2_with fail
      go_round
      case rel => exact ⟨k + 1, rfl, by omega, hb, hXr, hYr, ho1, ho2⟩
      case measure => show p.obs.length - (intOf (Value.int IntKind.i64 ((k : Int) + 1))).toNat < p.obs.length - (intOf (Value.int IntKind.i64 (k : Int))).toNat; simp only [intOf]; omega
    ·have hd1 : decide ((k : Int) < (p.obs.length : Int)) = false := decide_eq_false (by omega)
     have hd2 : decide (k < p.obs.length) = false := decide_eq_false hlt
     have hkn : k = p.obs.length := by omega
     have q1 : rkL p.obs.length (fun i => if i < k then moreF f m i else f i) = rkL p.obs.length (moreF f m) := List.map_congr_left fun i hi => by
      have := List.mem_range.1 hi
      exact congrArg (fun z : Nat => (z : Int)) (if_pos (by omega))
     have q2 : rkL p.obs.length (fun i => if i < k then timesF f m i else f i) = rkL p.obs.length (timesF f m) := List.map_congr_left fun i hi => by
      have := List.mem_range.1 hi
      exact congrArg (fun z : Nat => (z : Int)) (if_pos (by omega))
     rw [q1] at ho1
     rw [q2] at ho2
     clear q1 q2
     obtain ⟨wz, rfl⟩ : ∃ wz, wz = wr := ⟨_, rfl⟩
     have hTz := hT6.next hb
     have hCz := hC6.below hb hzC6
     have hEz : Eds wz wz.heap.size gA (graphOf p) := Rd.more (hE6.below hb) hb.size
     have hoz := own_next hown6 hb
     have hsz6 := hb.size
     have hXz : X < wz.heap.size := (Array.getElem?_eq_some_iff.1 hXr).1
     have hYz : Y < wz.heap.size := (Array.getElem?_eq_some_iff.1 hYr).1
     have hrz : ∀ g, (Value.slice rA p.obs.length rC).ownBlock = some g → g < wz.heap.size := fun g e => by have := hrg g e; omega
     have hge := graph_range hW
     clear hT6 hC6 hE6 hown6 hrg hb hkn
     go_upto_region 20 with fail
     go_loopw [104] (fun i wr => ∃ k : Nat, i = .int .i64 (k : Nat) ∧ k ≤ (graphOf p).length ∧ Below wz.heap.size wz wr) (fun i _ => (graphOf p).length - (intOf i).toNat)
     case atStart => exact ⟨0, rfl, by omega, Below.refl _ _⟩
     case round =>
      obtain ⟨j, rfl, hj, hbr⟩ := hrel
      have hj0 : (0 : Int) ≤ (j : Int) := by omega
      have hwj : IntKind.i64.wrap ((j : Int) + 1) = (j : Int) + 1 := by rw [IntKind.wrap_i64]; omega
      have hzr := hbr.size
      by_cases hjt : j < (graphOf p).length
      ·have hd3 : decide ((j : Int) < ((graphOf p).length : Int)) = true := decide_eq_true (by omega)
       have hd4 : decide (j < (graphOf p).length) = true := decide_eq_true hjt
       have hjg : (j : Int) < ((graphOf p).length : Int) := by omega
       obtain ⟨eb, eo, rfl, -, p1, p2⟩ := (hEz.below hbr).at_ hjt
       have hmem := List.getElem_mem hjt
       have hsw := HGD.out.swap hW hmem
       have hup := HGD.out.up _ hmem
       have hrx := hge _ hmem
       generalize (graphOf p)[j] = x at p1 p2 hmem hsw hup hrx
       obtain ⟨u, v⟩ := x
       dsimp only at p1 p2 hsw hup hrx
       obtain ⟨hu, hv'⟩ := hrx
       have HSW := Lib.hid hsw
       clear hsw hmem
       have hu0 : (0 : Int) ≤ (u : Int) := by omega
       have hv0 : (0 : Int) ≤ (v : Int) := by omega
       have hu1 : (u : Int) < (p.obs.length : Int) := by omega
       have hv1 : (v : Int) < (p.obs.length : Int) := by omega
       have g1 : decide ((u : Int) < 0) = false := decide_eq_false (by omega)
       have g2 : decide ((p.obs.length : Int) ≤ (u : Int)) = false := decide_eq_false (by omega)
       have g3 : decide ((v : Int) < 0) = false := decide_eq_false (by omega)
       have g4 : decide ((p.obs.length : Int) ≤ (v : Int)) = false := decide_eq_false (by omega)
       go_upto_region 22 with fail
       have hE := bx_new2 wr (.int .i64 u) (.int .i64 v) 47
       have hba := hbr.trans (below_alloc2 hzr (.cells #[.int .i64 u, .int .i64 v] 47))
       have hzE : wr.heap.size < (wr.alloc (.cells #[.int .i64 u, .int .i64 v] 47)).heap.size := by simp
       clear hbr p1 p2
       generalize wr.alloc _ = wa at hE hba hzE ⊢
       generalize wr.heap.size = E at hE hzE hzr ⊢
       obtain ⟨e0, e1⟩ := hE
       have y0 := (hCz.below hba (by omega)) 0 _ rfl
       have y1 := (hCz.below hba (by omega)) 1 _ rfl
       go_upto_region 25 with fail
       have hbc := below_alloc wa (.cells #[.int .i64 1, .slice rA p.obs.length rC] 29)
       have hK0 := heap_alloc_new wa (.cells #[.int .i64 1, .slice rA p.obs.length rC] 29)
       have hbb := hba.trans (hbc.mono hba.size)
       have hzK : wa.heap.size < (wa.alloc (.cells #[.int .i64 1, .slice rA p.obs.length rC] 29)).heap.size := by simp
       have e0' := (hbc.cell (block_lt_of_cell e0)).trans e0
       have e1' := (hbc.cell (block_lt_of_cell e1)).trans e1
       have y1' := (hbc.cell (block_lt_of_cell y1)).trans y1
       have hEK : E < wa.heap.size := hzE
       clear y0 y1 e0 e1 hba hbc hzE
       generalize wa.alloc _ = wb at hK0 hbb hzK e0' e1' y1' ⊢
       generalize wa.heap.size = K9 at hK0 hzK hEK ⊢
       have HCL := Lib.hid (clone_own (rkL_len _ _) (by omega) (own_next hoz hbb))
       go_wp2_with fail
       refine HCL.out.mono ?_
       rintro e wc ⟨v3, rfl, hv3, hb3⟩
       obtain ⟨a3, c3, rfl⟩ := own_form hv3
       have hK1 := (hb3.block _ hzK).trans hK0
       have e0 := (hb3.cell (block_lt_of_cell e0')).trans e0'
       have e1 := (hb3.cell (block_lt_of_cell e1')).trans e1'
       have y1 := (hb3.cell (block_lt_of_cell y1')).trans y1'
       have hbc := hbb.trans (hb3.mono hbb.size)
       have kc := cell_of_row wc K9 1 _ _ _ hK1
       have kf := frozen_of_row wc K9 1 _ _ hK1
       simp only [List.getElem?_toArray, List.getElem?_cons_succ, List.getElem?_cons_zero] at kc
       clear e0' e1' y1' hbb hK0 HCL
       go_upto_region 26 with fail
       obtain ⟨rg, rfl, -, -⟩ := own_some hoz (by omega)
       obtain ⟨g3, rfl, hg3, hg3s⟩ := own_some hv3 (by omega)
       have hrgz : rg < wz.heap.size := hrz rg rfl
       have ho3 := own_set_far hv3 (b := K9) (fun g e => by injection e with e; subst e; show g3 ≠ K9; omega) 1 (.slice (some ⟨g3, 0, none⟩) p.obs.length c3)
       have hoc := own_set_far (own_next hoz hbc) (b := K9) (fun g e => by injection e with e; subst e; show rg ≠ K9; omega) 1 (.slice (some ⟨g3, 0, none⟩) p.obs.length c3)
       have hK2 := cell2_set hK1 (.slice (some ⟨g3, 0, none⟩) p.obs.length c3)
       have hbK := hbc.setCell (p := ⟨K9, 1, none⟩) (by show wz.heap.size ≤ K9; omega) (.slice (some ⟨g3, 0, none⟩) p.obs.length c3)
       have e0' := (World.cell?_setCell_far wc ⟨K9, 1, none⟩ ⟨E, 0, none⟩ (.slice (some ⟨g3, 0, none⟩) p.obs.length c3) (by show K9 ≠ E; omega)).trans e0
       have e1' := (World.cell?_setCell_far wc ⟨K9, 1, none⟩ ⟨E, 1, none⟩ (.slice (some ⟨g3, 0, none⟩) p.obs.length c3) (by show K9 ≠ E; omega)).trans e1
       have y1' := (World.cell?_setCell_far wc ⟨K9, 1, none⟩ ⟨C, 1, none⟩ (.slice (some ⟨g3, 0, none⟩) p.obs.length c3) (by show K9 ≠ C; omega)).trans y1
       have hzc3 : g3 < (wc.setCell ⟨K9, 1, none⟩ (.slice (some ⟨g3, 0, none⟩) p.obs.length c3)).heap.size := by simpa using hg3s
       clear e0 e1 y1 kc kf hK1 hv3 hbc hb3
       generalize wc.setCell ⟨K9, 1, none⟩ (.slice (some ⟨g3, 0, none⟩) p.obs.length c3) = we at ho3 hoc hK2 hbK e0' e1' y1' hzc3 ⊢
       have k1 := cell_of_row we K9 1 _ _ _ hK2
       simp only [List.getElem?_toArray, List.getElem?_cons_succ, List.getElem?_cons_zero] at k1
       have ru := hoc.cells (g := rg) rfl u (.int .i64 (f u : Int)) (by simp [i64s, rkL, hu])
       have rv := hoc.cells (g := rg) rfl v (.int .i64 (f v : Int)) (by simp [i64s, rkL, hv'])
       rw [Addr.add_lit, Nat.zero_add] at ru rv
       have hne : u ≠ v := fun z => by subst z; exact absurd hup (Nat.lt_irrefl _)
       refine wp_region_held_drew (S := fun W => (W.cell? ⟨K9, 1, none⟩ = some (.slice (some ⟨g3, 0, none⟩) p.obs.length c3) ∧ W.cell? ⟨E, 0, none⟩ = some (.int .i64 u) ∧ W.cell? ⟨E, 1, none⟩ = some (.int .i64 v)) ∧ W.cell? ⟨C, 1, none⟩ = some (.slice (some ⟨rg, 0, none⟩) p.obs.length rC) ∧ W.cell? ⟨rg, u, none⟩ = some (.int .i64 (f u : Int)) ∧ W.cell? ⟨rg, v, none⟩ = some (.int .i64 (f v : Int))) (by kernel_rfl) ⟨⟨k1, e0', e1'⟩, y1', ru, rv⟩ (fun hHeld => ?_)
       have ho3d : we.drew.ownsRow wb.heap.size 3 1 (.slice (some ⟨g3, 0, none⟩) p.obs.length c3) p.obs.length (i64s (rkL p.obs.length f)) := ho3
       have hbd := hbK.drew
       have hKd : we.drew.heap[K9]? = _ := hK2
       have hzd3 : g3 < we.drew.heap.size := hzc3
       clear ho3 hoc hK2 hbK e0' e1' y1' hzc3 k1 ru rv
       generalize we.drew = wf at ho3d hbd hKd hzd3 hHeld ⊢
       have s1 := ho3d.stored u (.int .i64 (f v : Int))
       have s2 := s1.1.stored v (.int .i64 (f u : Int))
       have u1c := ho3d.cells (g := g3) rfl u (.int .i64 (f u : Int)) (by simp [i64s, rkL, hu])
       have u1f := ho3d.frozenAt u
       have v1c := s1.1.cells (g := g3) rfl v (.int .i64 (f v : Int)) (by rw [List.getElem?_set_ne hne]; simp [i64s, rkL, hv'])
       have v1f := s1.1.frozenAt v
       rw [Addr.add_lit, Nat.zero_add] at u1c v1c
       have hfar : ∀ (W : World) (o : Nat) (q : Value), ((W.cell? ⟨K9, 1, none⟩ = some (.slice (some ⟨g3, 0, none⟩) p.obs.length c3) ∧ W.cell? ⟨E, 0, none⟩ = some (.int .i64 u) ∧ W.cell? ⟨E, 1, none⟩ = some (.int .i64 v)) ∧ W.cell? ⟨C, 1, none⟩ = some (.slice (some ⟨rg, 0, none⟩) p.obs.length rC) ∧ W.cell? ⟨rg, u, none⟩ = some (.int .i64 (f u : Int)) ∧ W.cell? ⟨rg, v, none⟩ = some (.int .i64 (f v : Int))) →
         (((W.setCell ⟨g3, o, none⟩ q).cell? ⟨K9, 1, none⟩ = some (.slice (some ⟨g3, 0, none⟩) p.obs.length c3) ∧ (W.setCell ⟨g3, o, none⟩ q).cell? ⟨E, 0, none⟩ = some (.int .i64 u) ∧ (W.setCell ⟨g3, o, none⟩ q).cell? ⟨E, 1, none⟩ = some (.int .i64 v)) ∧ (W.setCell ⟨g3, o, none⟩ q).cell? ⟨C, 1, none⟩ = some (.slice (some ⟨rg, 0, none⟩) p.obs.length rC) ∧ (W.setCell ⟨g3, o, none⟩ q).cell? ⟨rg, u, none⟩ = some (.int .i64 (f u : Int)) ∧ (W.setCell ⟨g3, o, none⟩ q).cell? ⟨rg, v, none⟩ = some (.int .i64 (f v : Int))) := fun W o q h =>
        ⟨⟨(World.cell?_setCell_far _ _ _ _ (by show g3 ≠ K9; omega)).trans h.1.1, (World.cell?_setCell_far _ _ _ _ (by show g3 ≠ E; omega)).trans h.1.2.1, (World.cell?_setCell_far _ _ _ _ (by show g3 ≠ E; omega)).trans h.1.2.2⟩, (World.cell?_setCell_far _ _ _ _ (by show g3 ≠ C; omega)).trans h.2.1, (World.cell?_setCell_far _ _ _ _ (by show g3 ≠ rg; omega)).trans h.2.2.1, (World.cell?_setCell_far _ _ _ _ (by show g3 ≠ rg; omega)).trans h.2.2.2⟩
       have hS1 := hfar wf u (.int .i64 (f v : Int)) hHeld
       have hS2 := hfar _ v (.int .i64 (f u : Int)) hS1
       have HFA := Lib.hid hfar
       clear hfar
       refine wpAnyH_take (i := 0) (v := ?_) rfl (by kernel_rfl) (by kernel_rfl) (by kernel_rfl) (fun _ _ _ h => h) (Or.inl ⟨by kernel_rfl, ?_⟩) (by assumption) ?_
       rotate_left
       ·intro w hSw; (try dsimp only at hSw); go_simp; with_reducible rfl
       try simp only [frS, Act.put]
       refine wpAnyH_take (i := 1) (v := ?_) rfl (by kernel_rfl) (by kernel_rfl) (by kernel_rfl) (fun _ _ _ h => h) (Or.inl ⟨by kernel_rfl, ?_⟩) (by assumption) ?_
       rotate_left
       ·intro w hSw; (try dsimp only at hSw); go_simp; with_reducible rfl
       try simp only [Act.put]
       refine wpAnyH_take (i := 2) (v := ?_) rfl (by kernel_rfl) (by kernel_rfl) (by kernel_rfl) (fun _ _ _ h => h) (Or.inl ⟨by kernel_rfl, ?_⟩) (by assumption) ?_
       rotate_left
       ·intro w hSw; (try dsimp only at hSw); go_simp; with_reducible rfl
       try simp only [Act.put]
       refine wpAnyH_take (i := 3) (v := ?_) rfl (by kernel_rfl) (by kernel_rfl) (by kernel_rfl) (fun _ _ _ h => h) (Or.inl ⟨by kernel_rfl, ?_⟩) (by assumption) ?_
       rotate_left
       ·intro w hSw; (try dsimp only at hSw); go_simp; with_reducible rfl
       try simp only [Act.put]
       refine wpAnyH_take (i := 4) (v := ?_) rfl (by kernel_rfl) (by kernel_rfl) (by kernel_rfl) (fun _ _ _ h => h) (Or.inl ⟨by kernel_rfl, ?_⟩) (by assumption) ?_
       rotate_left
       ·intro w hSw; (try dsimp only at hSw); go_simp; with_reducible rfl
       try simp only [Act.put]
       refine wpAnyH_take (i := 5) (v := ?_) rfl (by kernel_rfl) (by kernel_rfl) (by kernel_rfl) (fun _ _ _ h => h) (Or.inl ⟨by kernel_rfl, ?_⟩) (by assumption) ?_
       rotate_left
       ·intro w hSw; (try dsimp only at hSw); go_simp; with_reducible rfl
       try simp only [Act.put]
       refine wpAnyH_take (i := 6) (v := ?_) rfl (by kernel_rfl) (by kernel_rfl) (by kernel_rfl) (fun _ _ _ h => h) (Or.inl ⟨by kernel_rfl, ?_⟩) (by assumption) ?_
       rotate_left
       ·intro w hSw; (try dsimp only at hSw); go_simp; with_reducible rfl
       try simp only [Act.put]
       refine wpAnyH_take (i := 7) (v := ?_) rfl (by kernel_rfl) (by kernel_rfl) (by kernel_rfl) (fun _ _ _ h => h) (Or.inl ⟨by kernel_rfl, ?_⟩) (by assumption) ?_
       rotate_left
       ·intro w hSw; (try dsimp only at hSw); go_simp; with_reducible rfl
       try simp only [Act.put]
       refine wpAnyH_take (i := 8) (v := ?_) rfl (by kernel_rfl) (by kernel_rfl) (by kernel_rfl) (fun _ _ _ h => h) (Or.inl ⟨by kernel_rfl, ?_⟩) (by assumption) ?_
       rotate_left
       ·intro w hSw; (try dsimp only at hSw); go_simp; with_reducible rfl
       try simp only [Act.put]
       refine wpAnyH_take (i := 9) (v := ?_) rfl (by kernel_rfl) (by kernel_rfl) (by kernel_rfl) (fun _ _ _ h => h) (Or.inl ⟨by kernel_rfl, ?_⟩) (by assumption) ?_
       rotate_left
       ·intro w hSw; (try dsimp only at hSw); go_simp; with_reducible rfl
       try simp only [Act.put]
       refine wpAnyH_take (i := 10) (v := ?_) rfl (by kernel_rfl) (by kernel_rfl) (by kernel_rfl) (fun _ _ _ h => h) (Or.inl ⟨by kernel_rfl, ?_⟩) (by assumption) ?_
       rotate_left
       ·intro w hSw; (try dsimp only at hSw); go_simp; with_reducible rfl
       try simp only [Act.put]
       refine wpAnyH_take (i := 11) (v := ?_) rfl (by kernel_rfl) (by kernel_rfl) (by kernel_rfl) (fun _ _ _ h => h) (Or.inl ⟨by kernel_rfl, ?_⟩) (by assumption) ?_
       rotate_left
       ·intro w hSw; (try dsimp only at hSw); go_simp; with_reducible rfl
       try simp only [Act.put]
       refine wpAnyH_take (i := 12) (v := ?_) rfl (by kernel_rfl) (by kernel_rfl) (by kernel_rfl) (fun _ _ _ h => h) (Or.inl ⟨by kernel_rfl, ?_⟩) (by assumption) ?_
       rotate_left
       ·intro w hSw; (try dsimp only at hSw); go_simp; with_reducible rfl
       try simp only [Act.put]
       refine wpAnyH_take (i := 13) (v := ?_) rfl (by kernel_rfl) (by kernel_rfl) (by kernel_rfl) (fun _ _ _ h => h) (Or.inl ⟨by kernel_rfl, ?_⟩) (by assumption) ?_
       rotate_left
       ·intro w hSw; (try dsimp only at hSw); go_simp; with_reducible rfl
       try simp only [Act.put]
       refine wpAnyH_take (i := 14) (v := ?_) rfl (by kernel_rfl) (by kernel_rfl) (by kernel_rfl) (fun _ _ _ h => h) (Or.inl ⟨by kernel_rfl, ?_⟩) (by assumption) ?_
       rotate_left
       ·intro w hSw; (try dsimp only at hSw); go_simp; with_reducible rfl
       try simp only [Act.put]
       refine wpAnyH_take (i := 15) (v := ?_) rfl (by kernel_rfl) (by kernel_rfl) (by kernel_rfl) (fun _ _ _ h => h) (Or.inl ⟨by kernel_rfl, ?_⟩) (by assumption) ?_
       rotate_left
       ·intro w hSw; (try dsimp only at hSw); go_simp; with_reducible rfl
       try simp only [Act.put]
       refine wpAnyH_take (i := 16) (v := ?_) rfl (by kernel_rfl) (by kernel_rfl) (by kernel_rfl) (fun _ _ _ h => h) (Or.inl ⟨by kernel_rfl, ?_⟩) (by assumption) ?_
       rotate_left
       ·intro w hSw; (try dsimp only at hSw); go_simp; with_reducible rfl
       try simp only [Act.put]
       refine wpAnyH_take (i := 17) (v := ?_) rfl (by kernel_rfl) (by kernel_rfl) (by kernel_rfl) (fun _ _ _ h => h) (Or.inl ⟨by kernel_rfl, ?_⟩) (by assumption) ?_
       rotate_left
       ·intro w hSw; (try dsimp only at hSw); go_simp; with_reducible rfl
       try simp only [Act.put]
       refine wpAnyH_take (i := 18) (v := ?_) rfl (by kernel_rfl) (by kernel_rfl) (by kernel_rfl) (fun _ _ _ h => h) (Or.inl ⟨by kernel_rfl, ?_⟩) (by assumption) ?_
       rotate_left
       ·intro w hSw; (try dsimp only at hSw); go_simp; with_reducible rfl
       try simp only [Act.put]
       refine wpAnyH_take (i := 19) (v := ?_) rfl (by kernel_rfl) (by kernel_rfl) (by kernel_rfl) (fun _ _ _ h => h) (Or.inl ⟨by kernel_rfl, ?_⟩) (by assumption) ?_
       rotate_left
       ·intro w hSw; (try dsimp only at hSw); go_simp; with_reducible rfl
       try simp only [Act.put]
       refine wpAnyH_take (i := 20) (v := ?_) rfl (by kernel_rfl) (by kernel_rfl) (by kernel_rfl) (fun _ _ _ h => h) (Or.inl ⟨by kernel_rfl, ?_⟩) (by assumption) ?_
       rotate_left
       ·intro w hSw; (try dsimp only at hSw); go_simp; with_reducible rfl
       try simp only [Act.put]
       refine wpAnyH_ready (rs := [21]) (by kernel_rfl) (by simp) ?_
       refine AllReadyH.cons rfl (fun K hK => ?_) AllReadyH.nil
       go_simp
       refine hK.out _ _ ?_ (fun hHeld => ?_)
       ·exact hS1
       clear hK K
       try simp only [frS, Act.put]
       refine wpAnyH_take (i := 22) (v := ?_) rfl (by kernel_rfl) (by kernel_rfl) (by kernel_rfl) (fun _ _ _ h => h) (Or.inl ⟨by kernel_rfl, ?_⟩) (by assumption) ?_
       rotate_left
       ·intro w hSw; (try dsimp only at hSw); go_simp; with_reducible rfl
       try simp only [frS, Act.put]
       refine wpAnyH_ready (rs := [23]) (by kernel_rfl) (by simp) ?_
       refine AllReadyH.cons rfl (fun K hK => ?_) AllReadyH.nil
       go_simp
       refine hK.out _ _ ?_ (fun hHeld => ?_)
       ·exact hS2
       clear hK K
       try simp only [frS, Act.put]
       refine wpAnyH_done (by kernel_rfl) ?_ _
       try dsimp only [Exit.then]
       have ow := s2.1
       rw [swap_list f hu hv'] at ow
       have hKw := (heap_setCell_other (wf.setCell ⟨g3, u, none⟩ (.int .i64 (f v : Int))) ⟨g3, v, none⟩ K9 (.int .i64 (f u : Int)) (by show K9 ≠ g3; omega)).trans ((heap_setCell_other wf ⟨g3, u, none⟩ K9 (.int .i64 (f v : Int)) (by show K9 ≠ g3; omega)).trans hKd)
       have hbw := (hbd.setCell (p := ⟨g3, u, none⟩) (by show wz.heap.size ≤ g3; omega) (.int .i64 (f v : Int))).setCell (p := ⟨g3, v, none⟩) (by show wz.heap.size ≤ g3; omega) (.int .i64 (f u : Int))
       clear s1 s2 u1c u1f v1c v1f hS1 hS2 HFA hHeld ho3d hKd hbd
       generalize (wf.setCell ⟨g3, u, none⟩ (.int .i64 (f v : Int))).setCell ⟨g3, v, none⟩ (.int .i64 (f u : Int)) = wg at ow hKw hbw ⊢
       obtain ⟨x0, x1, x2⟩ := bx3 (hTz.next hbw).fst
       have k0 := cell_of_row wg K9 0 _ _ _ hKw
       have k1 := cell_of_row wg K9 1 _ _ _ hKw
       simp only [List.getElem?_toArray, List.getElem?_cons_succ, List.getElem?_cons_zero] at k0 k1
       have HVR := Lib.hid (HVE.out hv (some ⟨g3, 0, none⟩) c3 (swapF f u v) wg (hTz.next hbw).below (Rd.of_own ow))
       rw [HSW.out] at HVR
       go_wp2_with fail
       refine HVR.out.mono ?_
       rintro e wh ⟨rfl, hbh⟩
       have hbf := hbw.trans (hbh.mono hbw.size)
       clear x0 x1 x2 k0 k1 hKw ow hbw hbh HVR
       go_wp2_with fail
       go_round
       case rel => exact ⟨j + 1, rfl, by omega, hbf⟩
       case measure => show (graphOf p).length - (intOf (Value.int IntKind.i64 ((j : Int) + 1))).toNat < (graphOf p).length - (intOf (Value.int IntKind.i64 (j : Int))).toNat; simp only [intOf]; omega
      ·have hd3 : decide ((j : Int) < ((graphOf p).length : Int)) = false := decide_eq_false (by omega)
       have hd4 : decide (j < (graphOf p).length) = false := decide_eq_false hjt
       obtain ⟨x0, x1, x2⟩ := bx3 (hTz.next hbr).fst
       have c0 := (hCz.below hbr (by omega)) 0 _ rfl
       have c1' := (hCz.below hbr (by omega)) 1 _ rfl
       have HV1 := Lib.hid (HVE.out hv rA rC f wr (hTz.next hbr).below (Rd.of_own (own_next hoz hbr)))
       rw [HGD.out.ver hW] at HV1
       go_wp2_with fail
       refine HV1.out.mono ?_
       rintro e wh ⟨rfl, hbh⟩
       have hb1 := hbr.trans (hbh.mono hbr.size)
       have hXh := (hb1.block X hXz).trans hXr
       have k0 := cell_of_row wh X 0 _ _ _ hXh
       have k1 := cell_of_row wh X 1 _ _ _ hXh
       simp only [List.getElem?_toArray, List.getElem?_cons_succ, List.getElem?_cons_zero] at k0 k1
       clear x0 x1 x2 c0 c1' HV1 hbr hbh
       obtain ⟨x0, x1, x2⟩ := bx3 (hTz.next hb1).fst
       have HV2 := Lib.hid (HVE.out hv a1 c1 (moreF f m) wh (hTz.next hb1).below (Rd.of_own (own_next ho1 hb1)))
       rw [(HGD.out.more hW m).ver hW] at HV2
       go_wp2_with fail
       refine HV2.out.mono ?_
       rintro e wi ⟨rfl, hbi⟩
       have hb2 := hb1.trans (hbi.mono hb1.size)
       have hYi := (hb2.block Y hYz).trans hYr
       clear x0 x1 x2 k0 k1 HV2 hb1 hbi hXh
       have k0 := cell_of_row wi Y 0 _ _ _ hYi
       have k1 := cell_of_row wi Y 1 _ _ _ hYi
       simp only [List.getElem?_toArray, List.getElem?_cons_succ, List.getElem?_cons_zero] at k0 k1
       obtain ⟨x0, x1, x2⟩ := bx3 (hTz.next hb2).fst
       have HV3 := Lib.hid (HVE.out hv a2 c2 (timesF f m) wi (hTz.next hb2).below (Rd.of_own (own_next ho2 hb2)))
       rw [(HGD.out.times hW m).ver hW] at HV3
       go_wp2_with fail
       refine HV3.out.mono ?_
       rintro e wk ⟨rfl, hbk⟩
       have hb3 := hb2.trans (hbk.mono hb2.size)
       clear x0 x1 x2 k0 k1 HV3 hb2 hbk hYi
       have HA1 := Lib.hid (HAW.out wk)
       go_wp2_with fail
       refine HA1.out.mono ?_
       rintro e wl ⟨rfl, hbl⟩
       go_wp2_with fail
       go_ret
       exact ⟨rfl, (hTz.next hb3).below.trans (hbl.mono (hTz.next hb3).below.size)⟩
  ·have hsz : suspects p.obs.length (graphOf p) ≠ [] := fun z => (no_suspects (graph_range hW)).1 z hst.ring
   have hsl : (suspects p.obs.length (graphOf p)).length ≠ 0 := fun z => hsz (List.length_eq_zero_iff.1 z)
   generalize suspects p.obs.length (graphOf p) = su at HSU hsl
   clear hsz hst
   go_upto_region 4 with fail
   have hbC := below_alloc w3 (.cells #[.int .i64 0, .slice none 0 0] 29)
   have hC4 := bx_new w3 #[.int .i64 0, .slice none 0 0] 29
   have hT4 := hT3.next hbC
   have hzC : w3.heap.size < (w3.alloc (.cells #[.int .i64 0, .slice none 0 0] 29)).heap.size := by simp
   clear hT3
   generalize w3.alloc _ = w4 at hC4 hT4 hzC hbC ⊢
   generalize w3.heap.size = C at hC4 hzC hwz hbC ⊢
   obtain ⟨x0, x1, x2⟩ := bx3 hT4.fst
   have HS1 := Lib.hid (HSU.out hv w4 hT4.below)
   clear HSU hbC
   go_wp2_with fail
   refine HS1.out.mono ?_
   rintro e w5 ⟨sv, rfl, hLL, hb5⟩
   obtain ⟨sA, sC, rfl, -⟩ := hLL.nls
   have hT5 := hT4.next hb5
   have hC5 := hC4.below hb5 hzC
   have hzC5 : C < w5.heap.size := Nat.lt_of_lt_of_le hzC hb5.size
   clear x0 x1 x2 hT4 hC4 hzC hb5 HS1 hLL
   obtain ⟨x0, x1, x2⟩ := bx3 hT5.fst
   have HG1 := Lib.hid (HGR.out hv w5 hT5.below)
   clear HGR
   go_wp2_with fail
   refine HG1.out.mono ?_
   rintro e w6 ⟨gv, rfl, hE, hb6⟩
   obtain ⟨gA, gC, rfl, hE6⟩ := own_eds hE
   have hT6 := hT5.next hb6
   have hC6 := hC5.below hb6 hzC5
   have hzC6 : C < w6.heap.size := Nat.lt_of_lt_of_le hzC5 hb6.size
   clear x0 x1 x2 hT5 hC5 hzC5 hb6 HG1 hE
   generalize su.length = q at hsl ⊢
   have hs1 : ((q : Int) == 0) = false := by rw [beq_eq_false_iff_ne]; omega
   have hs2 : (q == 0) = false := by rw [beq_eq_false_iff_ne]; omega
   have y0 := hC6 1 _ rfl
   obtain ⟨x0, x1, x2⟩ := bx3 hT6.fst
   have HA1 := Lib.hid (HAW.out w6)
   clear HAW
   go_wp2_with fail
   refine HA1.out.mono ?_
   rintro e w7 ⟨rfl, hb7⟩
   go_wp2_with fail
   go_ret
   exact ⟨rfl, hT6.below.trans (hb7.mono hT6.below.size)⟩
end Go.Proofs.YtkpjdanfpolimaaGreat
