/- LockorderSuspects, walked: it returns true. Conditions: the program lies in memory, its numbers are 64-bit. -/
import Derived.Test.YtkpjdanfpolimaaGreatLsCy
import Derived.Test.YtkpjdanfpolimaaGreatLsDgA
import Derived.Test.YtkpjdanfpolimaaGreatLsDgS
import Derived.Test.YtkpjdanfpolimaaGreatLsDg12
set_option linter.unusedSimpArgs false
set_option maxRecDepth 100000
set_option maxHeartbeats 6400000
namespace Go.Proofs.YtkpjdanfpolimaaGreat
open Go.RowKit Go.Shelf
/-- The classes as they are read: all below block B. -/
def LLr (W : World) (B : Nat) (A : Option Addr) (ls : List (List Nat)) : Prop :=
 ∀ (i : Nat) (c : List Nat), ls[i]? = some c → ∃ (b off g cap : Nat), A = some ⟨b, off, none⟩ ∧ b < B ∧ W.cell? ⟨b, off + i, none⟩ = some (.slice (some ⟨g, 0, none⟩) c.length cap) ∧ g < B ∧ ∀ k (hk : k < c.length), W.cell? ⟨g, k, none⟩ = some (.int .i64 (c[k] : Int))
theorem LLr.of_own {W : World} {base : Nat} {v : Value} {ls : List (List Nat)} (h : OwnLL W base v ls) : ∃ A C, v = .slice A ls.length C ∧ LLr W W.heap.size A ls := by
 obtain ⟨vs, ho, hc⟩ := h
 obtain ⟨A, C, rfl⟩ := own_form ho
 refine ⟨A, C, rfl, fun i c hi => ?_⟩
 obtain ⟨g, cap, h1, -, h2, -, h3⟩ := hc i c hi
 have hil := (List.getElem?_eq_some_iff.1 hi).1
 obtain ⟨b, off, e, hb, hr⟩ := (Rd.of_own ho).addr (by omega)
 exact ⟨b, off, g, cap, e, hb, hr i _ h1, h2, h3⟩
theorem LLr.impl {W W' : World} {B : Nat} {A : Option Addr} {ls : List (List Nat)} (h : LLr W B A ls) (hk : ∀ (b o : Nat) (v : Value), b < B → W.cell? ⟨b, o, none⟩ = some v → W'.cell? ⟨b, o, none⟩ = some v) : LLr W' B A ls := fun i c hi => by
 obtain ⟨b, off, g, cap, e, hb, h1, h2, h3⟩ := h i c hi
 exact ⟨b, off, g, cap, e, hb, hk _ _ _ hb h1, h2, fun k hkl => hk _ _ _ h2 (h3 k hkl)⟩
theorem LLr.below {W W' : World} {B C : Nat} {A : Option Addr} {ls : List (List Nat)} (h : LLr W B A ls) (hb : Below C W W') (hC : B ≤ C) : LLr W' B A ls := h.impl fun _ _ _ hb' hc => (hb.cell (Nat.lt_of_lt_of_le hb' hC)).trans hc
theorem susp_class {n : Nat} {l : List (Nat × Nat)} {c : List Nat} (h : c ∈ suspects n l) : c.length ≤ n ∧ ∀ x ∈ c, x < n := by
 obtain ⟨u, -, -, rfl⟩ := mem_comps.1 (List.mem_filter.1 h).1
 exact ⟨by unfold classOf; exact Nat.le_trans (List.length_filter_le _ _) (by rw [List.length_range]; exact Nat.le_refl _), fun x hx => (mem_class.1 hx).1⟩
theorem susp_len (n : Nat) (l : List (Nat × Nat)) : (suspects n l).length ≤ n := by
 unfold suspects; exact Nat.le_trans (List.length_filter_le _ _) (comps_len n l n)
theorem says_inner {C K nn : Nat} {f : Nat → Nat} {l : List (Nat × Nat)} {n : Nat} (hr : EdR n l) (hn : n ≤ 1000) (B : Nat) (w : World) (hC : w.cell? ⟨C, 0, none⟩ = some (.map (some K))) (hM : MapN w K nn f) (hCB : C < B) (hKB : K < B) :
  Says 24 #[.pointer (some ⟨C, 0, none⟩)] (inn f) l B w := fun e he W hb => by
 have h1 := hr e he
 exact inner_any C K nn f e.1 e.2 (by omega) (by omega) W ((hb.cell hCB).trans hC) (hM.below hb hKB)
theorem says_outer {I C J K nn i : Nat} {f : Nat → Nat} {l : List (Nat × Nat)} {n : Nat} (hr : EdR n l) (hn : n ≤ 1000) (hi : i < 1000) (B : Nat) (w : World) (hI : w.cell? ⟨I, 0, none⟩ = some (inV C)) (hC : w.cell? ⟨C, 0, none⟩ = some (.map (some K))) (hJ : w.cell? ⟨J, 0, none⟩ = some (.int .i64 (i : Int))) (hM : MapN w K nn f) (hIB : I < B) (hCB : C < B) (hJB : J < B) (hKB : K < B) :
  Says 28 #[.pointer (some ⟨I, 0, none⟩), .pointer (some ⟨C, 0, none⟩), .pointer (some ⟨J, 0, none⟩)] (fun e => !inn f e || decide (f e.1 ≠ i + 1)) l B w := fun e he W hb => by
 have h1 := hr e he
 exact outer_any I C J K nn i f e.1 e.2 (by omega) (by omega) hi W ((hb.cell hIB).trans hI) ((hb.cell hCB).trans hC) ((hb.cell hJB).trans hJ) (hM.below hb hKB)
theorem only_same {X : Nat} {A B C : World} (h : A.grownBy B (some X)) (k : B.grownBy C (some X)) : A.grownBy C (some X) :=
 ⟨k.os.trans h.os, k.tape.trans h.tape, k.output.trans h.output, Nat.le_trans h.size k.size, fun j hj hX => (k.block j (Nat.lt_of_lt_of_le hj h.size) hX).trans (h.block j hj hX)⟩
theorem suspLaw_any (p : Prg) (hfit : Fits p) (w : World) (h : Lies w w.heap.size p) : Calls Tryz.prog 6 #[p.val] w (Ret (.bool true) w) := by
 have HFI := Lib.hid (fun (W : World) (hb : Below w.heap.size w W) => fine_any p W (h.next hb))
 have HAW := Lib.hid (fun (W : World) => awake_any W)
 have HSU := Lib.hid (fun (hv : prgOk p) (W : World) (hb : Below w.heap.size w W) => suspects_any p hfit hv W (h.next hb))
 have HGR := Lib.hid (fun (hv : prgOk p) (W : World) (hb : Below w.heap.size w W) => graph_any p hfit hv W (h.next hb))
 have hmm := @run_makeMap Tryz.prog
 unfold Prg.val at HFI HSU HGR ⊢
 clear h hfit
 go_enter Tryz.func6, Tryz.ntmps6
 go_upto_region 1 with fail
 have hT := one_new w #[.slice p.funA p.funs.length p.funC, .slice p.obA p.obs.length p.obC, .slice p.vrA p.vrs.length p.vrC] 26
 generalize w.alloc _ = w1 at hT ⊢
 obtain ⟨x0, x1, x2⟩ := bx3 hT.fst
 have HF1 := Lib.hid (HFI.out w1 hT.below)
 clear HFI
 go_wp2_with fail
 refine HF1.out.mono ?_
 rintro e w2 ⟨b, rfl, hbv, hb2⟩
 have hT2 := hT.next hb2
 have HBV := Lib.hid hbv
 clear x0 x1 x2 hT hb2 HF1 hbv
 cases b with
 | false =>
  have HA1 := Lib.hid (HAW.out w2)
  clear HAW
  go_wp2_with fail
  refine HA1.out.mono ?_
  rintro e w3 ⟨rfl, hb3⟩
  go_wp2_with fail
  go_ret
  exact ⟨rfl, hT2.below.trans (hb3.mono hT2.below.size)⟩
 | true =>
  have hv := HBV.out rfl
  have hW := wf_of hv
  have hob := hW.obs
  have hgl := graph_len hob
  have hge := graph_range hW
  have hgs := graph_strict p
  obtain ⟨x0, x1, x2⟩ := bx3 hT2.fst
  have HS1 := Lib.hid (HSU.out hv w2 hT2.below)
  clear HSU HBV
  go_wp2_with fail
  refine HS1.out.mono ?_
  rintro e w3 ⟨sv, rfl, hLL, hb3⟩
  obtain ⟨As, Cs, rfl, hLr⟩ := LLr.of_own hLL
  have hT3 := hT2.next hb3
  clear x0 x1 x2 hT2 hb3 HS1 hLL
  obtain ⟨x0, x1, x2⟩ := bx3 hT3.fst
  have HG1 := Lib.hid (HGR.out hv w3 hT3.below)
  clear HGR
  go_wp2_with fail
  refine HG1.out.mono ?_
  rintro e w4 ⟨gv, rfl, hE, hb4⟩
  obtain ⟨Ag, Cg, rfl, hE4⟩ := own_eds hE
  have hT4 := hT3.next hb4
  have hLr4 := hLr.below hb4 (Nat.le_refl _)
  have hz34 := hb4.size
  have hdis := susp_dis p.obs.length (graphOf p)
  have hcl : ∀ c ∈ suspects p.obs.length (graphOf p), c.length ≤ p.obs.length ∧ ∀ x ∈ c, x < p.obs.length := fun c hc => susp_class hc
  have hsl := susp_len p.obs.length (graphOf p)
  have HSP : Hid (∀ f, Full (suspects p.obs.length (graphOf p)) f → ¬ Stuck p.obs.length (restE f (graphOf p)) ∧ ∀ i, i < (suspects p.obs.length (graphOf p)).length → Ring p.obs.length (ownE f i (graphOf p))) := Lib.hid (fun f hf => ⟨rest_notStuck hge hf, fun i hi => own_ring hge hf hi⟩)
  generalize suspects p.obs.length (graphOf p) = cs at hLr4 hdis hcl hsl HSP ⊢
  have HDI := Lib.hid hdis
  have HCL := Lib.hid hcl
  clear x0 x1 x2 hT3 hb4 HG1 hE hLr hdis hcl
  go_upto_region 8 with fail
  have hba : Below w4.heap.size w4 ((w4.alloc (.map #[] 0)).alloc (.cells #[.map (some w4.heap.size)] 52)) := (below_alloc _ _).trans (below_alloc2 (by simp) _)
  have hM0 : MapN ((w4.alloc (.map #[] 0)).alloc (.cells #[.map (some w4.heap.size)] 52)) w4.heap.size 0 (fun _ => 0) := (MapN.new w4).kept ((below_alloc _ _).block _ (by simp))
  have hC0 := bx_new (w4.alloc (.map #[] 0)) #[.map (some w4.heap.size)] 52 0 _ rfl
  rw [World.size_alloc] at hC0
  have hKz : w4.heap.size + 2 ≤ ((w4.alloc (.map #[] 0)).alloc (.cells #[.map (some w4.heap.size)] 52)).heap.size := by simp
  have hwK := hT4.size
  have hT5 := hT4.next hba
  have hLr5 := hLr4.below hba hz34
  have hLr5 : LLr _ w4.heap.size As cs := fun i c hi => by
   obtain ⟨b, off, g, cap, e, hb, h1, h2, h3⟩ := hLr5 i c hi
   exact ⟨b, off, g, cap, e, by omega, h1, by omega, h3⟩
  have hE5 := Eds.below' hE4 hba (Nat.le_refl _)
  clear hba hmm hT4 hLr4 hE4 hz34
  generalize World.alloc _ _ = W5 at hM0 hC0 hKz hT5 hLr5 hE5 ⊢
  generalize w4.heap.size = KM at hM0 hC0 hKz hwK hLr5 hE5 ⊢
  have HT5 := Lib.hid hT5
  have HE5 := Lib.hid hE5
  have HLR := Lib.hid hLr5
  have HC0 := Lib.hid hC0
  clear hT5 hE5 hC0
  go_upto_region 9 with fail
  go_loopw [43] (fun s43 wr => ∃ (i : Nat) (f : Nat → Nat) (nn : Nat), s43 = .int .i64 (i : Nat) ∧ i ≤ cs.length ∧ Hid (Fil cs i 0 f) ∧ nn ≤ 20 * i ∧ MapN wr KM nn f ∧ W5.grownBy wr (some KM)) (fun s43 _ => cs.length - (intOf s43).toNat)
  case atStart => exact ⟨0, fun _ => 0, 0, rfl, by omega, Lib.hid (Fil.zero cs), by omega, hM0, World.grownBy.refl _ _⟩
  case round =>
   clear hM0 hLr5
   obtain ⟨i, f, nn, rfl, hil, HF, hnn, hM, hg⟩ := hrel
   have hi0 : (0 : Int) ≤ (i : Int) := by omega
   have hwr : IntKind.i64.wrap ((i : Int) + 1) = (i : Int) + 1 := by rw [IntKind.wrap_i64]; omega
   by_cases hlt : i < cs.length
   ·have hd1 : decide ((i : Int) < (cs.length : Int)) = true := decide_eq_true (by omega)
    have hd2 : decide (i < cs.length) = true := decide_eq_true hlt
    have hjl : (i : Int) < (cs.length : Int) := by omega
    have hci : cs[i]? = some cs[i] := List.getElem?_eq_getElem hlt
    have hcm := HCL.out _ (List.getElem_mem hlt)
    obtain ⟨b, off, g, cap, hA, hbK, hrow, hgK, hel⟩ := HLR.out i _ hci
    have HCI := Lib.hid hci
    clear hci
    generalize cs[i] = c at hcm hrow hel HCI
    obtain ⟨hcl16, hcn⟩ := hcm
    have HCN := Lib.hid hcn
    have HEL := Lib.hid hel
    clear hcn hel
    have c0 := hg.cell hrow (fun e => by injection e with e; simp at e; omega)
    clear hrow
    subst hA
    go_upto_region 12 with fail
    clear c0
    go_loopw [50] (fun s50 wr => ∃ (j : Nat) (f : Nat → Nat) (nn : Nat), s50 = .int .i64 (j : Nat) ∧ j ≤ c.length ∧ Hid (Fil cs i j f) ∧ nn ≤ 20 * i + j ∧ MapN wr KM nn f ∧ W5.grownBy wr (some KM)) (fun s50 _ => c.length - (intOf s50).toNat)
    case atStart => exact ⟨0, f, nn, rfl, by omega, HF, by omega, hM, hg⟩
    case round =>
     clear hM hg HF hnn
     obtain ⟨j, f, nn, rfl, hjc, HF, hnn, hM, hg⟩ := hrel
     have hj0 : (0 : Int) ≤ (j : Int) := by omega
     have hwr2 : IntKind.i64.wrap ((j : Int) + 1) = (j : Int) + 1 := by rw [IntKind.wrap_i64]; omega
     by_cases hlt2 : j < c.length
     ·have hd3 : decide ((j : Int) < (c.length : Int)) = true := decide_eq_true (by omega)
      have hd4 : decide (j < c.length) = true := decide_eq_true hlt2
      have hjl2 : (j : Int) < (c.length : Int) := by omega
      have hxn := HCN.out _ (List.getElem_mem hlt2)
      have hcx := hg.cell (HEL.out j hlt2) (fun e => by injection e with e; simp at e; omega)
      have hat : at2 cs i j = some c[j] := at2_some.2 ⟨c, HCI.out, List.getElem?_eq_getElem hlt2⟩
      have HNX := HF.out.next HDI.out hat
      clear hat
      generalize c[j] = x at hxn hcx HNX
      have hlk := hM.look x (by omega)
      rw [HNX.1] at hlk
      have HN2 := Lib.hid HNX.2
      obtain ⟨W', hrun, hM2, hg2⟩ := hM.upd (by omega) x (i + 1) (by omega) (by omega)
      have hrun : (Instr.mapUpdate 52 (.map (some KM)) (.int .i64 (x : Int)) (.int .i64 ((i : Int) + 1))).run Tryz.prog wr = .ok () W' := hrun
      have hg3 := only_same hg hg2
      have hCw := hg.cell HC0.out (fun e => by injection e with e; simp at e)
      have hCw2 := hg3.cell HC0.out (fun e => by injection e with e; simp at e)
      clear HNX hM hg hg2 HF
      go_wp2_with fail
      go_round
      case rel => exact ⟨j + 1, _, nn + 1, rfl, by omega, HN2, by omega, hM2, hg3⟩
      case measure => show c.length - (intOf (Value.int IntKind.i64 ((j : Int) + 1))).toNat < c.length - (intOf (Value.int IntKind.i64 (j : Int))).toNat; simp only [intOf]; omega
     ·have hd3 : decide ((j : Int) < (c.length : Int)) = false := decide_eq_false (by omega)
      have hd4 : decide (j < c.length) = false := decide_eq_false hlt2
      have hje : j = c.length := by omega
      have HN2 : Hid (Fil cs (i + 1) 0 f) := Lib.hid (Fil.turn (hje ▸ HF.out) HCI.out)
      clear HF
      go_wp2_with fail
      go_round
      case rel => exact ⟨i + 1, f, nn, rfl, by omega, HN2, by omega, hM, hg⟩
      case measure => show cs.length - (intOf (Value.int IntKind.i64 ((i : Int) + 1))).toNat < cs.length - (intOf (Value.int IntKind.i64 (i : Int))).toNat; simp only [intOf]; omega
   ·have hd1 : decide ((i : Int) < (cs.length : Int)) = false := decide_eq_false (by omega)
    have hd2 : decide (i < cs.length) = false := decide_eq_false hlt
    have hie : i = cs.length := by omega
    have HFU : Hid (Full cs f) := Lib.hid (Fil.full (hie ▸ HF.out) HDI.out)
    clear HF HDI HCL HLR
    go_upto_region 20 with fail
    have hwW5 := HT5.out.size
    have hTr : One w wr [.slice p.funA p.funs.length p.funC, .slice p.obA p.obs.length p.obC, .slice p.vrA p.vrs.length p.vrC] :=
     ⟨fun j v hv => hg.cell (HT5.out.fst j v hv) (fun e => by injection e with e; simp at e; omega), HT5.out.below.trans (only_below hg (by omega) (by omega)), Nat.le_trans hwW5 hg.size⟩
    have hEr : Eds wr KM Ag (graphOf p) := Rd.impl HE5.out (fun b o v hb hc => hg.cell hc (fun e => by injection e with e; simp at e; omega))
    have hCr := hg.cell HC0.out (fun e => by injection e with e; simp at e)
    have hKr := hg.size
    have hba := below_alloc wr (.cells #[inV (KM + 1)] 53)
    have hI6 := bx_new wr #[inV (KM + 1)] 53 0 _ rfl
    have hz6 : wr.heap.size + 1 ≤ (wr.alloc (.cells #[inV (KM + 1)] 53)).heap.size := by simp
    have hT6 := hTr.next hba
    have hE6 : Eds (wr.alloc (.cells #[inV (KM + 1)] 53)) (wr.alloc (.cells #[inV (KM + 1)] 53)).heap.size Ag (graphOf p) := Rd.more (Rd.below' hEr hba (by omega)) (by omega)
    have hC6 := (hba.cell (block_lt_of_cell hCr)).trans hCr
    have hM6 := hM.below hba (by omega)
    clear hTr hEr hCr hba hg hM HT5 HE5 HC0
    unfold inV at hI6 hz6 hT6 hE6 hC6 hM6
    generalize wr.alloc _ = W6 at hI6 hz6 hT6 hE6 hC6 hM6 ⊢
    generalize wr.heap.size = I at hI6 hz6 hKr ⊢
    refine wp_region_held_drew (S := fun W => W.cell? ⟨I, 0, none⟩ = some (.func (.func 24) #[] #[.pointer (some ⟨KM + 1, 0, none⟩)])) (by kernel_rfl) hI6 (fun hHeld => ?_)
    have hEd : Eds W6.drew W6.drew.heap.size Ag (graphOf p) := hE6
    have hTd : One w W6.drew [.slice p.funA p.funs.length p.funC, .slice p.obA p.obs.length p.obC, .slice p.vrA p.vrs.length p.vrC] := hT6.next (below_drews _ _ 1)
    have hCd : W6.drew.cell? ⟨KM + 1, 0, none⟩ = some (.map (some KM)) := hC6
    have hId : W6.drew.cell? ⟨I, 0, none⟩ = some (.func (.func 24) #[] #[.pointer (some ⟨KM + 1, 0, none⟩)]) := hI6
    have hMd : MapN W6.drew KM nn f := hM6
    have hzd : I + 1 ≤ W6.drew.heap.size := hz6
    clear hE6 hT6 hC6 hI6 hM6 hz6
    generalize W6.drew = wd at hEd hTd hCd hId hMd hzd hHeld ⊢
    refine tkH (i := 0) rfl (fun _ _ _ h => h) ?_
    try simp only [frS, Act.put]
    refine tkH (i := 2) rfl (fun _ _ _ h => h) ?_
    try simp only [frS, Act.put]
    refine rdH (i := 1) rfl fun K hK => ?_
    go_simp
    refine (edClone_any Ag Cg _ (by omega) wd hEd).mono ?_
    rintro e W7 ⟨v7, rfl, hO7, hb7⟩
    try dsimp only
    refine hK.out _ _ ?_ (fun hHeld => ?_)
    ·exact (hb7.cell (block_lt_of_cell hHeld)).trans hHeld
    clear hK K
    try simp only [frS, Act.put]
    refine rdH (i := 3) rfl fun K hK => ?_
    have hs7 := hb7.size
    have HSY := Lib.hid (says_inner hge (by omega) wd.heap.size W7 ((hb7.cell (by show KM + 1 < wd.heap.size; omega)).trans hCd) (hMd.below hb7 (by omega)) (by omega) (by omega))
    go_simp
    refine (edDelete_any 24 #[.pointer (some ⟨KM + 1, 0, none⟩)] (enters_of Tryz.func24 (by kernel_rfl) rfl) (inn f) v7 _ (by omega) wd.heap.size W7 hs7 HSY.out hO7).mono ?_
    rintro e W8 ⟨A8, C8, rfl, hE8, hb8⟩
    try dsimp only
    refine hK.out _ _ ?_ (fun hHeld => ?_)
    ·exact (hb8.cell (by show I < wd.heap.size; omega)).trans hHeld
    clear hK K
    try simp only [frS, Act.put]
    refine tkH (i := 4) rfl (fun _ _ _ h => h) ?_
    try simp only [frS, Act.put]
    refine wpAnyH_done (by kernel_rfl) ?_ _
    try dsimp only [Exit.then]
    have hb9 := hb7.trans hb8
    have hs8 := hb8.size
    have hs7 := hb7.size
    have HOR := Lib.hid (order_any p.obs.length A8 C8 (restE f (graphOf p)) (by omega) (Nat.le_trans (List.length_filter_le _ _) (by omega)) (hge.sub (rest_sub f _)) (List.Pairwise.filter _ hgs) W8 hE8)
    unfold restE at HOR
    have hT8 := hTd.next hb9
    have hC8 := (hb9.cell (block_lt_of_cell hCd)).trans hCd
    have hI8 := (hb9.cell (block_lt_of_cell hId)).trans hId
    have hM8 := hMd.below hb9 hMd.lt
    have hE9 := Eds.below' hEd hb9 (Nat.le_refl _)
    have hE9 : Eds W8 W8.heap.size Ag (graphOf p) := Rd.more hE9 (by omega)
    clear hEd hTd hCd hId hMd hE8 hHeld hO7 hb7 hb8 hb9
    obtain ⟨x0, x1, x2⟩ := bx3 hT8.fst
    go_wp2_with fail
    refine HOR.out.mono ?_
    rintro e W9 ⟨v9, c9, rfl, hb9, ⟨rfl, -⟩ | ⟨-, -, hst⟩⟩
    ·have hT9 := hT8.next hb9
     have hC9 := (hb9.cell (block_lt_of_cell hC8)).trans hC8
     have hI9 := (hb9.cell (block_lt_of_cell hI8)).trans hI8
     have hM9 := hM8.below hb9 hM8.lt
     have hE10 : Eds W9 W9.heap.size Ag (graphOf p) := Rd.more (Eds.below' hE9 hb9 (Nat.le_refl _)) hb9.size
     have hs9 := hb9.size
     clear x0 x1 x2 hT8 hC8 hI8 hM8 hE9 hb9 HOR
     have hRG := Lib.hid (HSP.out f HFU.out).2
     have HEY := Lib.hid (fun (A : Option Addr) (c i : Nat) (hi : i < cs.length) (W : World) (hE : Eds W W.heap.size A (ownE f i (graphOf p))) => cycle_any p.obs.length A c (ownE f i (graphOf p)) (by omega) (Nat.le_trans (List.length_filter_le _ _) (by omega)) (hge.sub (own_sub f i _)) (List.Pairwise.filter _ hgs) (hRG.out i hi) W hE)
     have hIl : I < W9.heap.size := by omega
     have hMl := hM9.lt
     have hCl := block_lt_of_cell hC9
     clear HSP hRG HFU
     go_upto_region 25 with fail
     go_loopw [81] (fun s81 wr => ∃ i : Nat, s81 = .int .i64 (i : Nat) ∧ i ≤ cs.length ∧ Below W9.heap.size W9 wr) (fun s81 _ => cs.length - (intOf s81).toNat)
     case atStart => exact ⟨0, rfl, by omega, Below.refl _ _⟩
     case round =>
      obtain ⟨i, rfl, hil, hb⟩ := hrel
      have hi0 : (0 : Int) ≤ (i : Int) := by omega
      have hwr : IntKind.i64.wrap ((i : Int) + 1) = (i : Int) + 1 := by rw [IntKind.wrap_i64]; omega
      by_cases hlt : i < cs.length
      ·have hd1 : decide ((i : Int) < (cs.length : Int)) = true := decide_eq_true (by omega)
       have hd2 : decide (i < cs.length) = true := decide_eq_true hlt
       have hjl : (i : Int) < (cs.length : Int) := by omega
       go_upto_region 27 with fail
       have hba := below_alloc wr (.cells #[.int .i64 (i : Int)] 3)
       have hJ := bx_new wr #[.int .i64 (i : Int)] 3 0 _ rfl
       have hzJ : wr.heap.size + 1 ≤ (wr.alloc (.cells #[.int .i64 (i : Int)] 3)).heap.size := by simp
       have hbz := hb.size
       have hbx := hb.trans (hba.mono hbz)
       clear hb hba
       generalize wr.alloc _ = W10 at hJ hzJ hbx ⊢
       generalize wr.heap.size = J at hJ hzJ hbz ⊢
       have hEx : Eds W10 W10.heap.size Ag (graphOf p) := Rd.more (Eds.below' hE10 hbx (Nat.le_refl _)) hbx.size
       have HCL := Lib.hid (edClone_any Ag Cg (graphOf p) (by omega) W10 hEx)
       go_wp2_with fail
       refine HCL.out.mono ?_
       rintro e W11 ⟨v11, rfl, hO11, hb11⟩
       have hby := hbx.trans (hb11.mono (by omega))
       have HSY := Lib.hid (says_outer (I := I) (J := J) hge (by omega) (show i < 1000 by omega) W10.heap.size W11 ((hby.cell hIl).trans hI9) ((hby.cell hCl).trans hC9) ((hb11.cell (by show J < W10.heap.size; omega)).trans hJ) (hM9.below hby hMl) (by omega) (by show KM + 1 < W10.heap.size; have : KM + 1 < W9.heap.size := hCl; omega) (by omega) (by omega))
       obtain ⟨LL, hL2⟩ : ∃ LL, LL = ownE f i (graphOf p) := ⟨_, rfl⟩
       have hde := edDelete_any 28 #[.pointer (some ⟨I, 0, none⟩), .pointer (some ⟨KM + 1, 0, none⟩), .pointer (some ⟨J, 0, none⟩)] (enters_of Tryz.func28 (by kernel_rfl) rfl) (fun e => !inn f e || decide (f e.1 ≠ i + 1)) v11 (graphOf p) (by omega) W10.heap.size W11 hb11.size HSY.out hO11
       have hL3 := hL2
       unfold ownE at hL3
       rw [← hL3] at hde
       clear hL3
       have HDE := Lib.hid hde
       have HL2 := Lib.hid hL2
       clear hde hL2
       clear HCL hJ hEx hO11
       go_wp2_with fail
       refine HDE.out.mono ?_
       rintro e W12 ⟨A12, C12, rfl, hE12, hb12⟩
       have hbw12 := hbx.trans ((hb11.trans hb12).mono (by omega))
       have hc1 := HEY.out A12 C12 i hlt W12 (by rw [← HL2.out]; exact hE12)
       rw [← HL2.out] at hc1
       have HC1 := Lib.hid hc1
       clear hc1
       have hT12 := hT9.next hbw12
       obtain ⟨x0, x1, x2⟩ := bx3 hT12.fst
       clear HDE HSY hb11 hb12 hE12 hbx hby hT12
       go_wp2_with fail
       refine HC1.out.mono ?_
       rintro e W13 ⟨v13, rfl, hb13⟩
       have hbw13 := hbw12.trans (hb13.mono hbw12.size)
       clear HC1 hbw12 hb13 x0 x1 x2
       go_wp2_with fail
       go_round
       case rel => exact ⟨i + 1, rfl, by omega, hbw13⟩
       case measure => show cs.length - (intOf (Value.int IntKind.i64 ((i : Int) + 1))).toNat < cs.length - (intOf (Value.int IntKind.i64 (i : Int))).toNat; simp only [intOf]; omega
      ·have hd1 : decide ((i : Int) < (cs.length : Int)) = false := decide_eq_false (by omega)
       have hd2 : decide (i < cs.length) = false := decide_eq_false hlt
       have HA1 := Lib.hid (HAW.out wr)
       have hTw := hT9.below.trans (hb.mono hT9.below.size)
       clear HEY
       go_wp2_with fail
       refine HA1.out.mono ?_
       rintro e w3 ⟨rfl, hb3⟩
       go_wp2_with fail
       go_ret
       exact ⟨rfl, hTw.trans (hb3.mono hTw.size)⟩
    ·exact absurd hst (HSP.out f HFU.out).1
end Go.Proofs.YtkpjdanfpolimaaGreat
