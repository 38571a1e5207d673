/- program.shapeOf, walked. Conditions: none. -/
import Derived.Test.YtkpjdanfpolimaaGreatLcShp
set_option maxRecDepth 100000
set_option maxHeartbeats 1600000
namespace Go.Proofs.YtkpjdanfpolimaaGreat
open Go.RowKit
theorem look_len {T:List (Int × List Int)} (h:∀ x∈T,x.2.length=7) {op:Int} {l:List Int} (hl:look T op=some l):l.length=7:=by
 unfold look at hl;obtain ⟨x,hx,rfl⟩:=Option.map_eq_some_iff.1 hl;exact h x (List.mem_of_find?_eq_some hx)
theorem shapeV_form (l:Option (List Int)) (h:∀ x,l=some x→x.length=7):∃ a0 a1 a2 a3 a4 a5 a6:Int,∃ b,shapeV l=.tuple #[.agg #[.int .i64 a0,.int .i64 a1,.int .i64 a2,.int .i64 a3,.int .i64 a4,.int .i64 a5,.int .i64 a6],.bool b]:=by
 cases l with
 | none=>exact ⟨0,0,0,0,0,0,0,false,rfl⟩
 | some x=>
  match x,h x rfl with
  | [a0,a1,a2,a3,a4,a5,a6],_=>exact ⟨a0,a1,a2,a3,a4,a5,a6,true,rfl⟩
theorem row_set {w:World} {g:Nat} {cs:Array Value} {t:TypeId} (hg:w.heap[g]? = some (.cells cs t (0,0))) (j:Nat) (u:Value):(w.setCell ⟨g,j,none⟩ u).heap[g]? = some (.cells (cs.setIfInBounds j u) t (0,0)):=heap_setCell_same w g j cs t u hg
theorem row_cell {w:World} {g:Nat} {cs:Array Value} {t:TypeId} (hg:w.heap[g]? = some (.cells cs t (0,0))) (j:Nat) (v:Value) (h:cs.toList[j]? = some v):w.cell? (Addr.add ⟨g,0,none⟩ j)=some v:=by
 rw [addr_add,Nat.zero_add,cell_of_row _ g j cs t (0,0) hg];simpa using h
theorem set7 {w:World} {g:Nat} {t:TypeId} {z0 z1 z2 z3 z4 z5 z6:Value} (a0 a1 a2 a3 a4 a5 a6:Value) (hg:w.heap[g]? = some (.cells #[z0,z1,z2,z3,z4,z5,z6] t (0,0))) :
  (((((((w.setCell ⟨g,0,none⟩ a0).setCell ⟨g,1,none⟩ a1).setCell ⟨g,2,none⟩ a2).setCell ⟨g,3,none⟩ a3).setCell ⟨g,4,none⟩ a4).setCell ⟨g,5,none⟩ a5).setCell ⟨g,6,none⟩ a6).heap[g]? = some (.cells #[a0,a1,a2,a3,a4,a5,a6] t (0,0)):=by
 have h0:(w.setCell ⟨g,0,none⟩ a0).heap[g]? = some (.cells #[a0,z1,z2,z3,z4,z5,z6] t (0,0)):=by simpa using row_set hg 0 a0
 have h1:((w.setCell ⟨g,0,none⟩ a0).setCell ⟨g,1,none⟩ a1).heap[g]? = some (.cells #[a0,a1,z2,z3,z4,z5,z6] t (0,0)):=by simpa using row_set h0 1 a1
 generalize (w.setCell ⟨g,0,none⟩ a0).setCell ⟨g,1,none⟩ a1=W1 at h1 ⊢;have h2:(W1.setCell ⟨g,2,none⟩ a2).heap[g]? = some (.cells #[a0,a1,a2,z3,z4,z5,z6] t (0,0)):=by simpa using row_set h1 2 a2
 generalize W1.setCell ⟨g,2,none⟩ a2=W2 at h2 ⊢;have h3:(W2.setCell ⟨g,3,none⟩ a3).heap[g]? = some (.cells #[a0,a1,a2,a3,z4,z5,z6] t (0,0)):=by simpa using row_set h2 3 a3
 generalize W2.setCell ⟨g,3,none⟩ a3=W3 at h3 ⊢;have h4:(W3.setCell ⟨g,4,none⟩ a4).heap[g]? = some (.cells #[a0,a1,a2,a3,a4,z5,z6] t (0,0)):=by simpa using row_set h3 4 a4
 generalize W3.setCell ⟨g,4,none⟩ a4=W4 at h4 ⊢;have h5:(W4.setCell ⟨g,5,none⟩ a5).heap[g]? = some (.cells #[a0,a1,a2,a3,a4,a5,z6] t (0,0)):=by simpa using row_set h4 5 a5
 generalize W4.setCell ⟨g,5,none⟩ a5=W5 at h5 ⊢;simpa using row_set h5 6 a6
theorem below7 {B:Nat} {w0 w:World} {g:Nat} (a0 a1 a2 a3 a4 a5 a6:Value) (hb:Below B w0 w) (hB:B≤g):Below B w0 (((((((w.setCell ⟨g,0,none⟩ a0).setCell ⟨g,1,none⟩ a1).setCell ⟨g,2,none⟩ a2).setCell ⟨g,3,none⟩ a3).setCell ⟨g,4,none⟩ a4).setCell ⟨g,5,none⟩ a5).setCell ⟨g,6,none⟩ a6):=
 ((((((hb.setCell (p:=⟨g,0,none⟩) hB a0).setCell (p:=⟨g,1,none⟩) hB a1).setCell (p:=⟨g,2,none⟩) hB a2).setCell (p:=⟨g,3,none⟩) hB a3).setCell (p:=⟨g,4,none⟩) hB a4).setCell (p:=⟨g,5,none⟩) hB a5).setCell (p:=⟨g,6,none⟩) hB a6
theorem shape_1 (w:World):Calls Tryz.prog 124 #[.int .i64 1] w (Ret (shapeV (shapeF 1)) w):=by
 go_enter Tryz.func124,Tryz.ntmps124;go_wp2_with (go_at_call 136; refine (of_any _ _).mono ?_; rintro e w9 ⟨rfl,rfl⟩)
 all_goals exact bodyPost_ret (results_cell_tmp rfl rfl (load_row _ (by kernel_rfl) (by kernel_rfl) (row3 w _ _ _ _))) rfl ⟨rfl,below3 w _ _ _⟩
theorem shape_13 (w:World):Calls Tryz.prog 124 #[.int .i64 13] w (Ret (shapeV (shapeF 13)) w):=by
 go_enter Tryz.func124,Tryz.ntmps124;go_wp2_with (go_at_call 136; refine (of_any _ _).mono ?_; rintro e w9 ⟨rfl,rfl⟩)
 all_goals exact bodyPost_ret (results_cell_tmp rfl rfl (load_row _ (by kernel_rfl) (by kernel_rfl) (row3 w _ _ _ _))) rfl ⟨rfl,below3 w _ _ _⟩
theorem shape_14 (w:World):Calls Tryz.prog 124 #[.int .i64 14] w (Ret (shapeV (shapeF 14)) w):=by
 go_enter Tryz.func124,Tryz.ntmps124;go_wp2_with (go_at_call 136; refine (of_any _ _).mono ?_; rintro e w9 ⟨rfl,rfl⟩)
 all_goals exact bodyPost_ret (results_cell_tmp rfl rfl (load_row _ (by kernel_rfl) (by kernel_rfl) (row3 w _ _ _ _))) rfl ⟨rfl,below3 w _ _ _⟩
theorem shape_15 (w:World):Calls Tryz.prog 124 #[.int .i64 15] w (Ret (shapeV (shapeF 15)) w):=by
 go_enter Tryz.func124,Tryz.ntmps124;go_wp2_with (go_at_call 136; refine (of_any _ _).mono ?_; rintro e w9 ⟨rfl,rfl⟩)
 all_goals exact bodyPost_ret (results_cell_tmp rfl rfl (load_row _ (by kernel_rfl) (by kernel_rfl) (row3 w _ _ _ _))) rfl ⟨rfl,below3 w _ _ _⟩
theorem shape_34 (w:World):Calls Tryz.prog 124 #[.int .i64 34] w (Ret (shapeV (shapeF 34)) w):=by
 go_enter Tryz.func124,Tryz.ntmps124;go_wp2_with (go_at_call 136; refine (of_any _ _).mono ?_; rintro e w9 ⟨rfl,rfl⟩)
 all_goals exact bodyPost_ret (results_cell_tmp rfl rfl (load_row _ (by kernel_rfl) (by kernel_rfl) (row3 w _ _ _ _))) rfl ⟨rfl,below3 w _ _ _⟩
theorem shape_17 (w:World):Calls Tryz.prog 124 #[.int .i64 17] w (Ret (shapeV (shapeF 17)) w):=by
 go_enter Tryz.func124,Tryz.ntmps124;go_wp2_with (go_at_call 136; refine (of_any _ _).mono ?_; rintro e w9 ⟨rfl,rfl⟩)
 all_goals exact bodyPost_ret (results_cell_tmp rfl rfl (load_row _ (by kernel_rfl) (by kernel_rfl) (row3 w _ _ _ _))) rfl ⟨rfl,below3 w _ _ _⟩
theorem shape_30 (w:World):Calls Tryz.prog 124 #[.int .i64 30] w (Ret (shapeV (shapeF 30)) w):=by
 go_enter Tryz.func124,Tryz.ntmps124;go_wp2_with (go_at_call 136; refine (of_any _ _).mono ?_; rintro e w9 ⟨rfl,rfl⟩)
 all_goals exact bodyPost_ret (results_cell_tmp rfl rfl (load_row _ (by kernel_rfl) (by kernel_rfl) (row3 w _ _ _ _))) rfl ⟨rfl,below3 w _ _ _⟩
theorem shape_31 (w:World):Calls Tryz.prog 124 #[.int .i64 31] w (Ret (shapeV (shapeF 31)) w):=by
 go_enter Tryz.func124,Tryz.ntmps124;go_wp2_with (go_at_call 136; refine (of_any _ _).mono ?_; rintro e w9 ⟨rfl,rfl⟩)
 all_goals exact bodyPost_ret (results_cell_tmp rfl rfl (load_row _ (by kernel_rfl) (by kernel_rfl) (row3 w _ _ _ _))) rfl ⟨rfl,below3 w _ _ _⟩
theorem shape_32 (w:World):Calls Tryz.prog 124 #[.int .i64 32] w (Ret (shapeV (shapeF 32)) w):=by
 go_enter Tryz.func124,Tryz.ntmps124;go_wp2_with (go_at_call 136; refine (of_any _ _).mono ?_; rintro e w9 ⟨rfl,rfl⟩)
 all_goals exact bodyPost_ret (results_cell_tmp rfl rfl (load_row _ (by kernel_rfl) (by kernel_rfl) (row3 w _ _ _ _))) rfl ⟨rfl,below3 w _ _ _⟩
theorem shape_33 (w:World):Calls Tryz.prog 124 #[.int .i64 33] w (Ret (shapeV (shapeF 33)) w):=by
 go_enter Tryz.func124,Tryz.ntmps124;go_wp2_with (go_at_call 136; refine (of_any _ _).mono ?_; rintro e w9 ⟨rfl,rfl⟩)
 all_goals exact bodyPost_ret (results_cell_tmp rfl rfl (load_row _ (by kernel_rfl) (by kernel_rfl) (row3 w _ _ _ _))) rfl ⟨rfl,below3 w _ _ _⟩
theorem shape_35 (w:World):Calls Tryz.prog 124 #[.int .i64 35] w (Ret (shapeV (shapeF 35)) w):=by
 go_enter Tryz.func124,Tryz.ntmps124;go_wp2_with (go_at_call 136; refine (of_any _ _).mono ?_; rintro e w9 ⟨rfl,rfl⟩)
 all_goals exact bodyPost_ret (results_cell_tmp rfl rfl (load_row _ (by kernel_rfl) (by kernel_rfl) (row3 w _ _ _ _))) rfl ⟨rfl,below3 w _ _ _⟩
theorem shape_36 (w:World):Calls Tryz.prog 124 #[.int .i64 36] w (Ret (shapeV (shapeF 36)) w):=by
 go_enter Tryz.func124,Tryz.ntmps124;go_wp2_with (go_at_call 136; refine (of_any _ _).mono ?_; rintro e w9 ⟨rfl,rfl⟩)
 all_goals exact bodyPost_ret (results_cell_tmp rfl rfl (load_row _ (by kernel_rfl) (by kernel_rfl) (row3 w _ _ _ _))) rfl ⟨rfl,below3 w _ _ _⟩
theorem shape_42 (w:World):Calls Tryz.prog 124 #[.int .i64 42] w (Ret (shapeV (shapeF 42)) w):=by
 go_enter Tryz.func124,Tryz.ntmps124;go_wp2_with (go_at_call 136; refine (of_any _ _).mono ?_; rintro e w9 ⟨rfl,rfl⟩)
 all_goals exact bodyPost_ret (results_cell_tmp rfl rfl (load_row _ (by kernel_rfl) (by kernel_rfl) (row3 w _ _ _ _))) rfl ⟨rfl,below3 w _ _ _⟩
theorem shape_51 (w:World):Calls Tryz.prog 124 #[.int .i64 51] w (Ret (shapeV (shapeF 51)) w):=by
 go_enter Tryz.func124,Tryz.ntmps124;go_wp2_with (go_at_call 136; refine (of_any _ _).mono ?_; rintro e w9 ⟨rfl,rfl⟩);go_region_with (go_at_call 136; refine (of_any _ _).mono ?_; rintro e w9 ⟨rfl,rfl⟩)
 all_goals (go_wp2_with fail)
 all_goals exact bodyPost_ret (results_cell_tmp rfl rfl (load_row (W:=World.drew _) _ (by kernel_rfl) (by kernel_rfl) (row4 w _ _ _ _ _))) rfl ⟨rfl,(below4 w _ _ _ _).drew⟩
theorem shape_61 (w:World):Calls Tryz.prog 124 #[.int .i64 61] w (Ret (shapeV (shapeF 61)) w):=by
 go_enter Tryz.func124,Tryz.ntmps124;go_wp2_with (go_at_call 136; refine (of_any _ _).mono ?_; rintro e w9 ⟨rfl,rfl⟩);go_region_with (go_at_call 136; refine (of_any _ _).mono ?_; rintro e w9 ⟨rfl,rfl⟩)
 all_goals (go_wp2_with fail)
 all_goals exact bodyPost_ret (results_cell_tmp rfl rfl (load_row (W:=World.drew _) _ (by kernel_rfl) (by kernel_rfl) (row4 w _ _ _ _ _))) rfl ⟨rfl,(below4 w _ _ _ _).drew⟩
theorem shape_63 (w:World):Calls Tryz.prog 124 #[.int .i64 63] w (Ret (shapeV (shapeF 63)) w):=by
 go_enter Tryz.func124,Tryz.ntmps124;go_wp2_with (go_at_call 136; refine (of_any _ _).mono ?_; rintro e w9 ⟨rfl,rfl⟩);go_region_with (go_at_call 136; refine (of_any _ _).mono ?_; rintro e w9 ⟨rfl,rfl⟩)
 all_goals (go_wp2_with fail)
 all_goals exact bodyPost_ret (results_cell_tmp rfl rfl (load_row (W:=World.drew _) _ (by kernel_rfl) (by kernel_rfl) (row4 w _ _ _ _ _))) rfl ⟨rfl,(below4 w _ _ _ _).drew⟩
theorem shape_64 (w:World):Calls Tryz.prog 124 #[.int .i64 64] w (Ret (shapeV (shapeF 64)) w):=by
 go_enter Tryz.func124,Tryz.ntmps124;go_wp2_with (go_at_call 136; refine (of_any _ _).mono ?_; rintro e w9 ⟨rfl,rfl⟩);go_region_with (go_at_call 136; refine (of_any _ _).mono ?_; rintro e w9 ⟨rfl,rfl⟩)
 all_goals (go_wp2_with fail)
 all_goals exact bodyPost_ret (results_cell_tmp rfl rfl (load_row (W:=World.drew _) _ (by kernel_rfl) (by kernel_rfl) (row4 w _ _ _ _ _))) rfl ⟨rfl,(below4 w _ _ _ _).drew⟩
theorem shape_65 (w:World):Calls Tryz.prog 124 #[.int .i64 65] w (Ret (shapeV (shapeF 65)) w):=by
 go_enter Tryz.func124,Tryz.ntmps124;go_wp2_with (go_at_call 136; refine (of_any _ _).mono ?_; rintro e w9 ⟨rfl,rfl⟩);go_region_with (go_at_call 136; refine (of_any _ _).mono ?_; rintro e w9 ⟨rfl,rfl⟩)
 all_goals (go_wp2_with fail)
 all_goals exact bodyPost_ret (results_cell_tmp rfl rfl (load_row (W:=World.drew _) _ (by kernel_rfl) (by kernel_rfl) (row4 w _ _ _ _ _))) rfl ⟨rfl,(below4 w _ _ _ _).drew⟩
theorem shape_66 (w:World):Calls Tryz.prog 124 #[.int .i64 66] w (Ret (shapeV (shapeF 66)) w):=by
 go_enter Tryz.func124,Tryz.ntmps124;go_wp2_with (go_at_call 136; refine (of_any _ _).mono ?_; rintro e w9 ⟨rfl,rfl⟩)
 all_goals exact bodyPost_ret (results_cell_tmp rfl rfl (load_row _ (by kernel_rfl) (by kernel_rfl) (row4 w _ _ _ _ _))) rfl ⟨rfl,below4 w _ _ _ _⟩
theorem shape_67 (w:World):Calls Tryz.prog 124 #[.int .i64 67] w (Ret (shapeV (shapeF 67)) w):=by
 go_enter Tryz.func124,Tryz.ntmps124;go_wp2_with (go_at_call 136; refine (of_any _ _).mono ?_; rintro e w9 ⟨rfl,rfl⟩)
 all_goals exact bodyPost_ret (results_cell_tmp rfl rfl (load_row _ (by kernel_rfl) (by kernel_rfl) (row3 w _ _ _ _))) rfl ⟨rfl,below3 w _ _ _⟩
theorem shape_68 (w:World):Calls Tryz.prog 124 #[.int .i64 68] w (Ret (shapeV (shapeF 68)) w):=by
 go_enter Tryz.func124,Tryz.ntmps124;go_wp2_with (go_at_call 136; refine (of_any _ _).mono ?_; rintro e w9 ⟨rfl,rfl⟩);go_region_with (go_at_call 136; refine (of_any _ _).mono ?_; rintro e w9 ⟨rfl,rfl⟩)
 all_goals (go_wp2_with fail)
 all_goals exact bodyPost_ret (results_cell_tmp rfl rfl (load_row (W:=World.drew _) _ (by kernel_rfl) (by kernel_rfl) (row4 w _ _ _ _ _))) rfl ⟨rfl,(below4 w _ _ _ _).drew⟩
theorem shape_70 (w:World):Calls Tryz.prog 124 #[.int .i64 70] w (Ret (shapeV (shapeF 70)) w):=by
 go_enter Tryz.func124,Tryz.ntmps124;go_wp2_with (go_at_call 136; refine (of_any _ _).mono ?_; rintro e w9 ⟨rfl,rfl⟩);go_region_with (go_at_call 136; refine (of_any _ _).mono ?_; rintro e w9 ⟨rfl,rfl⟩)
 all_goals (go_wp2_with fail)
 all_goals exact bodyPost_ret (results_cell_tmp rfl rfl (load_row (W:=World.drew _) _ (by kernel_rfl) (by kernel_rfl) (row4 w _ _ _ _ _))) rfl ⟨rfl,(below4 w _ _ _ _).drew⟩
theorem shape_72 (w:World):Calls Tryz.prog 124 #[.int .i64 72] w (Ret (shapeV (shapeF 72)) w):=by
 go_enter Tryz.func124,Tryz.ntmps124;go_wp2_with (go_at_call 136; refine (of_any _ _).mono ?_; rintro e w9 ⟨rfl,rfl⟩);go_region_with (go_at_call 136; refine (of_any _ _).mono ?_; rintro e w9 ⟨rfl,rfl⟩)
 all_goals (go_wp2_with fail)
 all_goals exact bodyPost_ret (results_cell_tmp rfl rfl (load_row (W:=World.drew _) _ (by kernel_rfl) (by kernel_rfl) (row4 w _ _ _ _ _))) rfl ⟨rfl,(below4 w _ _ _ _).drew⟩
theorem shape_73 (w:World):Calls Tryz.prog 124 #[.int .i64 73] w (Ret (shapeV (shapeF 73)) w):=by
 go_enter Tryz.func124,Tryz.ntmps124;go_wp2_with (go_at_call 136; refine (of_any _ _).mono ?_; rintro e w9 ⟨rfl,rfl⟩);go_region_with (go_at_call 136; refine (of_any _ _).mono ?_; rintro e w9 ⟨rfl,rfl⟩)
 all_goals (go_wp2_with fail)
 all_goals exact bodyPost_ret (results_cell_tmp rfl rfl (load_row (W:=World.drew _) _ (by kernel_rfl) (by kernel_rfl) (row4 w _ _ _ _ _))) rfl ⟨rfl,(below4 w _ _ _ _).drew⟩
theorem shape_74 (w:World):Calls Tryz.prog 124 #[.int .i64 74] w (Ret (shapeV (shapeF 74)) w):=by
 go_enter Tryz.func124,Tryz.ntmps124;go_wp2_with (go_at_call 136; refine (of_any _ _).mono ?_; rintro e w9 ⟨rfl,rfl⟩);go_region_with (go_at_call 136; refine (of_any _ _).mono ?_; rintro e w9 ⟨rfl,rfl⟩)
 all_goals (go_wp2_with fail)
 all_goals exact bodyPost_ret (results_cell_tmp rfl rfl (load_row (W:=World.drew _) _ (by kernel_rfl) (by kernel_rfl) (row4 w _ _ _ _ _))) rfl ⟨rfl,(below4 w _ _ _ _).drew⟩
theorem shape_no (op:Int) (w:World) (h1:(op == 1)=false) (h13:(op == 13)=false) (h14:(op == 14)=false) (h15:(op == 15)=false) (h34:(op == 34)=false) (h17:(op == 17)=false) (h30:(op == 30)=false) (h31:(op == 31)=false) (h32:(op == 32)=false) (h33:(op == 33)=false) (h35:(op == 35)=false) (h36:(op == 36)=false) (h42:(op == 42)=false) (h51:(op == 51)=false) (h61:(op == 61)=false) (h63:(op == 63)=false) (h64:(op == 64)=false) (h65:(op == 65)=false) (h66:(op == 66)=false) (h67:(op == 67)=false) (h68:(op == 68)=false) (h70:(op == 70)=false) (h72:(op == 72)=false) (h73:(op == 73)=false) (h74:(op == 74)=false):Calls Tryz.prog 124 #[.int .i64 op] w (Ret (shapeV (shapeF op)) w):=by
 have hcall:=fun w=>groups_any op w
 obtain ⟨a0,a1,a2,a3,a4,a5,a6,b,hv⟩:=shapeV_form (look grpTab op) (fun x hx=>look_len (by decide) hx);rw [hv] at hcall
 have hsF:shapeF op=look grpTab op:=by
  have hn:look shpTab op=none:=by simp only [look,shpTab,List.find?,h1,h13,h14,h15,h34,h17,h30,h31,h32,h33,h35,h36,h42,h51,h61,h63,h64,h65,h66,h67,h68,h70,h72,h73,h74]; rfl
  rw [shapeF,hn]
 rw [hsF,hv];clear hv hsF;have HC:=hid hcall;clear hcall;go_enter Tryz.func124,Tryz.ntmps124;go_wp2_with fail;refine (HC.out _).mono ?_;rintro e w9 ⟨rfl,hb9⟩
 have hrow:(((w.alloc (.cells #[.int .i64 0,.int .i64 0,.int .i64 0,.int .i64 0,.int .i64 0,.int .i64 0,.int .i64 0] 162)).alloc (.cells #[.int .i64 3,.int .i64 0] 160)).alloc (.cells #[.int .i64 4,.int .i64 0] 160)).heap[w.heap.size]? = some (.cells #[.int .i64 0,.int .i64 0,.int .i64 0,.int .i64 0,.int .i64 0,.int .i64 0,.int .i64 0] 162):=by
  rw [Below.heap_alloc _ _ _ (by simp; omega),Below.heap_alloc _ _ _ (by simp),heap_alloc_new]
 have hrow9:w9.heap[w.heap.size]? = some (.cells #[.int .i64 0,.int .i64 0,.int .i64 0,.int .i64 0,.int .i64 0,.int .i64 0,.int .i64 0] 162):=(hb9.block _ (by simp; omega)).trans hrow;have hB9:Below w.heap.size w w9:=(below3 w _ _ _).trans (hb9.mono (by simp; omega));have hfz:∀ j,w9.frozen? ⟨w.heap.size,j,none⟩=false:=fun j=>frozen_of_row _ _ j _ _ hrow9
 have c0:w9.cell? ⟨w.heap.size,0,none⟩=some (.int .i64 0):=cell_of_row _ _ 0 _ _ (0,0) hrow9;have c1:w9.cell? ⟨w.heap.size,1,none⟩=some (.int .i64 0):=cell_of_row _ _ 1 _ _ (0,0) hrow9;have c2:w9.cell? ⟨w.heap.size,2,none⟩=some (.int .i64 0):=cell_of_row _ _ 2 _ _ (0,0) hrow9;have c3:w9.cell? ⟨w.heap.size,3,none⟩=some (.int .i64 0):=cell_of_row _ _ 3 _ _ (0,0) hrow9;have c4:w9.cell? ⟨w.heap.size,4,none⟩=some (.int .i64 0):=cell_of_row _ _ 4 _ _ (0,0) hrow9;have c5:w9.cell? ⟨w.heap.size,5,none⟩=some (.int .i64 0):=cell_of_row _ _ 5 _ _ (0,0) hrow9;have c6:w9.cell? ⟨w.heap.size,6,none⟩=some (.int .i64 0):=cell_of_row _ _ 6 _ _ (0,0) hrow9;have HR:=hid hrow9;clear HC hrow hrow9 hb9;go_wp2_with fail
 exact bodyPost_ret (results_cell_tmp rfl rfl (load_row _ (by kernel_rfl) (by kernel_rfl) (row_cell (set7 _ _ _ _ _ _ _ HR.out)))) rfl ⟨rfl,below7 _ _ _ _ _ _ _ hB9 (Nat.le_refl _)⟩
theorem shape_any (op:Int) (w:World):Calls Tryz.prog 124 #[.int .i64 op] w (Ret (shapeV (shapeF op)) w):=by
 by_cases h1:op=1
 ·subst h1; exact shape_1 w
 by_cases h13:op=13
 ·subst h13; exact shape_13 w
 by_cases h14:op=14
 ·subst h14; exact shape_14 w
 by_cases h15:op=15
 ·subst h15; exact shape_15 w
 by_cases h34:op=34
 ·subst h34; exact shape_34 w
 by_cases h17:op=17
 ·subst h17; exact shape_17 w
 by_cases h30:op=30
 ·subst h30; exact shape_30 w
 by_cases h31:op=31
 ·subst h31; exact shape_31 w
 by_cases h32:op=32
 ·subst h32; exact shape_32 w
 by_cases h33:op=33
 ·subst h33; exact shape_33 w
 by_cases h35:op=35
 ·subst h35; exact shape_35 w
 by_cases h36:op=36
 ·subst h36; exact shape_36 w
 by_cases h42:op=42
 ·subst h42; exact shape_42 w
 by_cases h51:op=51
 ·subst h51; exact shape_51 w
 by_cases h61:op=61
 ·subst h61; exact shape_61 w
 by_cases h63:op=63
 ·subst h63; exact shape_63 w
 by_cases h64:op=64
 ·subst h64; exact shape_64 w
 by_cases h65:op=65
 ·subst h65; exact shape_65 w
 by_cases h66:op=66
 ·subst h66; exact shape_66 w
 by_cases h67:op=67
 ·subst h67; exact shape_67 w
 by_cases h68:op=68
 ·subst h68; exact shape_68 w
 by_cases h70:op=70
 ·subst h70; exact shape_70 w
 by_cases h72:op=72
 ·subst h72; exact shape_72 w
 by_cases h73:op=73
 ·subst h73; exact shape_73 w
 by_cases h74:op=74
 ·subst h74; exact shape_74 w
 exact shape_no op w (beq_eq_false_iff_ne.2 h1) (beq_eq_false_iff_ne.2 h13) (beq_eq_false_iff_ne.2 h14) (beq_eq_false_iff_ne.2 h15) (beq_eq_false_iff_ne.2 h34) (beq_eq_false_iff_ne.2 h17) (beq_eq_false_iff_ne.2 h30) (beq_eq_false_iff_ne.2 h31) (beq_eq_false_iff_ne.2 h32) (beq_eq_false_iff_ne.2 h33) (beq_eq_false_iff_ne.2 h35) (beq_eq_false_iff_ne.2 h36) (beq_eq_false_iff_ne.2 h42) (beq_eq_false_iff_ne.2 h51) (beq_eq_false_iff_ne.2 h61) (beq_eq_false_iff_ne.2 h63) (beq_eq_false_iff_ne.2 h64) (beq_eq_false_iff_ne.2 h65) (beq_eq_false_iff_ne.2 h66) (beq_eq_false_iff_ne.2 h67) (beq_eq_false_iff_ne.2 h68) (beq_eq_false_iff_ne.2 h70) (beq_eq_false_iff_ne.2 h72) (beq_eq_false_iff_ne.2 h73) (beq_eq_false_iff_ne.2 h74)
end Go.Proofs.YtkpjdanfpolimaaGreat
