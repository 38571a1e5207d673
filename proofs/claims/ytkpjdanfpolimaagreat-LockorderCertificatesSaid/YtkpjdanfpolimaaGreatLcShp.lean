/- The shapes of the operations: program.groups, shapeOf; ref13.roles, walked. Conditions: none. -/
import Derived.Test.YtkpjdanfpolimaaGreatLcBase
import Derived.Test.YtkpjdanfpolimaaGreatProg
import Derived.Deep.RegionWith
set_option maxRecDepth 100000
set_option maxHeartbeats 1600000
namespace Go.Proofs.YtkpjdanfpolimaaGreat
open Go.RowKit

def look (T:List (Int × List Int)) (op:Int):Option (List Int):=(T.find? fun x=>op == x.1).map (·.2)
def grpTab:List (Int × List Int):=[(3,[4,0,3,0,3,0,0]),(4,[4,0,3,0,3,0,0]),(5,[4,0,3,0,3,0,0]),(6,[4,0,3,0,3,0,0]),(7,[4,0,3,0,3,0,0]),(8,[4,0,3,0,3,0,0]),(9,[4,0,3,0,3,0,0]),(10,[4,0,3,0,3,0,0]),(11,[4,0,3,0,3,0,0]),(2,[4,0,3,0,0,0,0]),(12,[4,0,3,0,0,0,0]),(16,[3,0,0,0,0,0,0]),(20,[3,0,0,0,0,0,0]),(21,[3,0,0,0,0,0,0]),(40,[3,0,0,0,0,0,0]),(41,[3,0,0,0,0,0,0]),(43,[3,0,0,0,0,0,0]),(18,[0,0,0,0,0,0,0]),(19,[0,0,0,0,0,0,0]),(37,[0,0,0,0,0,0,0]),(38,[0,0,0,0,0,0,0]),(39,[0,0,0,0,0,0,0]),(50,[12,1,0,0,0,0,0]),(52,[12,1,0,0,0,0,0]),(53,[12,2,0,0,0,0,0]),(54,[12,2,0,0,0,0,0]),(55,[12,2,0,0,0,0,0]),(56,[12,2,0,0,0,0,0]),(57,[12,3,0,0,0,0,0]),(58,[12,3,0,0,0,0,0]),(59,[12,3,0,0,0,0,0]),(60,[12,4,3,0,0,0,0]),(62,[12,4,3,0,0,0,0]),(69,[12,7,0,0,0,0,0]),(71,[12,7,0,0,0,0,0])]
def shpTab:List (Int × List Int):=[(1,[4,0,1,0,0,0,0]),(13,[6,0,0,0,0,0,0]),(14,[3,0,6,0,0,0,0]),(15,[4,0,8,0,0,0,1]),(34,[4,0,8,0,0,0,1]),(17,[0,0,9,0,0,0,1]),(30,[4,0,10,0,0,0,0]),(31,[10,0,3,0,0,0,0]),(32,[4,0,11,0,3,0,0]),(33,[4,0,11,0,0,0,2]),(35,[5,0,5,0,7,0,0]),(36,[4,0,0,0,0,0,0]),(42,[2,0,3,0,0,0,0]),(51,[4,0,12,1,0,0,0]),(61,[4,0,12,4,3,0,0]),(63,[4,0,12,5,0,0,0]),(64,[12,6,3,0,0,0,0]),(65,[4,0,12,6,4,0,0]),(66,[12,6,0,0,0,0,0]),(67,[4,0,4,0,4,0,3]),(68,[12,7,3,0,0,0,0]),(70,[4,0,12,7,0,0,0]),(72,[12,8,3,0,0,0,0]),(73,[12,9,3,0,0,0,0]),(74,[4,0,12,9,0,0,0])]
def roleTab:List (Int × List Int):=[(1,[119,110,46,46]),(2,[119,114,46,46]),(3,[119,114,114,46]),(4,[119,114,114,46]),(5,[119,114,114,46]),(6,[119,114,114,46]),(7,[119,114,114,46]),(8,[119,114,114,46]),(9,[119,114,114,46]),(10,[119,114,114,46]),(11,[119,114,114,46]),(12,[119,114,46,46]),(13,[116,46,46,46]),(14,[114,116,46,46]),(15,[119,102,46,112]),(16,[114,46,46,46]),(17,[46,100,46,112]),(18,[46,46,46,46]),(19,[46,46,46,46]),(20,[114,46,46,46]),(21,[114,46,46,46]),(30,[119,118,46,46]),(31,[118,114,46,46]),(32,[119,97,114,46]),(33,[119,97,46,50]),(34,[119,102,46,112]),(35,[111,111,99,46]),(36,[119,46,46,46]),(37,[46,46,46,46]),(38,[46,46,46,46]),(39,[46,46,46,46]),(40,[114,46,46,46]),(41,[114,46,46,46]),(42,[109,114,46,46]),(43,[114,46,46,46]),(50,[49,46,46,46]),(51,[119,49,46,46]),(52,[49,46,46,46]),(53,[50,46,46,46]),(54,[50,46,46,46]),(55,[50,46,46,46]),(56,[50,46,46,46]),(57,[51,46,46,46]),(58,[51,46,46,46]),(59,[51,46,46,46]),(60,[52,114,46,46]),(61,[119,52,114,46]),(62,[52,114,46,46]),(63,[119,53,46,46]),(64,[54,114,46,46]),(65,[119,54,119,46]),(66,[54,46,46,46]),(67,[119,119,119,115]),(68,[55,114,46,46]),(69,[55,46,46,46]),(70,[119,55,46,46]),(71,[55,46,46,46]),(72,[56,114,46,46]),(73,[57,114,46,46]),(74,[119,57,46,46])]
def shapeF (op:Int):Option (List Int):=match look shpTab op with | some l=>some l | none=>look grpTab op
def roleF (op:Int):List UInt8:=((look roleTab op).getD []).map fun n=>UInt8.ofNat n.toNat
def RoleR (n:Int):Prop:=∀ w:World,Calls Tryz.prog 95 #[.int .i64 n] w (Ret (.string ⟨(roleF n).toArray⟩) w)
def shapeV (l:Option (List Int)):Value:=.tuple #[.agg (((l.getD [0,0,0,0,0,0,0]).map (Value.int .i64)).toArray),.bool l.isSome]

def GrpR (n:Int):Prop:=∀ w:World,Calls Tryz.prog 137 #[.int .i64 n] w (Ret (shapeV (look grpTab n)) w)
theorem load_row {P:Program} {W:World} {t:TypeId} {g:Nat} (cs:Array Value) (ht:(isAgg t).run P W=.ok true W) (hs:(sizeOf t).run P W=.ok cs.size W)
  (hc:∀ j v,cs.toList[j]? = some v→W.cell? (Addr.add ⟨g,0,none⟩ j)=some v):(loadVar t ⟨g,0,none⟩).run P W=.ok (.agg cs) W:=by
 have hl:=run_loadCells_list (P:=P) W ⟨g,0,none⟩ cs.toList hc;rw [Array.length_toList] at hl;simp [loadVar,Sem.run_bind,ht,hs,hl,Result.andThen]
theorem run_map' {P:Program} {α β:Type} (f:α→β) (m:Sem α) (w:World):(f <$> m).run P w=(m.run P w).andThen fun a w=>.ok (f a) w:=by
 show (m >>= fun a=>pure (f a)).run P w=_;rw [Sem.run_bind]; rfl
theorem results_cell_tmp {fn:Func} {a b:Tmp} {t:TypeId} (h:fn.results=#[.cell a t,.tmp b]) {tmps:Array Value} {P:Program} {w:World} {pa:Addr} {va:Value}
  (ha:tmps.getD a undef=.pointer (some pa)) (hva:(loadVar t pa).run P w=.ok va w) :
  (results fn tmps).run P w=.ok (.tuple #[va,tmps.getD b undef]) w:=by
 have hx:(asAddr (.pointer (some pa))).run P w=.ok pa w:=rfl;have hp:∀ {α:Type} (x:α) (w:World),(pure x:Sem α).run P w=.ok x w:=fun _ _=>rfl
 unfold results;rw [h];simp only [List.mapM_toArray,List.mapM_cons,List.mapM_nil,Sem.run_bind,run_map',ha,hx,hva,Result.andThen,hp];rfl
theorem results_cell {fn:Func} {a:Tmp} {t:TypeId} (h:fn.results=#[.cell a t]) {tmps:Array Value} {P:Program} {w:World} {pa:Addr} {va:Value}
  (ha:tmps.getD a undef=.pointer (some pa)) (hva:(loadVar t pa).run P w=.ok va w) :
  (results fn tmps).run P w=.ok va w:=by
 have hx:(asAddr (.pointer (some pa))).run P w=.ok pa w:=rfl;have hp:∀ {α:Type} (x:α) (w:World),(pure x:Sem α).run P w=.ok x w:=fun _ _=>rfl
 unfold results;rw [h];simp only [List.mapM_toArray,List.mapM_cons,List.mapM_nil,Sem.run_bind,run_map',ha,hx,hva,Result.andThen,hp];rfl
theorem addr_add (b off i:Nat):(⟨b,off,none⟩:Addr).add i=⟨b,off+i,none⟩:=by
 unfold Addr.add;split
 ·rename_i h; subst h; rfl
 ·rfl
theorem row1 (w:World) (cs:Array Value) (t:Nat) (j:Nat) (v:Value) (h:cs.toList[j]? = some v):(w.alloc (.cells cs t)).cell? (Addr.add ⟨w.heap.size,0,none⟩ j)=some v:=by
 rw [addr_add,Nat.zero_add,cell_of_row _ w.heap.size j cs t (0,0) (heap_alloc_new w _)];simpa using h
theorem row3 (w:World) (cs:Array Value) (t:Nat) (o1 o2:Obj) (j:Nat) (v:Value) (h:cs.toList[j]? = some v):(((w.alloc (.cells cs t)).alloc o1).alloc o2).cell? (Addr.add ⟨w.heap.size,0,none⟩ j)=some v:=by
 have e:(Addr.add ⟨w.heap.size,0,none⟩ j)=⟨w.heap.size,j,none⟩:=by
  unfold Addr.add;split
  ·rename_i h; subst h; rfl
  ·simp
 rw [e,World.cell?_alloc_lt _ _ _ (by simp; omega),World.cell?_alloc_lt _ _ _ (by simp),cell_of_row _ _ j cs t (0,0) (heap_alloc_new w _)];simpa using h
theorem row4 (w:World) (cs:Array Value) (t:Nat) (o1 o2 o3:Obj) (j:Nat) (v:Value) (h:cs.toList[j]? = some v):((((w.alloc (.cells cs t)).alloc o1).alloc o2).alloc o3).cell? (Addr.add ⟨w.heap.size,0,none⟩ j)=some v:=by
 have h3:=row3 w cs t o1 o2 j v h;rw [addr_add] at h3 ⊢;rw [World.cell?_alloc_lt _ _ _ (by simp; omega)];exact h3
theorem below3 (w:World) (a b c:Obj):Below w.heap.size w (((w.alloc a).alloc b).alloc c):=((below_alloc _ _).trans (below_alloc2 (by simp) _)).trans (below_alloc2 (by simp; omega) _)
theorem below4 (w:World) (a b c d:Obj):Below w.heap.size w ((((w.alloc a).alloc b).alloc c).alloc d):=(below3 w a b c).trans (below_alloc2 (by simp; omega) _)

theorem of_any (k:Int) (w:World):Calls Tryz.prog 136 #[.int .i64 k] w fun e w'=>e=.returned (.agg #[.int .i64 12,.int .i64 k])∧w'=w.alloc (.cells #[.int .i64 12,.int .i64 k] 160):=by
 go_enter Tryz.func136,Tryz.ntmps136;go_wp2_with fail;refine bodyPost_ret (results_cell rfl rfl (load_row _ (by kernel_rfl) (by kernel_rfl) (row1 w _ _))) rfl ⟨rfl,rfl⟩

theorem groups_3:GrpR 3:=fun w=>by
 go_enter Tryz.func137,Tryz.ntmps137;go_wp2_with (go_at_call 136; refine (of_any _ _).mono ?_; rintro e w9 ⟨rfl,rfl⟩)
 all_goals exact bodyPost_ret (results_cell_tmp rfl rfl (load_row _ (by kernel_rfl) (by kernel_rfl) (row3 w _ _ _ _))) rfl ⟨rfl,below3 w _ _ _⟩
theorem groups_4:GrpR 4:=fun w=>by
 go_enter Tryz.func137,Tryz.ntmps137;go_wp2_with (go_at_call 136; refine (of_any _ _).mono ?_; rintro e w9 ⟨rfl,rfl⟩)
 all_goals exact bodyPost_ret (results_cell_tmp rfl rfl (load_row _ (by kernel_rfl) (by kernel_rfl) (row3 w _ _ _ _))) rfl ⟨rfl,below3 w _ _ _⟩
theorem groups_5:GrpR 5:=fun w=>by
 go_enter Tryz.func137,Tryz.ntmps137;go_wp2_with (go_at_call 136; refine (of_any _ _).mono ?_; rintro e w9 ⟨rfl,rfl⟩)
 all_goals exact bodyPost_ret (results_cell_tmp rfl rfl (load_row _ (by kernel_rfl) (by kernel_rfl) (row3 w _ _ _ _))) rfl ⟨rfl,below3 w _ _ _⟩
theorem groups_6:GrpR 6:=fun w=>by
 go_enter Tryz.func137,Tryz.ntmps137;go_wp2_with (go_at_call 136; refine (of_any _ _).mono ?_; rintro e w9 ⟨rfl,rfl⟩)
 all_goals exact bodyPost_ret (results_cell_tmp rfl rfl (load_row _ (by kernel_rfl) (by kernel_rfl) (row3 w _ _ _ _))) rfl ⟨rfl,below3 w _ _ _⟩
theorem groups_7:GrpR 7:=fun w=>by
 go_enter Tryz.func137,Tryz.ntmps137;go_wp2_with (go_at_call 136; refine (of_any _ _).mono ?_; rintro e w9 ⟨rfl,rfl⟩)
 all_goals exact bodyPost_ret (results_cell_tmp rfl rfl (load_row _ (by kernel_rfl) (by kernel_rfl) (row3 w _ _ _ _))) rfl ⟨rfl,below3 w _ _ _⟩
theorem groups_8:GrpR 8:=fun w=>by
 go_enter Tryz.func137,Tryz.ntmps137;go_wp2_with (go_at_call 136; refine (of_any _ _).mono ?_; rintro e w9 ⟨rfl,rfl⟩)
 all_goals exact bodyPost_ret (results_cell_tmp rfl rfl (load_row _ (by kernel_rfl) (by kernel_rfl) (row3 w _ _ _ _))) rfl ⟨rfl,below3 w _ _ _⟩
theorem groups_9:GrpR 9:=fun w=>by
 go_enter Tryz.func137,Tryz.ntmps137;go_wp2_with (go_at_call 136; refine (of_any _ _).mono ?_; rintro e w9 ⟨rfl,rfl⟩)
 all_goals exact bodyPost_ret (results_cell_tmp rfl rfl (load_row _ (by kernel_rfl) (by kernel_rfl) (row3 w _ _ _ _))) rfl ⟨rfl,below3 w _ _ _⟩
theorem groups_10:GrpR 10:=fun w=>by
 go_enter Tryz.func137,Tryz.ntmps137;go_wp2_with (go_at_call 136; refine (of_any _ _).mono ?_; rintro e w9 ⟨rfl,rfl⟩)
 all_goals exact bodyPost_ret (results_cell_tmp rfl rfl (load_row _ (by kernel_rfl) (by kernel_rfl) (row3 w _ _ _ _))) rfl ⟨rfl,below3 w _ _ _⟩
theorem groups_11:GrpR 11:=fun w=>by
 go_enter Tryz.func137,Tryz.ntmps137;go_wp2_with (go_at_call 136; refine (of_any _ _).mono ?_; rintro e w9 ⟨rfl,rfl⟩)
 all_goals exact bodyPost_ret (results_cell_tmp rfl rfl (load_row _ (by kernel_rfl) (by kernel_rfl) (row3 w _ _ _ _))) rfl ⟨rfl,below3 w _ _ _⟩
theorem groups_2:GrpR 2:=fun w=>by
 go_enter Tryz.func137,Tryz.ntmps137;go_wp2_with (go_at_call 136; refine (of_any _ _).mono ?_; rintro e w9 ⟨rfl,rfl⟩)
 all_goals exact bodyPost_ret (results_cell_tmp rfl rfl (load_row _ (by kernel_rfl) (by kernel_rfl) (row3 w _ _ _ _))) rfl ⟨rfl,below3 w _ _ _⟩
theorem groups_12:GrpR 12:=fun w=>by
 go_enter Tryz.func137,Tryz.ntmps137;go_wp2_with (go_at_call 136; refine (of_any _ _).mono ?_; rintro e w9 ⟨rfl,rfl⟩)
 all_goals exact bodyPost_ret (results_cell_tmp rfl rfl (load_row _ (by kernel_rfl) (by kernel_rfl) (row3 w _ _ _ _))) rfl ⟨rfl,below3 w _ _ _⟩
theorem groups_16:GrpR 16:=fun w=>by
 go_enter Tryz.func137,Tryz.ntmps137;go_wp2_with (go_at_call 136; refine (of_any _ _).mono ?_; rintro e w9 ⟨rfl,rfl⟩)
 all_goals exact bodyPost_ret (results_cell_tmp rfl rfl (load_row _ (by kernel_rfl) (by kernel_rfl) (row3 w _ _ _ _))) rfl ⟨rfl,below3 w _ _ _⟩
theorem groups_20:GrpR 20:=fun w=>by
 go_enter Tryz.func137,Tryz.ntmps137;go_wp2_with (go_at_call 136; refine (of_any _ _).mono ?_; rintro e w9 ⟨rfl,rfl⟩)
 all_goals exact bodyPost_ret (results_cell_tmp rfl rfl (load_row _ (by kernel_rfl) (by kernel_rfl) (row3 w _ _ _ _))) rfl ⟨rfl,below3 w _ _ _⟩
theorem groups_21:GrpR 21:=fun w=>by
 go_enter Tryz.func137,Tryz.ntmps137;go_wp2_with (go_at_call 136; refine (of_any _ _).mono ?_; rintro e w9 ⟨rfl,rfl⟩)
 all_goals exact bodyPost_ret (results_cell_tmp rfl rfl (load_row _ (by kernel_rfl) (by kernel_rfl) (row3 w _ _ _ _))) rfl ⟨rfl,below3 w _ _ _⟩
theorem groups_40:GrpR 40:=fun w=>by
 go_enter Tryz.func137,Tryz.ntmps137;go_wp2_with (go_at_call 136; refine (of_any _ _).mono ?_; rintro e w9 ⟨rfl,rfl⟩)
 all_goals exact bodyPost_ret (results_cell_tmp rfl rfl (load_row _ (by kernel_rfl) (by kernel_rfl) (row3 w _ _ _ _))) rfl ⟨rfl,below3 w _ _ _⟩
theorem groups_41:GrpR 41:=fun w=>by
 go_enter Tryz.func137,Tryz.ntmps137;go_wp2_with (go_at_call 136; refine (of_any _ _).mono ?_; rintro e w9 ⟨rfl,rfl⟩)
 all_goals exact bodyPost_ret (results_cell_tmp rfl rfl (load_row _ (by kernel_rfl) (by kernel_rfl) (row3 w _ _ _ _))) rfl ⟨rfl,below3 w _ _ _⟩
theorem groups_43:GrpR 43:=fun w=>by
 go_enter Tryz.func137,Tryz.ntmps137;go_wp2_with (go_at_call 136; refine (of_any _ _).mono ?_; rintro e w9 ⟨rfl,rfl⟩)
 all_goals exact bodyPost_ret (results_cell_tmp rfl rfl (load_row _ (by kernel_rfl) (by kernel_rfl) (row3 w _ _ _ _))) rfl ⟨rfl,below3 w _ _ _⟩
theorem groups_18:GrpR 18:=fun w=>by
 go_enter Tryz.func137,Tryz.ntmps137;go_wp2_with (go_at_call 136; refine (of_any _ _).mono ?_; rintro e w9 ⟨rfl,rfl⟩)
 all_goals exact bodyPost_ret (results_cell_tmp rfl rfl (load_row _ (by kernel_rfl) (by kernel_rfl) (row3 w _ _ _ _))) rfl ⟨rfl,below3 w _ _ _⟩
theorem groups_19:GrpR 19:=fun w=>by
 go_enter Tryz.func137,Tryz.ntmps137;go_wp2_with (go_at_call 136; refine (of_any _ _).mono ?_; rintro e w9 ⟨rfl,rfl⟩)
 all_goals exact bodyPost_ret (results_cell_tmp rfl rfl (load_row _ (by kernel_rfl) (by kernel_rfl) (row3 w _ _ _ _))) rfl ⟨rfl,below3 w _ _ _⟩
theorem groups_37:GrpR 37:=fun w=>by
 go_enter Tryz.func137,Tryz.ntmps137;go_wp2_with (go_at_call 136; refine (of_any _ _).mono ?_; rintro e w9 ⟨rfl,rfl⟩)
 all_goals exact bodyPost_ret (results_cell_tmp rfl rfl (load_row _ (by kernel_rfl) (by kernel_rfl) (row3 w _ _ _ _))) rfl ⟨rfl,below3 w _ _ _⟩
theorem groups_38:GrpR 38:=fun w=>by
 go_enter Tryz.func137,Tryz.ntmps137;go_wp2_with (go_at_call 136; refine (of_any _ _).mono ?_; rintro e w9 ⟨rfl,rfl⟩)
 all_goals exact bodyPost_ret (results_cell_tmp rfl rfl (load_row _ (by kernel_rfl) (by kernel_rfl) (row3 w _ _ _ _))) rfl ⟨rfl,below3 w _ _ _⟩
theorem groups_39:GrpR 39:=fun w=>by
 go_enter Tryz.func137,Tryz.ntmps137;go_wp2_with (go_at_call 136; refine (of_any _ _).mono ?_; rintro e w9 ⟨rfl,rfl⟩)
 all_goals exact bodyPost_ret (results_cell_tmp rfl rfl (load_row _ (by kernel_rfl) (by kernel_rfl) (row3 w _ _ _ _))) rfl ⟨rfl,below3 w _ _ _⟩
theorem groups_50:GrpR 50:=fun w=>by
 go_enter Tryz.func137,Tryz.ntmps137;go_wp2_with (go_at_call 136; refine (of_any _ _).mono ?_; rintro e w9 ⟨rfl,rfl⟩)
 all_goals exact bodyPost_ret (results_cell_tmp rfl rfl (load_row _ (by kernel_rfl) (by kernel_rfl) (row4 w _ _ _ _ _))) rfl ⟨rfl,below4 w _ _ _ _⟩
theorem groups_52:GrpR 52:=fun w=>by
 go_enter Tryz.func137,Tryz.ntmps137;go_wp2_with (go_at_call 136; refine (of_any _ _).mono ?_; rintro e w9 ⟨rfl,rfl⟩)
 all_goals exact bodyPost_ret (results_cell_tmp rfl rfl (load_row _ (by kernel_rfl) (by kernel_rfl) (row4 w _ _ _ _ _))) rfl ⟨rfl,below4 w _ _ _ _⟩
theorem groups_53:GrpR 53:=fun w=>by
 go_enter Tryz.func137,Tryz.ntmps137;go_wp2_with (go_at_call 136; refine (of_any _ _).mono ?_; rintro e w9 ⟨rfl,rfl⟩)
 all_goals exact bodyPost_ret (results_cell_tmp rfl rfl (load_row _ (by kernel_rfl) (by kernel_rfl) (row4 w _ _ _ _ _))) rfl ⟨rfl,below4 w _ _ _ _⟩
theorem groups_54:GrpR 54:=fun w=>by
 go_enter Tryz.func137,Tryz.ntmps137;go_wp2_with (go_at_call 136; refine (of_any _ _).mono ?_; rintro e w9 ⟨rfl,rfl⟩)
 all_goals exact bodyPost_ret (results_cell_tmp rfl rfl (load_row _ (by kernel_rfl) (by kernel_rfl) (row4 w _ _ _ _ _))) rfl ⟨rfl,below4 w _ _ _ _⟩
theorem groups_55:GrpR 55:=fun w=>by
 go_enter Tryz.func137,Tryz.ntmps137;go_wp2_with (go_at_call 136; refine (of_any _ _).mono ?_; rintro e w9 ⟨rfl,rfl⟩)
 all_goals exact bodyPost_ret (results_cell_tmp rfl rfl (load_row _ (by kernel_rfl) (by kernel_rfl) (row4 w _ _ _ _ _))) rfl ⟨rfl,below4 w _ _ _ _⟩
theorem groups_56:GrpR 56:=fun w=>by
 go_enter Tryz.func137,Tryz.ntmps137;go_wp2_with (go_at_call 136; refine (of_any _ _).mono ?_; rintro e w9 ⟨rfl,rfl⟩)
 all_goals exact bodyPost_ret (results_cell_tmp rfl rfl (load_row _ (by kernel_rfl) (by kernel_rfl) (row4 w _ _ _ _ _))) rfl ⟨rfl,below4 w _ _ _ _⟩
theorem groups_57:GrpR 57:=fun w=>by
 go_enter Tryz.func137,Tryz.ntmps137;go_wp2_with (go_at_call 136; refine (of_any _ _).mono ?_; rintro e w9 ⟨rfl,rfl⟩)
 all_goals exact bodyPost_ret (results_cell_tmp rfl rfl (load_row _ (by kernel_rfl) (by kernel_rfl) (row4 w _ _ _ _ _))) rfl ⟨rfl,below4 w _ _ _ _⟩
theorem groups_58:GrpR 58:=fun w=>by
 go_enter Tryz.func137,Tryz.ntmps137;go_wp2_with (go_at_call 136; refine (of_any _ _).mono ?_; rintro e w9 ⟨rfl,rfl⟩)
 all_goals exact bodyPost_ret (results_cell_tmp rfl rfl (load_row _ (by kernel_rfl) (by kernel_rfl) (row4 w _ _ _ _ _))) rfl ⟨rfl,below4 w _ _ _ _⟩
theorem groups_59:GrpR 59:=fun w=>by
 go_enter Tryz.func137,Tryz.ntmps137;go_wp2_with (go_at_call 136; refine (of_any _ _).mono ?_; rintro e w9 ⟨rfl,rfl⟩)
 all_goals exact bodyPost_ret (results_cell_tmp rfl rfl (load_row _ (by kernel_rfl) (by kernel_rfl) (row4 w _ _ _ _ _))) rfl ⟨rfl,below4 w _ _ _ _⟩
theorem groups_60:GrpR 60:=fun w=>by
 go_enter Tryz.func137,Tryz.ntmps137;go_wp2_with (go_at_call 136; refine (of_any _ _).mono ?_; rintro e w9 ⟨rfl,rfl⟩);go_region_with (go_at_call 136; refine (of_any _ _).mono ?_; rintro e w9 ⟨rfl,rfl⟩)
 all_goals (go_wp2_with fail)
 all_goals exact bodyPost_ret (results_cell_tmp rfl rfl (load_row (W:=World.drew _) _ (by kernel_rfl) (by kernel_rfl) (row4 w _ _ _ _ _))) rfl ⟨rfl,(below4 w _ _ _ _).drew⟩
theorem groups_62:GrpR 62:=fun w=>by
 go_enter Tryz.func137,Tryz.ntmps137;go_wp2_with (go_at_call 136; refine (of_any _ _).mono ?_; rintro e w9 ⟨rfl,rfl⟩);go_region_with (go_at_call 136; refine (of_any _ _).mono ?_; rintro e w9 ⟨rfl,rfl⟩)
 all_goals (go_wp2_with fail)
 all_goals exact bodyPost_ret (results_cell_tmp rfl rfl (load_row (W:=World.drew _) _ (by kernel_rfl) (by kernel_rfl) (row4 w _ _ _ _ _))) rfl ⟨rfl,(below4 w _ _ _ _).drew⟩
theorem groups_69:GrpR 69:=fun w=>by
 go_enter Tryz.func137,Tryz.ntmps137;go_wp2_with (go_at_call 136; refine (of_any _ _).mono ?_; rintro e w9 ⟨rfl,rfl⟩)
 all_goals exact bodyPost_ret (results_cell_tmp rfl rfl (load_row _ (by kernel_rfl) (by kernel_rfl) (row4 w _ _ _ _ _))) rfl ⟨rfl,below4 w _ _ _ _⟩
theorem groups_71:GrpR 71:=fun w=>by
 go_enter Tryz.func137,Tryz.ntmps137;go_wp2_with (go_at_call 136; refine (of_any _ _).mono ?_; rintro e w9 ⟨rfl,rfl⟩)
 all_goals exact bodyPost_ret (results_cell_tmp rfl rfl (load_row _ (by kernel_rfl) (by kernel_rfl) (row4 w _ _ _ _ _))) rfl ⟨rfl,below4 w _ _ _ _⟩
theorem groups_no (op:Int) (w:World) (h3:(op == 3)=false) (h4:(op == 4)=false) (h5:(op == 5)=false) (h6:(op == 6)=false) (h7:(op == 7)=false) (h8:(op == 8)=false) (h9:(op == 9)=false) (h10:(op == 10)=false) (h11:(op == 11)=false) (h2:(op == 2)=false) (h12:(op == 12)=false) (h16:(op == 16)=false) (h20:(op == 20)=false) (h21:(op == 21)=false) (h40:(op == 40)=false) (h41:(op == 41)=false) (h43:(op == 43)=false) (h18:(op == 18)=false) (h19:(op == 19)=false) (h37:(op == 37)=false) (h38:(op == 38)=false) (h39:(op == 39)=false) (h50:(op == 50)=false) (h52:(op == 52)=false) (h53:(op == 53)=false) (h54:(op == 54)=false) (h55:(op == 55)=false) (h56:(op == 56)=false) (h57:(op == 57)=false) (h58:(op == 58)=false) (h59:(op == 59)=false) (h60:(op == 60)=false) (h62:(op == 62)=false) (h69:(op == 69)=false) (h71:(op == 71)=false):Calls Tryz.prog 137 #[.int .i64 op] w (Ret (shapeV (look grpTab op)) w):=by
 go_enter Tryz.func137,Tryz.ntmps137;go_wp2_with fail;have hn:look grpTab op=none:=by simp only [look,grpTab,List.find?,h3,h4,h5,h6,h7,h8,h9,h10,h11,h2,h12,h16,h20,h21,h40,h41,h43,h18,h19,h37,h38,h39,h50,h52,h53,h54,h55,h56,h57,h58,h59,h60,h62,h69,h71]; rfl
 rw [hn];exact bodyPost_ret (results_cell_tmp rfl rfl (load_row _ (by kernel_rfl) (by kernel_rfl) (row3 w _ _ _ _))) rfl ⟨rfl,below3 w _ _ _⟩
theorem groups_any (op:Int) (w:World):Calls Tryz.prog 137 #[.int .i64 op] w (Ret (shapeV (look grpTab op)) w):=by
 by_cases h3:op=3
 ·subst h3; exact groups_3 w
 by_cases h4:op=4
 ·subst h4; exact groups_4 w
 by_cases h5:op=5
 ·subst h5; exact groups_5 w
 by_cases h6:op=6
 ·subst h6; exact groups_6 w
 by_cases h7:op=7
 ·subst h7; exact groups_7 w
 by_cases h8:op=8
 ·subst h8; exact groups_8 w
 by_cases h9:op=9
 ·subst h9; exact groups_9 w
 by_cases h10:op=10
 ·subst h10; exact groups_10 w
 by_cases h11:op=11
 ·subst h11; exact groups_11 w
 by_cases h2:op=2
 ·subst h2; exact groups_2 w
 by_cases h12:op=12
 ·subst h12; exact groups_12 w
 by_cases h16:op=16
 ·subst h16; exact groups_16 w
 by_cases h20:op=20
 ·subst h20; exact groups_20 w
 by_cases h21:op=21
 ·subst h21; exact groups_21 w
 by_cases h40:op=40
 ·subst h40; exact groups_40 w
 by_cases h41:op=41
 ·subst h41; exact groups_41 w
 by_cases h43:op=43
 ·subst h43; exact groups_43 w
 by_cases h18:op=18
 ·subst h18; exact groups_18 w
 by_cases h19:op=19
 ·subst h19; exact groups_19 w
 by_cases h37:op=37
 ·subst h37; exact groups_37 w
 by_cases h38:op=38
 ·subst h38; exact groups_38 w
 by_cases h39:op=39
 ·subst h39; exact groups_39 w
 by_cases h50:op=50
 ·subst h50; exact groups_50 w
 by_cases h52:op=52
 ·subst h52; exact groups_52 w
 by_cases h53:op=53
 ·subst h53; exact groups_53 w
 by_cases h54:op=54
 ·subst h54; exact groups_54 w
 by_cases h55:op=55
 ·subst h55; exact groups_55 w
 by_cases h56:op=56
 ·subst h56; exact groups_56 w
 by_cases h57:op=57
 ·subst h57; exact groups_57 w
 by_cases h58:op=58
 ·subst h58; exact groups_58 w
 by_cases h59:op=59
 ·subst h59; exact groups_59 w
 by_cases h60:op=60
 ·subst h60; exact groups_60 w
 by_cases h62:op=62
 ·subst h62; exact groups_62 w
 by_cases h69:op=69
 ·subst h69; exact groups_69 w
 by_cases h71:op=71
 ·subst h71; exact groups_71 w
 exact groups_no op w (beq_eq_false_iff_ne.2 h3) (beq_eq_false_iff_ne.2 h4) (beq_eq_false_iff_ne.2 h5) (beq_eq_false_iff_ne.2 h6) (beq_eq_false_iff_ne.2 h7) (beq_eq_false_iff_ne.2 h8) (beq_eq_false_iff_ne.2 h9) (beq_eq_false_iff_ne.2 h10) (beq_eq_false_iff_ne.2 h11) (beq_eq_false_iff_ne.2 h2) (beq_eq_false_iff_ne.2 h12) (beq_eq_false_iff_ne.2 h16) (beq_eq_false_iff_ne.2 h20) (beq_eq_false_iff_ne.2 h21) (beq_eq_false_iff_ne.2 h40) (beq_eq_false_iff_ne.2 h41) (beq_eq_false_iff_ne.2 h43) (beq_eq_false_iff_ne.2 h18) (beq_eq_false_iff_ne.2 h19) (beq_eq_false_iff_ne.2 h37) (beq_eq_false_iff_ne.2 h38) (beq_eq_false_iff_ne.2 h39) (beq_eq_false_iff_ne.2 h50) (beq_eq_false_iff_ne.2 h52) (beq_eq_false_iff_ne.2 h53) (beq_eq_false_iff_ne.2 h54) (beq_eq_false_iff_ne.2 h55) (beq_eq_false_iff_ne.2 h56) (beq_eq_false_iff_ne.2 h57) (beq_eq_false_iff_ne.2 h58) (beq_eq_false_iff_ne.2 h59) (beq_eq_false_iff_ne.2 h60) (beq_eq_false_iff_ne.2 h62) (beq_eq_false_iff_ne.2 h69) (beq_eq_false_iff_ne.2 h71)
end Go.Proofs.YtkpjdanfpolimaaGreat
