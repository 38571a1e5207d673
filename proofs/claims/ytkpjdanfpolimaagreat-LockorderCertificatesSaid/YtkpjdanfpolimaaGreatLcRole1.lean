/- ref13.roles at single operations, walked. Conditions: none. -/
import Derived.Test.YtkpjdanfpolimaaGreatLcShp
set_option maxRecDepth 100000
set_option maxHeartbeats 1600000
namespace Go.Proofs.YtkpjdanfpolimaaGreat
open Go.RowKit
theorem role_0:RoleR 0:=fun w=>by
 go_enter Tryz.func95,Tryz.ntmps95;go_wp2_with fail;go_ret;exact ⟨rfl,Below.refl _ _⟩
theorem role_1:RoleR 1:=fun w=>by
 go_enter Tryz.func95,Tryz.ntmps95;go_wp2_with fail;go_ret;exact ⟨rfl,Below.refl _ _⟩
theorem role_2:RoleR 2:=fun w=>by
 go_enter Tryz.func95,Tryz.ntmps95;go_wp2_with fail;go_ret;exact ⟨rfl,Below.refl _ _⟩
theorem role_3:RoleR 3:=fun w=>by
 go_enter Tryz.func95,Tryz.ntmps95;go_wp2_with fail;go_ret;exact ⟨rfl,Below.refl _ _⟩
theorem role_4:RoleR 4:=fun w=>by
 go_enter Tryz.func95,Tryz.ntmps95;go_wp2_with fail;go_ret;exact ⟨rfl,Below.refl _ _⟩
theorem role_5:RoleR 5:=fun w=>by
 go_enter Tryz.func95,Tryz.ntmps95;go_wp2_with fail;go_ret;exact ⟨rfl,Below.refl _ _⟩
theorem role_6:RoleR 6:=fun w=>by
 go_enter Tryz.func95,Tryz.ntmps95;go_wp2_with fail;go_ret;exact ⟨rfl,Below.refl _ _⟩
theorem role_7:RoleR 7:=fun w=>by
 go_enter Tryz.func95,Tryz.ntmps95;go_wp2_with fail;go_ret;exact ⟨rfl,Below.refl _ _⟩
theorem role_8:RoleR 8:=fun w=>by
 go_enter Tryz.func95,Tryz.ntmps95;go_wp2_with fail;go_ret;exact ⟨rfl,Below.refl _ _⟩
theorem role_9:RoleR 9:=fun w=>by
 go_enter Tryz.func95,Tryz.ntmps95;go_wp2_with fail;go_ret;exact ⟨rfl,Below.refl _ _⟩
theorem role_10:RoleR 10:=fun w=>by
 go_enter Tryz.func95,Tryz.ntmps95;go_wp2_with fail;go_ret;exact ⟨rfl,Below.refl _ _⟩
theorem role_11:RoleR 11:=fun w=>by
 go_enter Tryz.func95,Tryz.ntmps95;go_wp2_with fail;go_ret;exact ⟨rfl,Below.refl _ _⟩
theorem role_12:RoleR 12:=fun w=>by
 go_enter Tryz.func95,Tryz.ntmps95;go_wp2_with fail;go_ret;exact ⟨rfl,Below.refl _ _⟩
theorem role_13:RoleR 13:=fun w=>by
 go_enter Tryz.func95,Tryz.ntmps95;go_wp2_with fail;go_ret;exact ⟨rfl,Below.refl _ _⟩
theorem role_14:RoleR 14:=fun w=>by
 go_enter Tryz.func95,Tryz.ntmps95;go_wp2_with fail;go_ret;exact ⟨rfl,Below.refl _ _⟩
theorem role_15:RoleR 15:=fun w=>by
 go_enter Tryz.func95,Tryz.ntmps95;go_wp2_with fail;go_ret;exact ⟨rfl,Below.refl _ _⟩
theorem role_16:RoleR 16:=fun w=>by
 go_enter Tryz.func95,Tryz.ntmps95;go_wp2_with fail;go_ret;exact ⟨rfl,Below.refl _ _⟩
theorem role_17:RoleR 17:=fun w=>by
 go_enter Tryz.func95,Tryz.ntmps95;go_wp2_with fail;go_ret;exact ⟨rfl,Below.refl _ _⟩
theorem role_18:RoleR 18:=fun w=>by
 go_enter Tryz.func95,Tryz.ntmps95;go_wp2_with fail;go_ret;exact ⟨rfl,Below.refl _ _⟩
theorem role_19:RoleR 19:=fun w=>by
 go_enter Tryz.func95,Tryz.ntmps95;go_wp2_with fail;go_ret;exact ⟨rfl,Below.refl _ _⟩
theorem role_20:RoleR 20:=fun w=>by
 go_enter Tryz.func95,Tryz.ntmps95;go_wp2_with fail;go_ret;exact ⟨rfl,Below.refl _ _⟩
theorem role_21:RoleR 21:=fun w=>by
 go_enter Tryz.func95,Tryz.ntmps95;go_wp2_with fail;go_ret;exact ⟨rfl,Below.refl _ _⟩
theorem role_22:RoleR 22:=fun w=>by
 go_enter Tryz.func95,Tryz.ntmps95;go_wp2_with fail;go_ret;exact ⟨rfl,Below.refl _ _⟩
theorem role_23:RoleR 23:=fun w=>by
 go_enter Tryz.func95,Tryz.ntmps95;go_wp2_with fail;go_ret;exact ⟨rfl,Below.refl _ _⟩
theorem role_24:RoleR 24:=fun w=>by
 go_enter Tryz.func95,Tryz.ntmps95;go_wp2_with fail;go_ret;exact ⟨rfl,Below.refl _ _⟩
theorem role_25:RoleR 25:=fun w=>by
 go_enter Tryz.func95,Tryz.ntmps95;go_wp2_with fail;go_ret;exact ⟨rfl,Below.refl _ _⟩
end Go.Proofs.YtkpjdanfpolimaaGreat
