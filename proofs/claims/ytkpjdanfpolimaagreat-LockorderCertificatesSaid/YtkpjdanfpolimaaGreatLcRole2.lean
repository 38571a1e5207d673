/- ref13.roles at single operations, walked. Conditions: none. -/
import Derived.Test.YtkpjdanfpolimaaGreatLcShp
set_option maxRecDepth 100000
set_option maxHeartbeats 1600000
namespace Go.Proofs.YtkpjdanfpolimaaGreat
open Go.RowKit
theorem role_26:RoleR 26:=fun w=>by
 go_enter Tryz.func95,Tryz.ntmps95;go_wp2_with fail;go_ret;exact ⟨rfl,Below.refl _ _⟩
theorem role_27:RoleR 27:=fun w=>by
 go_enter Tryz.func95,Tryz.ntmps95;go_wp2_with fail;go_ret;exact ⟨rfl,Below.refl _ _⟩
theorem role_28:RoleR 28:=fun w=>by
 go_enter Tryz.func95,Tryz.ntmps95;go_wp2_with fail;go_ret;exact ⟨rfl,Below.refl _ _⟩
theorem role_29:RoleR 29:=fun w=>by
 go_enter Tryz.func95,Tryz.ntmps95;go_wp2_with fail;go_ret;exact ⟨rfl,Below.refl _ _⟩
theorem role_30:RoleR 30:=fun w=>by
 go_enter Tryz.func95,Tryz.ntmps95;go_wp2_with fail;go_ret;exact ⟨rfl,Below.refl _ _⟩
theorem role_31:RoleR 31:=fun w=>by
 go_enter Tryz.func95,Tryz.ntmps95;go_wp2_with fail;go_ret;exact ⟨rfl,Below.refl _ _⟩
theorem role_32:RoleR 32:=fun w=>by
 go_enter Tryz.func95,Tryz.ntmps95;go_wp2_with fail;go_ret;exact ⟨rfl,Below.refl _ _⟩
theorem role_33:RoleR 33:=fun w=>by
 go_enter Tryz.func95,Tryz.ntmps95;go_wp2_with fail;go_ret;exact ⟨rfl,Below.refl _ _⟩
theorem role_34:RoleR 34:=fun w=>by
 go_enter Tryz.func95,Tryz.ntmps95;go_wp2_with fail;go_ret;exact ⟨rfl,Below.refl _ _⟩
theorem role_35:RoleR 35:=fun w=>by
 go_enter Tryz.func95,Tryz.ntmps95;go_wp2_with fail;go_ret;exact ⟨rfl,Below.refl _ _⟩
theorem role_36:RoleR 36:=fun w=>by
 go_enter Tryz.func95,Tryz.ntmps95;go_wp2_with fail;go_ret;exact ⟨rfl,Below.refl _ _⟩
theorem role_37:RoleR 37:=fun w=>by
 go_enter Tryz.func95,Tryz.ntmps95;go_wp2_with fail;go_ret;exact ⟨rfl,Below.refl _ _⟩
theorem role_38:RoleR 38:=fun w=>by
 go_enter Tryz.func95,Tryz.ntmps95;go_wp2_with fail;go_ret;exact ⟨rfl,Below.refl _ _⟩
theorem role_39:RoleR 39:=fun w=>by
 go_enter Tryz.func95,Tryz.ntmps95;go_wp2_with fail;go_ret;exact ⟨rfl,Below.refl _ _⟩
theorem role_40:RoleR 40:=fun w=>by
 go_enter Tryz.func95,Tryz.ntmps95;go_wp2_with fail;go_ret;exact ⟨rfl,Below.refl _ _⟩
theorem role_41:RoleR 41:=fun w=>by
 go_enter Tryz.func95,Tryz.ntmps95;go_wp2_with fail;go_ret;exact ⟨rfl,Below.refl _ _⟩
theorem role_42:RoleR 42:=fun w=>by
 go_enter Tryz.func95,Tryz.ntmps95;go_wp2_with fail;go_ret;exact ⟨rfl,Below.refl _ _⟩
theorem role_43:RoleR 43:=fun w=>by
 go_enter Tryz.func95,Tryz.ntmps95;go_wp2_with fail;go_ret;exact ⟨rfl,Below.refl _ _⟩
theorem role_44:RoleR 44:=fun w=>by
 go_enter Tryz.func95,Tryz.ntmps95;go_wp2_with fail;go_ret;exact ⟨rfl,Below.refl _ _⟩
theorem role_45:RoleR 45:=fun w=>by
 go_enter Tryz.func95,Tryz.ntmps95;go_wp2_with fail;go_ret;exact ⟨rfl,Below.refl _ _⟩
theorem role_46:RoleR 46:=fun w=>by
 go_enter Tryz.func95,Tryz.ntmps95;go_wp2_with fail;go_ret;exact ⟨rfl,Below.refl _ _⟩
theorem role_47:RoleR 47:=fun w=>by
 go_enter Tryz.func95,Tryz.ntmps95;go_wp2_with fail;go_ret;exact ⟨rfl,Below.refl _ _⟩
theorem role_48:RoleR 48:=fun w=>by
 go_enter Tryz.func95,Tryz.ntmps95;go_wp2_with fail;go_ret;exact ⟨rfl,Below.refl _ _⟩
theorem role_49:RoleR 49:=fun w=>by
 go_enter Tryz.func95,Tryz.ntmps95;go_wp2_with fail;go_ret;exact ⟨rfl,Below.refl _ _⟩
theorem role_50:RoleR 50:=fun w=>by
 go_enter Tryz.func95,Tryz.ntmps95;go_wp2_with fail;go_ret;exact ⟨rfl,Below.refl _ _⟩
end Go.Proofs.YtkpjdanfpolimaaGreat
