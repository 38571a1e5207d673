/- ref13.roles at single operations, walked. Conditions: none. -/
import Derived.Test.YtkpjdanfpolimaaGreatLcShp
set_option maxRecDepth 100000
set_option maxHeartbeats 1600000
namespace Go.Proofs.YtkpjdanfpolimaaGreat
open Go.RowKit
theorem role_51:RoleR 51:=fun w=>by
 go_enter Tryz.func95,Tryz.ntmps95;go_wp2_with fail;go_ret;exact ⟨rfl,Below.refl _ _⟩
theorem role_52:RoleR 52:=fun w=>by
 go_enter Tryz.func95,Tryz.ntmps95;go_wp2_with fail;go_ret;exact ⟨rfl,Below.refl _ _⟩
theorem role_53:RoleR 53:=fun w=>by
 go_enter Tryz.func95,Tryz.ntmps95;go_wp2_with fail;go_ret;exact ⟨rfl,Below.refl _ _⟩
theorem role_54:RoleR 54:=fun w=>by
 go_enter Tryz.func95,Tryz.ntmps95;go_wp2_with fail;go_ret;exact ⟨rfl,Below.refl _ _⟩
theorem role_55:RoleR 55:=fun w=>by
 go_enter Tryz.func95,Tryz.ntmps95;go_wp2_with fail;go_ret;exact ⟨rfl,Below.refl _ _⟩
theorem role_56:RoleR 56:=fun w=>by
 go_enter Tryz.func95,Tryz.ntmps95;go_wp2_with fail;go_ret;exact ⟨rfl,Below.refl _ _⟩
theorem role_57:RoleR 57:=fun w=>by
 go_enter Tryz.func95,Tryz.ntmps95;go_wp2_with fail;go_ret;exact ⟨rfl,Below.refl _ _⟩
theorem role_58:RoleR 58:=fun w=>by
 go_enter Tryz.func95,Tryz.ntmps95;go_wp2_with fail;go_ret;exact ⟨rfl,Below.refl _ _⟩
theorem role_59:RoleR 59:=fun w=>by
 go_enter Tryz.func95,Tryz.ntmps95;go_wp2_with fail;go_ret;exact ⟨rfl,Below.refl _ _⟩
theorem role_60:RoleR 60:=fun w=>by
 go_enter Tryz.func95,Tryz.ntmps95;go_wp2_with fail;go_ret;exact ⟨rfl,Below.refl _ _⟩
theorem role_61:RoleR 61:=fun w=>by
 go_enter Tryz.func95,Tryz.ntmps95;go_wp2_with fail;go_ret;exact ⟨rfl,Below.refl _ _⟩
theorem role_62:RoleR 62:=fun w=>by
 go_enter Tryz.func95,Tryz.ntmps95;go_wp2_with fail;go_ret;exact ⟨rfl,Below.refl _ _⟩
theorem role_63:RoleR 63:=fun w=>by
 go_enter Tryz.func95,Tryz.ntmps95;go_wp2_with fail;go_ret;exact ⟨rfl,Below.refl _ _⟩
theorem role_64:RoleR 64:=fun w=>by
 go_enter Tryz.func95,Tryz.ntmps95;go_wp2_with fail;go_ret;exact ⟨rfl,Below.refl _ _⟩
theorem role_65:RoleR 65:=fun w=>by
 go_enter Tryz.func95,Tryz.ntmps95;go_wp2_with fail;go_ret;exact ⟨rfl,Below.refl _ _⟩
theorem role_66:RoleR 66:=fun w=>by
 go_enter Tryz.func95,Tryz.ntmps95;go_wp2_with fail;go_ret;exact ⟨rfl,Below.refl _ _⟩
theorem role_67:RoleR 67:=fun w=>by
 go_enter Tryz.func95,Tryz.ntmps95;go_wp2_with fail;go_ret;exact ⟨rfl,Below.refl _ _⟩
theorem role_68:RoleR 68:=fun w=>by
 go_enter Tryz.func95,Tryz.ntmps95;go_wp2_with fail;go_ret;exact ⟨rfl,Below.refl _ _⟩
theorem role_69:RoleR 69:=fun w=>by
 go_enter Tryz.func95,Tryz.ntmps95;go_wp2_with fail;go_ret;exact ⟨rfl,Below.refl _ _⟩
theorem role_70:RoleR 70:=fun w=>by
 go_enter Tryz.func95,Tryz.ntmps95;go_wp2_with fail;go_ret;exact ⟨rfl,Below.refl _ _⟩
theorem role_71:RoleR 71:=fun w=>by
 go_enter Tryz.func95,Tryz.ntmps95;go_wp2_with fail;go_ret;exact ⟨rfl,Below.refl _ _⟩
theorem role_72:RoleR 72:=fun w=>by
 go_enter Tryz.func95,Tryz.ntmps95;go_wp2_with fail;go_ret;exact ⟨rfl,Below.refl _ _⟩
theorem role_73:RoleR 73:=fun w=>by
 go_enter Tryz.func95,Tryz.ntmps95;go_wp2_with fail;go_ret;exact ⟨rfl,Below.refl _ _⟩
theorem role_74:RoleR 74:=fun w=>by
 go_enter Tryz.func95,Tryz.ntmps95;go_wp2_with fail;go_ret;exact ⟨rfl,Below.refl _ _⟩
theorem role_75:RoleR 75:=fun w=>by
 go_enter Tryz.func95,Tryz.ntmps95;go_wp2_with fail;go_ret;exact ⟨rfl,Below.refl _ _⟩
end Go.Proofs.YtkpjdanfpolimaaGreat
