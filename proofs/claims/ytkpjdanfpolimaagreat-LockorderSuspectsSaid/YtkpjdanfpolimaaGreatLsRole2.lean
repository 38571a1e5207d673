/- ref13.roles at single operations, walked. Conditions: none. -/
import Derived.Test.YtkpjdanfpolimaaGreatLsShp
set_option maxRecDepth 100000
set_option maxHeartbeats 1600000
namespace Go.Proofs.YtkpjdanfpolimaaGreat
open Go.RowKit
theorem role_26 (w : World) : Calls Tryz.prog 95 #[.int .i64 26] w (Ret (.string ⟨(roleF 26).toArray⟩) w) := by
 go_enter Tryz.func95, Tryz.ntmps95
 go_wp2_with fail
 go_ret
 exact ⟨rfl, Below.refl _ _⟩
theorem role_27 (w : World) : Calls Tryz.prog 95 #[.int .i64 27] w (Ret (.string ⟨(roleF 27).toArray⟩) w) := by
 go_enter Tryz.func95, Tryz.ntmps95
 go_wp2_with fail
 go_ret
 exact ⟨rfl, Below.refl _ _⟩
theorem role_28 (w : World) : Calls Tryz.prog 95 #[.int .i64 28] w (Ret (.string ⟨(roleF 28).toArray⟩) w) := by
 go_enter Tryz.func95, Tryz.ntmps95
 go_wp2_with fail
 go_ret
 exact ⟨rfl, Below.refl _ _⟩
theorem role_29 (w : World) : Calls Tryz.prog 95 #[.int .i64 29] w (Ret (.string ⟨(roleF 29).toArray⟩) w) := by
 go_enter Tryz.func95, Tryz.ntmps95
 go_wp2_with fail
 go_ret
 exact ⟨rfl, Below.refl _ _⟩
theorem role_30 (w : World) : Calls Tryz.prog 95 #[.int .i64 30] w (Ret (.string ⟨(roleF 30).toArray⟩) w) := by
 go_enter Tryz.func95, Tryz.ntmps95
 go_wp2_with fail
 go_ret
 exact ⟨rfl, Below.refl _ _⟩
theorem role_31 (w : World) : Calls Tryz.prog 95 #[.int .i64 31] w (Ret (.string ⟨(roleF 31).toArray⟩) w) := by
 go_enter Tryz.func95, Tryz.ntmps95
 go_wp2_with fail
 go_ret
 exact ⟨rfl, Below.refl _ _⟩
theorem role_32 (w : World) : Calls Tryz.prog 95 #[.int .i64 32] w (Ret (.string ⟨(roleF 32).toArray⟩) w) := by
 go_enter Tryz.func95, Tryz.ntmps95
 go_wp2_with fail
 go_ret
 exact ⟨rfl, Below.refl _ _⟩
theorem role_33 (w : World) : Calls Tryz.prog 95 #[.int .i64 33] w (Ret (.string ⟨(roleF 33).toArray⟩) w) := by
 go_enter Tryz.func95, Tryz.ntmps95
 go_wp2_with fail
 go_ret
 exact ⟨rfl, Below.refl _ _⟩
theorem role_34 (w : World) : Calls Tryz.prog 95 #[.int .i64 34] w (Ret (.string ⟨(roleF 34).toArray⟩) w) := by
 go_enter Tryz.func95, Tryz.ntmps95
 go_wp2_with fail
 go_ret
 exact ⟨rfl, Below.refl _ _⟩
theorem role_35 (w : World) : Calls Tryz.prog 95 #[.int .i64 35] w (Ret (.string ⟨(roleF 35).toArray⟩) w) := by
 go_enter Tryz.func95, Tryz.ntmps95
 go_wp2_with fail
 go_ret
 exact ⟨rfl, Below.refl _ _⟩
theorem role_36 (w : World) : Calls Tryz.prog 95 #[.int .i64 36] w (Ret (.string ⟨(roleF 36).toArray⟩) w) := by
 go_enter Tryz.func95, Tryz.ntmps95
 go_wp2_with fail
 go_ret
 exact ⟨rfl, Below.refl _ _⟩
theorem role_37 (w : World) : Calls Tryz.prog 95 #[.int .i64 37] w (Ret (.string ⟨(roleF 37).toArray⟩) w) := by
 go_enter Tryz.func95, Tryz.ntmps95
 go_wp2_with fail
 go_ret
 exact ⟨rfl, Below.refl _ _⟩
theorem role_38 (w : World) : Calls Tryz.prog 95 #[.int .i64 38] w (Ret (.string ⟨(roleF 38).toArray⟩) w) := by
 go_enter Tryz.func95, Tryz.ntmps95
 go_wp2_with fail
 go_ret
 exact ⟨rfl, Below.refl _ _⟩
theorem role_39 (w : World) : Calls Tryz.prog 95 #[.int .i64 39] w (Ret (.string ⟨(roleF 39).toArray⟩) w) := by
 go_enter Tryz.func95, Tryz.ntmps95
 go_wp2_with fail
 go_ret
 exact ⟨rfl, Below.refl _ _⟩
theorem role_40 (w : World) : Calls Tryz.prog 95 #[.int .i64 40] w (Ret (.string ⟨(roleF 40).toArray⟩) w) := by
 go_enter Tryz.func95, Tryz.ntmps95
 go_wp2_with fail
 go_ret
 exact ⟨rfl, Below.refl _ _⟩
theorem role_41 (w : World) : Calls Tryz.prog 95 #[.int .i64 41] w (Ret (.string ⟨(roleF 41).toArray⟩) w) := by
 go_enter Tryz.func95, Tryz.ntmps95
 go_wp2_with fail
 go_ret
 exact ⟨rfl, Below.refl _ _⟩
theorem role_42 (w : World) : Calls Tryz.prog 95 #[.int .i64 42] w (Ret (.string ⟨(roleF 42).toArray⟩) w) := by
 go_enter Tryz.func95, Tryz.ntmps95
 go_wp2_with fail
 go_ret
 exact ⟨rfl, Below.refl _ _⟩
theorem role_43 (w : World) : Calls Tryz.prog 95 #[.int .i64 43] w (Ret (.string ⟨(roleF 43).toArray⟩) w) := by
 go_enter Tryz.func95, Tryz.ntmps95
 go_wp2_with fail
 go_ret
 exact ⟨rfl, Below.refl _ _⟩
theorem role_44 (w : World) : Calls Tryz.prog 95 #[.int .i64 44] w (Ret (.string ⟨(roleF 44).toArray⟩) w) := by
 go_enter Tryz.func95, Tryz.ntmps95
 go_wp2_with fail
 go_ret
 exact ⟨rfl, Below.refl _ _⟩
theorem role_45 (w : World) : Calls Tryz.prog 95 #[.int .i64 45] w (Ret (.string ⟨(roleF 45).toArray⟩) w) := by
 go_enter Tryz.func95, Tryz.ntmps95
 go_wp2_with fail
 go_ret
 exact ⟨rfl, Below.refl _ _⟩
theorem role_46 (w : World) : Calls Tryz.prog 95 #[.int .i64 46] w (Ret (.string ⟨(roleF 46).toArray⟩) w) := by
 go_enter Tryz.func95, Tryz.ntmps95
 go_wp2_with fail
 go_ret
 exact ⟨rfl, Below.refl _ _⟩
theorem role_47 (w : World) : Calls Tryz.prog 95 #[.int .i64 47] w (Ret (.string ⟨(roleF 47).toArray⟩) w) := by
 go_enter Tryz.func95, Tryz.ntmps95
 go_wp2_with fail
 go_ret
 exact ⟨rfl, Below.refl _ _⟩
theorem role_48 (w : World) : Calls Tryz.prog 95 #[.int .i64 48] w (Ret (.string ⟨(roleF 48).toArray⟩) w) := by
 go_enter Tryz.func95, Tryz.ntmps95
 go_wp2_with fail
 go_ret
 exact ⟨rfl, Below.refl _ _⟩
theorem role_49 (w : World) : Calls Tryz.prog 95 #[.int .i64 49] w (Ret (.string ⟨(roleF 49).toArray⟩) w) := by
 go_enter Tryz.func95, Tryz.ntmps95
 go_wp2_with fail
 go_ret
 exact ⟨rfl, Below.refl _ _⟩
theorem role_50 (w : World) : Calls Tryz.prog 95 #[.int .i64 50] w (Ret (.string ⟨(roleF 50).toArray⟩) w) := by
 go_enter Tryz.func95, Tryz.ntmps95
 go_wp2_with fail
 go_ret
 exact ⟨rfl, Below.refl _ _⟩
end Go.Proofs.YtkpjdanfpolimaaGreat
