/- ref13.roles at single operations, walked. Conditions: none. -/
import Derived.Test.YtkpjdanfpolimaaGreatLsShp
set_option maxRecDepth 100000
set_option maxHeartbeats 1600000
namespace Go.Proofs.YtkpjdanfpolimaaGreat
open Go.RowKit
theorem role_51 (w : World) : Calls Tryz.prog 95 #[.int .i64 51] w (Ret (.string ⟨(roleF 51).toArray⟩) w) := by
 go_enter Tryz.func95, Tryz.ntmps95
 go_wp2_with fail
 go_ret
 exact ⟨rfl, Below.refl _ _⟩
theorem role_52 (w : World) : Calls Tryz.prog 95 #[.int .i64 52] w (Ret (.string ⟨(roleF 52).toArray⟩) w) := by
 go_enter Tryz.func95, Tryz.ntmps95
 go_wp2_with fail
 go_ret
 exact ⟨rfl, Below.refl _ _⟩
theorem role_53 (w : World) : Calls Tryz.prog 95 #[.int .i64 53] w (Ret (.string ⟨(roleF 53).toArray⟩) w) := by
 go_enter Tryz.func95, Tryz.ntmps95
 go_wp2_with fail
 go_ret
 exact ⟨rfl, Below.refl _ _⟩
theorem role_54 (w : World) : Calls Tryz.prog 95 #[.int .i64 54] w (Ret (.string ⟨(roleF 54).toArray⟩) w) := by
 go_enter Tryz.func95, Tryz.ntmps95
 go_wp2_with fail
 go_ret
 exact ⟨rfl, Below.refl _ _⟩
theorem role_55 (w : World) : Calls Tryz.prog 95 #[.int .i64 55] w (Ret (.string ⟨(roleF 55).toArray⟩) w) := by
 go_enter Tryz.func95, Tryz.ntmps95
 go_wp2_with fail
 go_ret
 exact ⟨rfl, Below.refl _ _⟩
theorem role_56 (w : World) : Calls Tryz.prog 95 #[.int .i64 56] w (Ret (.string ⟨(roleF 56).toArray⟩) w) := by
 go_enter Tryz.func95, Tryz.ntmps95
 go_wp2_with fail
 go_ret
 exact ⟨rfl, Below.refl _ _⟩
theorem role_57 (w : World) : Calls Tryz.prog 95 #[.int .i64 57] w (Ret (.string ⟨(roleF 57).toArray⟩) w) := by
 go_enter Tryz.func95, Tryz.ntmps95
 go_wp2_with fail
 go_ret
 exact ⟨rfl, Below.refl _ _⟩
theorem role_58 (w : World) : Calls Tryz.prog 95 #[.int .i64 58] w (Ret (.string ⟨(roleF 58).toArray⟩) w) := by
 go_enter Tryz.func95, Tryz.ntmps95
 go_wp2_with fail
 go_ret
 exact ⟨rfl, Below.refl _ _⟩
theorem role_59 (w : World) : Calls Tryz.prog 95 #[.int .i64 59] w (Ret (.string ⟨(roleF 59).toArray⟩) w) := by
 go_enter Tryz.func95, Tryz.ntmps95
 go_wp2_with fail
 go_ret
 exact ⟨rfl, Below.refl _ _⟩
theorem role_60 (w : World) : Calls Tryz.prog 95 #[.int .i64 60] w (Ret (.string ⟨(roleF 60).toArray⟩) w) := by
 go_enter Tryz.func95, Tryz.ntmps95
 go_wp2_with fail
 go_ret
 exact ⟨rfl, Below.refl _ _⟩
theorem role_61 (w : World) : Calls Tryz.prog 95 #[.int .i64 61] w (Ret (.string ⟨(roleF 61).toArray⟩) w) := by
 go_enter Tryz.func95, Tryz.ntmps95
 go_wp2_with fail
 go_ret
 exact ⟨rfl, Below.refl _ _⟩
theorem role_62 (w : World) : Calls Tryz.prog 95 #[.int .i64 62] w (Ret (.string ⟨(roleF 62).toArray⟩) w) := by
 go_enter Tryz.func95, Tryz.ntmps95
 go_wp2_with fail
 go_ret
 exact ⟨rfl, Below.refl _ _⟩
theorem role_63 (w : World) : Calls Tryz.prog 95 #[.int .i64 63] w (Ret (.string ⟨(roleF 63).toArray⟩) w) := by
 go_enter Tryz.func95, Tryz.ntmps95
 go_wp2_with fail
 go_ret
 exact ⟨rfl, Below.refl _ _⟩
theorem role_64 (w : World) : Calls Tryz.prog 95 #[.int .i64 64] w (Ret (.string ⟨(roleF 64).toArray⟩) w) := by
 go_enter Tryz.func95, Tryz.ntmps95
 go_wp2_with fail
 go_ret
 exact ⟨rfl, Below.refl _ _⟩
theorem role_65 (w : World) : Calls Tryz.prog 95 #[.int .i64 65] w (Ret (.string ⟨(roleF 65).toArray⟩) w) := by
 go_enter Tryz.func95, Tryz.ntmps95
 go_wp2_with fail
 go_ret
 exact ⟨rfl, Below.refl _ _⟩
theorem role_66 (w : World) : Calls Tryz.prog 95 #[.int .i64 66] w (Ret (.string ⟨(roleF 66).toArray⟩) w) := by
 go_enter Tryz.func95, Tryz.ntmps95
 go_wp2_with fail
 go_ret
 exact ⟨rfl, Below.refl _ _⟩
theorem role_67 (w : World) : Calls Tryz.prog 95 #[.int .i64 67] w (Ret (.string ⟨(roleF 67).toArray⟩) w) := by
 go_enter Tryz.func95, Tryz.ntmps95
 go_wp2_with fail
 go_ret
 exact ⟨rfl, Below.refl _ _⟩
theorem role_68 (w : World) : Calls Tryz.prog 95 #[.int .i64 68] w (Ret (.string ⟨(roleF 68).toArray⟩) w) := by
 go_enter Tryz.func95, Tryz.ntmps95
 go_wp2_with fail
 go_ret
 exact ⟨rfl, Below.refl _ _⟩
theorem role_69 (w : World) : Calls Tryz.prog 95 #[.int .i64 69] w (Ret (.string ⟨(roleF 69).toArray⟩) w) := by
 go_enter Tryz.func95, Tryz.ntmps95
 go_wp2_with fail
 go_ret
 exact ⟨rfl, Below.refl _ _⟩
theorem role_70 (w : World) : Calls Tryz.prog 95 #[.int .i64 70] w (Ret (.string ⟨(roleF 70).toArray⟩) w) := by
 go_enter Tryz.func95, Tryz.ntmps95
 go_wp2_with fail
 go_ret
 exact ⟨rfl, Below.refl _ _⟩
theorem role_71 (w : World) : Calls Tryz.prog 95 #[.int .i64 71] w (Ret (.string ⟨(roleF 71).toArray⟩) w) := by
 go_enter Tryz.func95, Tryz.ntmps95
 go_wp2_with fail
 go_ret
 exact ⟨rfl, Below.refl _ _⟩
theorem role_72 (w : World) : Calls Tryz.prog 95 #[.int .i64 72] w (Ret (.string ⟨(roleF 72).toArray⟩) w) := by
 go_enter Tryz.func95, Tryz.ntmps95
 go_wp2_with fail
 go_ret
 exact ⟨rfl, Below.refl _ _⟩
theorem role_73 (w : World) : Calls Tryz.prog 95 #[.int .i64 73] w (Ret (.string ⟨(roleF 73).toArray⟩) w) := by
 go_enter Tryz.func95, Tryz.ntmps95
 go_wp2_with fail
 go_ret
 exact ⟨rfl, Below.refl _ _⟩
theorem role_74 (w : World) : Calls Tryz.prog 95 #[.int .i64 74] w (Ret (.string ⟨(roleF 74).toArray⟩) w) := by
 go_enter Tryz.func95, Tryz.ntmps95
 go_wp2_with fail
 go_ret
 exact ⟨rfl, Below.refl _ _⟩
theorem role_75 (w : World) : Calls Tryz.prog 95 #[.int .i64 75] w (Ret (.string ⟨(roleF 75).toArray⟩) w) := by
 go_enter Tryz.func95, Tryz.ntmps95
 go_wp2_with fail
 go_ret
 exact ⟨rfl, Below.refl _ _⟩
end Go.Proofs.YtkpjdanfpolimaaGreat
