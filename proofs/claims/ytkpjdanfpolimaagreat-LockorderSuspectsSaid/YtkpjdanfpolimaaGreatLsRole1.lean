/- ref13.roles at single operations, walked. Conditions: none. -/
import Derived.Test.YtkpjdanfpolimaaGreatLsShp
set_option maxRecDepth 100000
set_option maxHeartbeats 1600000
namespace Go.Proofs.YtkpjdanfpolimaaGreat
open Go.RowKit
theorem role_0 (w : World) : Calls Tryz.prog 95 #[.int .i64 0] w (Ret (.string ⟨(roleF 0).toArray⟩) w) := by
 go_enter Tryz.func95, Tryz.ntmps95
 go_wp2_with fail
 go_ret
 exact ⟨rfl, Below.refl _ _⟩
theorem role_1 (w : World) : Calls Tryz.prog 95 #[.int .i64 1] w (Ret (.string ⟨(roleF 1).toArray⟩) w) := by
 go_enter Tryz.func95, Tryz.ntmps95
 go_wp2_with fail
 go_ret
 exact ⟨rfl, Below.refl _ _⟩
theorem role_2 (w : World) : Calls Tryz.prog 95 #[.int .i64 2] w (Ret (.string ⟨(roleF 2).toArray⟩) w) := by
 go_enter Tryz.func95, Tryz.ntmps95
 go_wp2_with fail
 go_ret
 exact ⟨rfl, Below.refl _ _⟩
theorem role_3 (w : World) : Calls Tryz.prog 95 #[.int .i64 3] w (Ret (.string ⟨(roleF 3).toArray⟩) w) := by
 go_enter Tryz.func95, Tryz.ntmps95
 go_wp2_with fail
 go_ret
 exact ⟨rfl, Below.refl _ _⟩
theorem role_4 (w : World) : Calls Tryz.prog 95 #[.int .i64 4] w (Ret (.string ⟨(roleF 4).toArray⟩) w) := by
 go_enter Tryz.func95, Tryz.ntmps95
 go_wp2_with fail
 go_ret
 exact ⟨rfl, Below.refl _ _⟩
theorem role_5 (w : World) : Calls Tryz.prog 95 #[.int .i64 5] w (Ret (.string ⟨(roleF 5).toArray⟩) w) := by
 go_enter Tryz.func95, Tryz.ntmps95
 go_wp2_with fail
 go_ret
 exact ⟨rfl, Below.refl _ _⟩
theorem role_6 (w : World) : Calls Tryz.prog 95 #[.int .i64 6] w (Ret (.string ⟨(roleF 6).toArray⟩) w) := by
 go_enter Tryz.func95, Tryz.ntmps95
 go_wp2_with fail
 go_ret
 exact ⟨rfl, Below.refl _ _⟩
theorem role_7 (w : World) : Calls Tryz.prog 95 #[.int .i64 7] w (Ret (.string ⟨(roleF 7).toArray⟩) w) := by
 go_enter Tryz.func95, Tryz.ntmps95
 go_wp2_with fail
 go_ret
 exact ⟨rfl, Below.refl _ _⟩
theorem role_8 (w : World) : Calls Tryz.prog 95 #[.int .i64 8] w (Ret (.string ⟨(roleF 8).toArray⟩) w) := by
 go_enter Tryz.func95, Tryz.ntmps95
 go_wp2_with fail
 go_ret
 exact ⟨rfl, Below.refl _ _⟩
theorem role_9 (w : World) : Calls Tryz.prog 95 #[.int .i64 9] w (Ret (.string ⟨(roleF 9).toArray⟩) w) := by
 go_enter Tryz.func95, Tryz.ntmps95
 go_wp2_with fail
 go_ret
 exact ⟨rfl, Below.refl _ _⟩
theorem role_10 (w : World) : Calls Tryz.prog 95 #[.int .i64 10] w (Ret (.string ⟨(roleF 10).toArray⟩) w) := by
 go_enter Tryz.func95, Tryz.ntmps95
 go_wp2_with fail
 go_ret
 exact ⟨rfl, Below.refl _ _⟩
theorem role_11 (w : World) : Calls Tryz.prog 95 #[.int .i64 11] w (Ret (.string ⟨(roleF 11).toArray⟩) w) := by
 go_enter Tryz.func95, Tryz.ntmps95
 go_wp2_with fail
 go_ret
 exact ⟨rfl, Below.refl _ _⟩
theorem role_12 (w : World) : Calls Tryz.prog 95 #[.int .i64 12] w (Ret (.string ⟨(roleF 12).toArray⟩) w) := by
 go_enter Tryz.func95, Tryz.ntmps95
 go_wp2_with fail
 go_ret
 exact ⟨rfl, Below.refl _ _⟩
theorem role_13 (w : World) : Calls Tryz.prog 95 #[.int .i64 13] w (Ret (.string ⟨(roleF 13).toArray⟩) w) := by
 go_enter Tryz.func95, Tryz.ntmps95
 go_wp2_with fail
 go_ret
 exact ⟨rfl, Below.refl _ _⟩
theorem role_14 (w : World) : Calls Tryz.prog 95 #[.int .i64 14] w (Ret (.string ⟨(roleF 14).toArray⟩) w) := by
 go_enter Tryz.func95, Tryz.ntmps95
 go_wp2_with fail
 go_ret
 exact ⟨rfl, Below.refl _ _⟩
theorem role_15 (w : World) : Calls Tryz.prog 95 #[.int .i64 15] w (Ret (.string ⟨(roleF 15).toArray⟩) w) := by
 go_enter Tryz.func95, Tryz.ntmps95
 go_wp2_with fail
 go_ret
 exact ⟨rfl, Below.refl _ _⟩
theorem role_16 (w : World) : Calls Tryz.prog 95 #[.int .i64 16] w (Ret (.string ⟨(roleF 16).toArray⟩) w) := by
 go_enter Tryz.func95, Tryz.ntmps95
 go_wp2_with fail
 go_ret
 exact ⟨rfl, Below.refl _ _⟩
theorem role_17 (w : World) : Calls Tryz.prog 95 #[.int .i64 17] w (Ret (.string ⟨(roleF 17).toArray⟩) w) := by
 go_enter Tryz.func95, Tryz.ntmps95
 go_wp2_with fail
 go_ret
 exact ⟨rfl, Below.refl _ _⟩
theorem role_18 (w : World) : Calls Tryz.prog 95 #[.int .i64 18] w (Ret (.string ⟨(roleF 18).toArray⟩) w) := by
 go_enter Tryz.func95, Tryz.ntmps95
 go_wp2_with fail
 go_ret
 exact ⟨rfl, Below.refl _ _⟩
theorem role_19 (w : World) : Calls Tryz.prog 95 #[.int .i64 19] w (Ret (.string ⟨(roleF 19).toArray⟩) w) := by
 go_enter Tryz.func95, Tryz.ntmps95
 go_wp2_with fail
 go_ret
 exact ⟨rfl, Below.refl _ _⟩
theorem role_20 (w : World) : Calls Tryz.prog 95 #[.int .i64 20] w (Ret (.string ⟨(roleF 20).toArray⟩) w) := by
 go_enter Tryz.func95, Tryz.ntmps95
 go_wp2_with fail
 go_ret
 exact ⟨rfl, Below.refl _ _⟩
theorem role_21 (w : World) : Calls Tryz.prog 95 #[.int .i64 21] w (Ret (.string ⟨(roleF 21).toArray⟩) w) := by
 go_enter Tryz.func95, Tryz.ntmps95
 go_wp2_with fail
 go_ret
 exact ⟨rfl, Below.refl _ _⟩
theorem role_22 (w : World) : Calls Tryz.prog 95 #[.int .i64 22] w (Ret (.string ⟨(roleF 22).toArray⟩) w) := by
 go_enter Tryz.func95, Tryz.ntmps95
 go_wp2_with fail
 go_ret
 exact ⟨rfl, Below.refl _ _⟩
theorem role_23 (w : World) : Calls Tryz.prog 95 #[.int .i64 23] w (Ret (.string ⟨(roleF 23).toArray⟩) w) := by
 go_enter Tryz.func95, Tryz.ntmps95
 go_wp2_with fail
 go_ret
 exact ⟨rfl, Below.refl _ _⟩
theorem role_24 (w : World) : Calls Tryz.prog 95 #[.int .i64 24] w (Ret (.string ⟨(roleF 24).toArray⟩) w) := by
 go_enter Tryz.func95, Tryz.ntmps95
 go_wp2_with fail
 go_ret
 exact ⟨rfl, Below.refl _ _⟩
theorem role_25 (w : World) : Calls Tryz.prog 95 #[.int .i64 25] w (Ret (.string ⟨(roleF 25).toArray⟩) w) := by
 go_enter Tryz.func95, Tryz.ntmps95
 go_wp2_with fail
 go_ret
 exact ⟨rfl, Below.refl _ _⟩
end Go.Proofs.YtkpjdanfpolimaaGreat
