/- What a reading's bulk bounds. Conditions: none. -/
import Derived.Test.YtaficbkaofhjeaaDoorRows
namespace Go.Proofs.YtaficbkaofhjeaaDoor
theorem bulk_pos {H : Type} (d : DataW H) : 1 ≤ Rows.uptoBulk d := by
  unfold Rows.uptoBulk
  split <;> omega
theorem bulk_len {H : Type} : ∀ es : List (DataW H), es.length ≤ Rows.uptoBulkAll es
  | [] => Nat.zero_le _
  | d :: r => by
    have h1 := bulk_len r
    have h2 := bulk_pos d
    rw [List.length_cons, Rows.uptoBulkAll]
    omega
theorem bulk_slice {H : Type} {es sp r : List (DataW H)} (h : Rows.uptoBulkAll (.slice es sp :: r) ≤ 1048576) : es.length ≤ 1048576 := by
  have h1 := bulk_len es
  rw [Rows.uptoBulkAll, Rows.uptoBulk] at h
  omega
end Go.Proofs.YtaficbkaofhjeaaDoor
