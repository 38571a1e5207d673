/- A region that draws its order, within a round of a range over a function, by the walk of held regions outside of fences. Conditions: no operation defers, and the post lets nothing out. -/
import Derived.Test.YtaficbkaofhjeaaDoorSeqLaw
import Derived.Deep.RegionHeld3
import Derived.OrdersIn
namespace Go.Proofs.YtaficbkaofhjeaaDoor
open Go.RowKit

theorem rows_round {P : Program} {l n : Nat} {row : String} {args : Array Value} {w : World} {R : Value → World → Prop} (h : Rows P row args w R) : RowsIn (Fence.wide.inRound l) n P row args w R := fun c cs _ =>
  let ⟨v, w', r, s⟩ := h c cs; ⟨v, w', r, stepsIn_wide.2 s⟩
theorem upon_round {P : Program} {l n : Nat} {o : Oper} {a : Act} {next : Act → World → Prop} {Q : Exit → Act → World → Prop} : ∀ {r : Result Next}, o.upon P a next Q r → o.uponIn (Fence.wide.inRound l) n P a next Q r
  | .ok (.value _) _, h => h
  | .ok .skip _, h => h
  | .ok (.defer _) _, h => h
  | .ok (.enter _ _) _, h => ⟨fun e => by simp [Fence.wide] at e, CallsIn.inRound l (callsIn_wide.2 (Calls.mono h (fun e w => by cases e <;> exact id)))⟩
  | .ok (.row _ _) _, h => ⟨fun e => by simp [Fence.wide] at e, rows_round h⟩
  | .ok (.round ..) _, h => h.elim
  | .halt (.panic _) _, h => h
  | .halt .goexit _, h => h.elim
  | .halt .blocked _, h => h.elim
  | .halt .waiting _, h => h.elim
  | .halt (.stuck _) _, h => h.elim
  | .halt (.unsupported _) _, h => h.elim
theorem wpOp_round {P : Program} {ops : Array Oper} {l n i : Nat} {Q : Exit → Act → World → Prop} {K K' : Act → World → Prop} {a : Act} {w : World} (hnd : ∀ (j : Nat) (o : Oper), ops[j]? = some o → ∀ c, o.op ≠ .defer c) (hQ : ¬ LetsOut Q)
    (hK : ∀ a w, K a w → K' a w) (h : wpOp P ops Q i K a w) : wpOpIn (Fence.wide.inRound l) n P ops Q i K' a w := by
  unfold wpOp at h
  unfold wpOpIn
  cases ho : ops[i]? with
  | none => rw [ho] at h; exact hK _ _ h
  | some o =>
    rw [ho] at h
    simp only at h ⊢
    by_cases hw : Region.wanted o (yielded ops a.tmps) = true
    · rw [if_pos hw] at h ⊢
      refine ⟨fun _ _ => trivial, ?_⟩
      rw [Oper.semAt_eq _ _ _ (hnd i o ho)]
      rcases h with h | ⟨_, h⟩
      · exact upon_round (Oper.wp_mono hK h)
      · exact absurd h hQ
    · rw [if_neg hw] at h ⊢
      exact ⟨fun _ _ => trivial, hK _ _ h⟩
theorem wpAny_round {P : Program} {ops : Array Oper} {l n : Nat} {md : Region.Mode} {Q : Exit → Act → World → Prop} (hnd : ∀ (j : Nat) (o : Oper), ops[j]? = some o → ∀ c, o.op ≠ .defer c) (hQ : ¬ LetsOut Q) :
    ∀ (fuel : Nat) (listed : Array Bool) (a : Act) (w : World), wpAny P md ops Q fuel listed a w → wpAnyIn (Fence.wide.inRound l) n P md ops Q fuel listed a w
  | 0, _, _, _, h => h
  | fuel + 1, _, _, _, h => ⟨h.1, fun i hi => wpOp_round hnd hQ (fun a w => wpAny_round hnd hQ fuel _ a w) (h.2 i hi)⟩
/-- Whether no operation defers. -/
def noDefer (l : List Oper) : Bool := l.all fun o => match o.op with | .defer _ => false | _ => true
theorem noDefer_spec {ops : List Oper} (h : noDefer ops = true) (j : Nat) (o : Oper) (ho : ops.toArray[j]? = some o) : ∀ c, o.op ≠ .defer c := by
  intro c e
  have hm : o ∈ ops := by
    have : ops[j]? = some o := by simpa using ho
    exact List.mem_of_getElem? this
  have := List.all_eq_true.1 h o hm
  rw [e] at this
  simp at this
theorem wp_region_round {P : Program} {id l n : Nat} {ops : List Oper} {Q : Exit → Act → World → Prop} {S : World → Prop} {a : Act} {w : World} (hm : P.follows .mixedOrders = true) (hnd : noDefer ops = true) (hQ : ¬ LetsOut Q) (hS : S w.drew)
    (h : S w.drew → wpAnyH P .any ops.toArray Q S ops.toArray.size (Array.replicate ops.toArray.size false) a w.drew) : (Code.region id ops.toArray true).wpIn (Fence.wide.inRound l) n P Q a w :=
  wpIn_region_draw (F := Fence.wide.inRound l) fun t => by
    simp only [Region.schedule, hm, Bool.true_or, if_true]
    exact wpAnyIn_sound _ t _ a _ (wpAny_round (noDefer_spec hnd) hQ _ _ _ _ (wpAny_of_held _ _ _ _ (h hS)))

end Go.Proofs.YtaficbkaofhjeaaDoor
