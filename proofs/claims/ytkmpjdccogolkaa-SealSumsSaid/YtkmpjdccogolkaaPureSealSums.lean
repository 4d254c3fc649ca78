/- SealSums: Sum equals the reference's checksum for every byte slice of at most 4000 bytes; for every input, without a condition. -/
import Derived.Test.YtkmpjdccogolkaaRefSum
namespace Go.Proofs.Ytkmpjdccogolkaa.Pure
open Go.RowKit Go.Proofs.Ytkmpjdccogolkaa.Pr Go.Proofs.YtkmpjdccogolkaaW.PrintWords Go.Proofs.YtkmpjdccogolkaaW.PrintLast

theorem SealSums : chalklinelaw02_SealSums.Pure := by
  intro l0 hm _ hb
  have hb' : ∀ x ∈ l0, 0 ≤ x ∧ x < 256 := fun x hx => wf_u8 (hb x hx)
  refine ⟨10 * l0.length + 1, ?_⟩
  unfold chalklinelaw02_SealSums.f chalklinelaw02_live.f
  simp only [Option.bind_some, if_true]
  by_cases h : (l0.length : Int) > 4000
  · rw [if_pos h]
  · rw [if_neg h]
    unfold seal_Sum.f
    rw [refSum_of l0 (by omega) hb' _ (Nat.le_refl _)]
    simp
end Go.Proofs.Ytkmpjdccogolkaa.Pure
