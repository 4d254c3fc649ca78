/- SealScans: Scan and the reference's Scan answer alike; every byte slice; no condition. -/
import Derived.Test.YtkmpjdccogolkaaScanP
import Derived.Test.YtkmpjdccogolkaaPr19
namespace Go.Proofs.Ytkmpjdccogolkaa.Pure
open Go.RowKit Go.Proofs.Ytkmpjdccogolkaa.Pr Go.Proofs.YtkmpjdccogolkaaW.PrintWords Go.Proofs.YtkmpjdccogolkaaW.PrintLast
theorem SealScans : chalklinelaw02_SealScans.Pure := by
  intro l0 _ _ h0
  have b0 : Pl.bytes l0 := fun x hx => wf_u8 (h0 x hx)
  refine ⟨l0.length + 2, ?_⟩
  unfold chalklinelaw02_SealScans.f chalklinelaw02_live.f
  rw [Option.bind_some, if_pos rfl]
  by_cases h : (l0.length : Int) > 4000
  · rw [if_pos h]
  have hn := scanI_length l0
  rw [if_neg h, sealScan l0 (by omega), Option.bind_some, refScan l0 b0 (by omega) _ (Nat.le_refl _), Option.bind_some, sameAll_refl _ (by omega) _ (by omega), Option.bind_some, if_pos rfl]
  exact congrArg some (beq_self_eq_true _)
end Go.Proofs.Ytkmpjdccogolkaa.Pure
