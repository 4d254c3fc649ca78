/- SealOne: framing a payload that Open returned gives back the bytes from which it was read; every byte slice and offset; no condition. -/
import Derived.Test.YtkmpjdccogolkaaRefFrame
import Derived.Test.YtkmpjdccogolkaaOpenP
import Derived.Test.YtkmpjdccogolkaaPr17
namespace Go.Proofs.Ytkmpjdccogolkaa.Pure
open Go.RowKit Go.Proofs.Ytkmpjdccogolkaa.Pr Go.Proofs.YtkmpjdccogolkaaW.PrintWords Go.Proofs.YtkmpjdccogolkaaW.PrintLast
theorem wraps (a n : Int) (h0 : 0 ≤ a) (h1 : 0 ≤ n) (h2 : a ≤ 4000) (h3 : n ≤ 4000) : a + 8 + n = wrap64 (wrap64 (a + 8) + n) := by
  have w1 : wrap64 (a + 8) = a + 8 := wrap_in _ (by omega) (by omega)
  rw [w1]
  exact (wrap_in _ (by omega) (by omega)).symm
theorem SealOne : chalklinelaw02_SealOne.Pure := by
  intro l0 a1 hm _ hb _
  have hb' : Pl.bytes l0 := fun x hx => wf_u8 (hb x hx)
  unfold chalklinelaw02_SealOne.f chalklinelaw02_live.f
  simp only [Option.bind_some, if_true]
  by_cases hl : (l0.length : Int) > 4000
  · rw [if_pos hl]
  rw [if_neg hl, show seal_Open.f l0 a1 = some (Pl.openI l0 a1) from rfl]
  rcases Pl.openI_spec l0 hb' a1 with ⟨e, h, he⟩ | ⟨body, a, rfl, h, h1, h2, h3, _⟩
  · rw [h]
    simp [he]
  · have hf : seal_Frame.f body = some (Pl.frameI body, 0) := by unfold seal_Frame.f; rw [if_neg (by omega)]
    rw [h, Option.bind_some]
    rw [if_pos rfl]
    rw [hf, Option.bind_some]
    rw [if_pos rfl]
    have e1 : (l0.take ((a : Int) + 8 + (body.length : Int)).toNat).drop ((a : Int)).toNat = Pl.frameI body := by
      rw [show ((a : Int) + 8 + (body.length : Int)).toNat = a + (8 + body.length) by omega, Int.toNat_natCast, List.drop_take, Nat.add_sub_cancel_left, h3]
    have q1 : (a : Int) ≥ 0 := Int.natCast_nonneg a
    have q2 : (a : Int) + 8 + (body.length : Int) ≤ (l0.length : Int) := by omega
    have q3 : (a : Int) ≤ (a : Int) + 8 + (body.length : Int) := by omega
    have w := wraps (a : Int) (body.length : Int) q1 (by omega) (by omega) (by omega)
    rw [if_pos q1, if_pos w, if_pos q2, if_pos q1, if_pos q3]
    show (chalklineref02_Same.f (Pl.frameI body) ((l0.take ((a : Int) + 8 + (body.length : Int)).toNat).drop ((a : Int)).toNat)).bind _ = _
    rw [e1, same_refl, Option.bind_some]
end Go.Proofs.Ytkmpjdccogolkaa.Pure
