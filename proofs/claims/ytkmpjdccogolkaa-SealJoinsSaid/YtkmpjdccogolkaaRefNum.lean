/- Plain: the reference's printed 'number' of four bytes. -/
import Derived.Test.YtkmpjdccogolkaaPr12
import Derived.Test.YtkmpjdccogolkaaNum
namespace Go.Proofs.Ytkmpjdccogolkaa.Pure
open Go.RowKit Go.Proofs.Ytkmpjdccogolkaa.Pr Go.Proofs.YtkmpjdccogolkaaW.PrintWords Go.Proofs.YtkmpjdccogolkaaW.PrintLast
theorem numberOf (l : List Int) (hb : Pl.bytes l) (h : 4 ≤ l.length) : chalklineref02_number.f (l.take 4) = some ((Pl.get4 l : Nat) : Int) := by
  obtain ⟨a, b, c, d, t, rfl⟩ := Pl.four_of_length l h
  have ha := hb a (by simp)
  have hb' := hb b (by simp)
  have hc := hb c (by simp)
  have hd := hb d (by simp)
  rw [Pl.get4_cons a b c d t ha hb' hc hd]
  unfold chalklineref02_number.f
  simp [rd]
  omega
end Go.Proofs.Ytkmpjdccogolkaa.Pure
