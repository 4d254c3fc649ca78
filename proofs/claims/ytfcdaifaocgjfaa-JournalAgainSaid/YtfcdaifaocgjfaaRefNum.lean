/- A part of the proof of JournalAgain; no condition. -/
import Derived.Test.YtfcdaifaocgjfaaPr28
import Derived.Test.YtfcdaifaocgjfaaPla
namespace Go.Proofs.Ytfcdaifaocgjfaa.Pure
open Go.RowKit Go.Proofs.Ytfcdaifaocgjfaa.Pr Go.Proofs.YtfcdaifaocgjfaaW.PrintWords Go.Proofs.YtfcdaifaocgjfaaW.PrintLast
theorem numberOf (l : List Int) (hb : Pl.bytes l) (h : 4 ≤ l.length) : chalklineref02_number.f (l.take 4) = some ((Pl.get4 l : Nat) : Int) := by
  obtain ⟨a, b, c, d, t, rfl⟩ := Pl.four_of_length l h
  have ha := hb a (by simp)
  have hb' := hb b (by simp)
  have hc := hb c (by simp)
  have hd := hb d (by simp)
  rw [Pl.get4_cons a b c d t ha hb' hc hd]
  unfold chalklineref02_number.f
  simp [rd]
  omega
end Go.Proofs.Ytfcdaifaocgjfaa.Pure
