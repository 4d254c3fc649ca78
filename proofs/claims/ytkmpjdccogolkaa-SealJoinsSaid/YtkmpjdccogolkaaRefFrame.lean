/- Plain: the reference's printed Frame is the frame 'frameI'. -/
import Derived.Test.YtkmpjdccogolkaaRefSum
import Derived.Test.YtkmpjdccogolkaaNum
import Derived.Test.YtkmpjdccogolkaaPr10
import Derived.Test.YtkmpjdccogolkaaPr4
import Derived.Test.YtkmpjdccogolkaaPr8
namespace Go.Proofs.Ytkmpjdccogolkaa.Pure
open Go.RowKit Go.Proofs.Ytkmpjdccogolkaa.Pr Go.Proofs.YtkmpjdccogolkaaW.PrintWords Go.Proofs.YtkmpjdccogolkaaW.PrintLast
theorem refFour (n : Int) (h0 : 0 ≤ n) (_h1 : n < 4294967296) : chalklineref02_four.f n = some (Pl.be4 n) := by
  unfold chalklineref02_four.f Pl.be4
  rw [Int.tdiv_eq_ediv_of_nonneg h0, Int.tdiv_eq_ediv_of_nonneg h0, Int.tdiv_eq_ediv_of_nonneg h0, Int.tmod_eq_emod_of_nonneg h0]
  rw [show n / 16777216 % 4294967296 % 256 = n / 16777216 % 256 by omega, show n / 65536 % 4294967296 % 256 = n / 65536 % 256 by omega, show n / 256 % 4294967296 % 256 = n / 256 % 256 by omega, show n % 256 % 256 = n % 256 by omega]
theorem refFrame (l : List Int) (hb : Pl.bytes l) (hl : l.length ≤ 100000) (k : Nat) (hk : 10 * l.length + 1 ≤ k) : chalklineref02_Frame.f k l = seal_Frame.f l := by
  unfold chalklineref02_Frame.f seal_Frame.f
  by_cases h : (l.length : Int) > 65536
  · rw [if_pos h, if_pos h]
  · rw [if_neg h, if_neg h]
    have hs := Pl.sumI_range l
    rw [show (l.length : Int) % 4294967296 = (l.length : Int) by omega, refFour _ (by omega) (by omega), Option.bind_some, refSum_of l (by omega) hb k hk, Option.bind_some, refFour _ hs.1 hs.2, Option.bind_some]
    have h4 : ∀ n, (Pl.be4 n).length = 4 := fun n => rfl
    rw [h4, h4, if_pos (by omega), Option.bind_some, List.length_append, h4, h4, if_pos (by omega)]
    rfl
theorem same_refl (l : List Int) : chalklineref02_Same.f l l = some true := by
  unfold chalklineref02_Same.f
  simp
end Go.Proofs.Ytkmpjdccogolkaa.Pure
