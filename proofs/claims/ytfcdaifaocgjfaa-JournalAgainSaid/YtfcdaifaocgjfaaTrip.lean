/- A part of the proof of JournalAgain; no condition. -/
import Derived.Test.YtfcdaifaocgjfaaOcB
namespace Go.Proofs.Ytfcdaifaocgjfaa.Oc
/-- The bytes of integers in a row. -/
def C (xs : List Int) : List Int := (xs.map fun x => grp (zz x)).flatten
theorem C_nil : C [] = [] := rfl
end Go.Proofs.Ytfcdaifaocgjfaa.Oc
