/- OctetCanonical: what is decoded, encoded again, is the bytes that were read, and what fails gives nothing; every input that the statement's guard lets in; no condition. -/
import Derived.Test.YtodobnmfgcmnnaaCan
import Derived.Test.YtodobnmfgcmnnaaPr23
namespace Go.Proofs.Ytodobnmfgcmnnaa.Pure
open Go.RowKit Go.Proofs.Ytodobnmfgcmnnaa.Pr Go.Proofs.YtodobnmfgcmnnaaW.PrintWords Go.Proofs.YtodobnmfgcmnnaaW.PrintLast
theorem OctetCanonical (l0 : List Int) (a1 a2 : Int) (h0 : ∀ x ∈ l0, (Lit.int .u8 x).wf = true) (_ : l0.length * Try.prog.bytesOf 5 ≤ reachBytes) (_ : (Lit.int .i64 a1).wf = true) (_ : (Lit.int .i64 a2).wf = true) : ∃ k, chalklinelaw01_OctetCanonical.f k l0 a1 a2 = some true := by
  have b : Oc.okB l0 = true := okB_of l0 h0
  refine ⟨200, ?_⟩
  unfold chalklinelaw01_OctetCanonical.f
  rw [if_pos ⟨b, by omega⟩]
end Go.Proofs.Ytodobnmfgcmnnaa.Pure
