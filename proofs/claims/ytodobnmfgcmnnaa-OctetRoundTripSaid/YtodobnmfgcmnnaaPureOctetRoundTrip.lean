/- OctetRoundTrip: what was put behind any bytes is read again, and these stay; every input that the statement's guard lets in; no condition. -/
import Derived.Test.YtodobnmfgcmnnaaRoundP
import Derived.Test.YtodobnmfgcmnnaaPr22
namespace Go.Proofs.Ytodobnmfgcmnnaa.Pure
open Go.RowKit Go.Proofs.Ytodobnmfgcmnnaa.Pr Go.Proofs.YtodobnmfgcmnnaaW.PrintWords Go.Proofs.YtodobnmfgcmnnaaW.PrintLast
theorem OctetRoundTrip (l0 : List Int) (a1 : Int) (a2 : ByteArray) (l3 : List Int) (h0 : ∀ x ∈ l0, (Lit.int .u8 x).wf = true) (_ : l0.length * Try.prog.bytesOf 5 ≤ reachBytes) (h1 : (Lit.int .i64 a1).wf = true) (h3 : ∀ x ∈ l3, (Lit.int .i64 x).wf = true) (_ : l3.length * Try.prog.bytesOf 3 ≤ reachBytes) : ∃ k, chalklinelaw01_OctetRoundTrip.f k l0 a1 a2 l3 = some true := by
  have b : Oc.okB l0 = true := okB_of l0 h0
  have n : Oc.ok64 a1 = true := ok64_of h1
  have x : l3.all Oc.ok64 = true := List.all_eq_true.2 fun x hx => ok64_of (h3 x hx)
  refine ⟨200, ?_⟩
  unfold chalklinelaw01_OctetRoundTrip.f chalklinelaw01_OctetRoundTrip.ok
  rw [if_pos ⟨by rw [b, n, x]; rfl, by omega⟩]
end Go.Proofs.Ytodobnmfgcmnnaa.Pure
