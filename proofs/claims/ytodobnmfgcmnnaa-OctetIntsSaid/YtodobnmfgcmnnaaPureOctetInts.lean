/- OctetInts: PutInt and GetInt answer as the reference does, errors too; every byte slice that the statement's guard lets in, every integer and offset; no condition. -/
import Derived.Test.YtodobnmfgcmnnaaRefP
import Derived.Test.YtodobnmfgcmnnaaPr15
namespace Go.Proofs.Ytodobnmfgcmnnaa.Pure
open Go.RowKit Go.Proofs.Ytodobnmfgcmnnaa.Pr Go.Proofs.YtodobnmfgcmnnaaW.PrintWords Go.Proofs.YtodobnmfgcmnnaaW.PrintLast
theorem OctetInts : chalklinelaw01_OctetInts.Pure := by
  intro l0 a1 a2 _ _ hb hn _
  have hb := okB_of l0 hb
  have hn := ok64_of hn
  refine ⟨30, ?_⟩
  unfold chalklinelaw01_OctetInts.f chalklinelaw01_live.f chalklinelaw01_few.f
  rw [Option.bind_some, if_pos rfl, Option.bind_some]
  by_cases c : (l0.length : Int) ≤ 3000
  · rw [if_pos (decide_eq_true c)]
    have e1 : octet_GetInt.f l0 a2 = some (Oc.getI l0 a2) := by unfold octet_GetInt.f; rw [if_pos hb]
    have e2 : octet_PutInt.f l0 a1 = some (Oc.putI l0 a1) := by unfold octet_PutInt.f; rw [if_pos ⟨hn, by omega⟩]
    rw [e1, Option.bind_some, refGet l0 a2 hb (by omega) _ (by omega), Option.bind_some, e2, Option.bind_some, refPut l0 a1 hn (by omega) _ (by omega), Option.bind_some, if_pos rfl, if_pos rfl, if_pos rfl]
    exact congrArg some (beq_self_eq_true _)
  · rw [if_neg (by simpa using c)]
end Go.Proofs.Ytodobnmfgcmnnaa.Pure
