/- OctetTexts: PutText and GetText answer as the reference does, errors too; every input that the statement's guard lets in; no condition. -/
import Derived.Test.YtodobnmfgcmnnaaRefL
import Derived.Test.YtodobnmfgcmnnaaPr19
namespace Go.Proofs.Ytodobnmfgcmnnaa.Pure
open Go.RowKit Go.Proofs.Ytodobnmfgcmnnaa.Pr Go.Proofs.YtodobnmfgcmnnaaW.PrintWords Go.Proofs.YtodobnmfgcmnnaaW.PrintLast
theorem OctetTexts : chalklinelaw01_OctetTexts.Pure := by
  intro l0 s a2 a3 _ _ hb _ _ _
  have hb := okB_of l0 hb
  refine ⟨30, ?_⟩
  unfold chalklinelaw01_OctetTexts.f chalklinelaw01_live.f chalklinelaw01_few.f
  rw [Option.bind_some, if_pos rfl, Option.bind_some]
  have yes : chalklinelaw01_OctetTexts.j0 30 l0 s a2 a3 true = some true := by rw [chalklinelaw01_OctetTexts.j0, if_pos rfl]
  by_cases c : (l0.length : Int) ≤ 3000
  · rw [if_pos (decide_eq_true c)]
    by_cases c1 : (s.size : Int) > 3000
    · rw [decide_eq_true c1]; exact yes
    · rw [decide_eq_false c1, chalklinelaw01_OctetTexts.j0, if_neg (by simp), octText l0 a2 a3 hb, Option.bind_some, refText l0 a2 a3 hb (by omega) _ (by omega), Option.bind_some, octPutT l0 s (by omega) (by omega), Option.bind_some, refPutT l0 s (by omega) (by omega) _ (by omega), Option.bind_some, if_pos rfl, if_pos rfl, if_pos rfl]
      exact congrArg some (beq_self_eq_true _)
  · rw [if_neg (by simpa using c)]; exact yes
end Go.Proofs.Ytodobnmfgcmnnaa.Pure
