/- OctetLists: PutInts and GetInts answer as the reference does, errors too; every input that the statement's guard lets in; no condition. -/
import Derived.Test.YtodobnmfgcmnnaaRefL
import Derived.Test.YtodobnmfgcmnnaaPr21
namespace Go.Proofs.Ytodobnmfgcmnnaa.Pure
open Go.RowKit Go.Proofs.Ytodobnmfgcmnnaa.Pr Go.Proofs.YtodobnmfgcmnnaaW.PrintWords Go.Proofs.YtodobnmfgcmnnaaW.PrintLast
theorem getN_length : ∀ (m : Nat) (l : List Int) (a : Int) (acc : List Int), (acc.length : Int) ≤ a → a ≤ l.length → (Oc.getN m l a acc).1.length ≤ l.length
  | 0, l, a, acc, h, h2 => by show acc.length ≤ _; omega
  | m + 1, l, a, acc, h, h2 => by
    rw [Oc.getN]
    by_cases c : (Oc.getI l a).2.2 = 0
    · have hn := Oc.getI_next l a c
      rw [if_pos c]
      exact getN_length m l _ _ (by rw [List.length_append, List.length_singleton]; omega) hn.2.2
    · rw [if_neg c]; exact Nat.zero_le _
theorem getIs_length (l : List Int) (a m : Int) : (Oc.getIs l a m).1.length ≤ l.length := by
  have hn := Oc.getI_next l a
  unfold Oc.getIs
  by_cases c : (Oc.getI l a).2.2 ≠ 0
  · rw [if_pos c]; exact Nat.zero_le _
  rw [if_neg c]
  have hn := hn (Decidable.not_not.1 c)
  split
  · exact Nat.zero_le _
  · split
    · exact Nat.zero_le _
    · exact getN_length _ l _ [] (by simp; omega) hn.2.2
theorem OctetLists : chalklinelaw01_OctetLists.Pure := by
  intro l0 l1 a2 a3 _ _ hb _ _ hx _ _
  have hb := okB_of l0 hb
  have hx : ∀ x ∈ l1, Oc.ok64 x = true := fun x h => ok64_of (hx x h)
  refine ⟨4000, ?_⟩
  unfold chalklinelaw01_OctetLists.f chalklinelaw01_live.f chalklinelaw01_few.f
  rw [Option.bind_some, if_pos rfl, Option.bind_some]
  have yes : chalklinelaw01_OctetLists.j0 4000 l0 l1 a2 a3 true = some true := by rw [chalklinelaw01_OctetLists.j0, if_pos rfl]
  by_cases c : (l0.length : Int) ≤ 3000
  · rw [if_pos (decide_eq_true c)]
    by_cases c1 : (l1.length : Int) > 300
    · rw [decide_eq_true c1]; exact yes
    · have hg := getIs_length l0 a2 a3
      rw [decide_eq_false c1, chalklinelaw01_OctetLists.j0, if_neg (by simp), octInts l0 a2 a3 hb (by omega), Option.bind_some, refInts l0 a2 a3 hb (by omega) _ (by omega), Option.bind_some, octPuts l0 l1 hx (by omega) (by omega), Option.bind_some, refPuts l0 l1 hx (by omega) (by omega) _ (by omega), Option.bind_some, if_pos rfl, ints_refl _ (by omega) _ (by omega), Option.bind_some, if_pos rfl, if_pos rfl]
      exact congrArg some (beq_self_eq_true _)
  · rw [if_neg (by simpa using c)]; exact yes
end Go.Proofs.Ytodobnmfgcmnnaa.Pure
