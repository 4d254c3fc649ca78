/- OctetLength: an encoding has one to ten bytes, one exactly for -64 to 63, and no fewer the farther from 0; every two integers; no condition. -/
import Derived.Test.YtodobnmfgcmnnaaRefL
import Derived.Test.YtodobnmfgcmnnaaPr24
namespace Go.Proofs.Ytodobnmfgcmnnaa.Pure
open Go.RowKit Go.Proofs.Ytodobnmfgcmnnaa.Pr Go.Proofs.YtodobnmfgcmnnaaW.PrintWords Go.Proofs.YtodobnmfgcmnnaaW.PrintLast
theorem grp_mono : ∀ (v u : Nat), u ≤ v → (Oc.grp u).length ≤ (Oc.grp v).length := by
  intro v
  induction v using Nat.strongRecOn with
  | _ v ih =>
    intro u h
    by_cases c : 127 < v
    · by_cases c1 : 127 < u
      · rw [Oc.grp_big u c1, Oc.grp_big v c, List.length_cons, List.length_cons]
        have := ih (v / 128) (by omega) (u / 128) (by omega)
        omega
      · rw [Oc.grp_small u (by omega), Oc.grp_big v c]
        simp
    · rw [Oc.grp_small u (by omega), Oc.grp_small v (by omega)]
      simp
theorem OctetLength : chalklinelaw01_OctetLength.Pure := by
  intro m n hm hn
  have hm := ok64_of hm
  have hn := ok64_of hn
  have h10 := Oc.grp_ten _ (Oc.zz_lt m hm)
  have h1 : 1 ≤ (Oc.grp (Oc.zz m)).length := List.length_pos_iff.2 (Oc.grp_ne _)
  have hone : (Oc.grp (Oc.zz m)).length = 1 ↔ (-64 ≤ m ∧ m ≤ 63) := by
    constructor
    · intro h
      have hz : Oc.zz m ≤ 127 := by
        by_cases c : 127 < Oc.zz m
        · have := List.length_pos_iff.2 (Oc.grp_ne (Oc.zz m / 128))
          rw [Oc.grp_big _ c, List.length_cons] at h
          omega
        · omega
      unfold Oc.zz at hz
      split at hz <;> omega
    · intro h
      rw [Oc.grp_small _ (by unfold Oc.zz; split <;> omega)]
      rfl
  have hnear : (0 ≤ m ∧ m ≤ n) ∨ (m < 0 ∧ n ≤ m) → (Oc.grp (Oc.zz m)).length ≤ (Oc.grp (Oc.zz n)).length := by
    intro h
    refine grp_mono _ _ ?_
    unfold Oc.zz
    split <;> split <;> omega
  have eP : ∀ x, Oc.ok64 x = true → octet_PutInt.f [] x = some (Oc.grp (Oc.zz x)) := fun x hx => by rw [octPut [] x hx (by simp)]; rfl
  unfold chalklinelaw01_OctetLength.f chalklinelaw01_live.f
  rw [Option.bind_some, if_pos rfl, eP m hm, Option.bind_some, eP n hn, Option.bind_some]
  generalize (Oc.grp (Oc.zz m)).length = a at h10 h1 hone hnear ⊢
  generalize (Oc.grp (Oc.zz n)).length = b at hnear ⊢
  have q1 : m ≥ -64 → (((a : Int) == 1) == decide (m ≤ 63)) = true := fun h => by
    rw [beq_iff_eq]
    by_cases c : m ≤ 63
    · rw [decide_eq_true c]; exact beq_iff_eq.2 (by have := hone.2 ⟨by omega, c⟩; omega)
    · rw [decide_eq_false c]; exact beq_eq_false_iff_ne.2 (fun e => c (hone.1 (by omega)).2)
  have q2 : ¬ m ≥ -64 → (((a : Int) == 1) == false) = true := fun h => by
    rw [beq_iff_eq]
    exact beq_eq_false_iff_ne.2 (fun e => h (hone.1 (by omega)).1)
  have p1 : (a : Int) ≥ 1 := by omega
  have p10 : (a : Int) ≤ 10 := by omega
  have dec : ((0 ≤ m ∧ m ≤ n) ∨ (m < 0 ∧ n ≤ m)) → decide ((a : Int) ≤ (b : Int)) = true := fun h => decide_eq_true (by have := hnear h; omega)
  have all : (if m ≥ -64 then (if (((a : Int) == 1) == decide (m ≤ 63)) = true then true else false) else (if (((a : Int) == 1) == false) = true then true else false)) = true := by
    by_cases c : m ≥ -64
    · rw [if_pos c, if_pos (q1 c)]
    · rw [if_neg c, if_pos (q2 c)]
  by_cases c0 : m ≥ 0
  · have c64 : m ≥ -64 := by omega
    have c1 : ¬ m < 0 := by omega
    rw [if_pos c0]
    by_cases c2 : n ≥ m
    · rw [if_pos c2, if_pos p1, if_pos p10, if_pos c64, if_pos (q1 c64), dec (.inl ⟨c0, c2⟩)]
    · rw [if_neg c2, if_neg c1, if_pos p1, if_pos p10, if_pos c64, if_pos (q1 c64)]
  · have c1 : m < 0 := by omega
    rw [if_neg c0, if_pos c1, if_pos p1, if_pos p10]
    by_cases c64 : m ≥ -64
    · rw [if_pos c64, if_pos (q1 c64)]
      by_cases c2 : n ≤ m
      · rw [if_pos c2, dec (.inr ⟨c1, c2⟩)]
      · rw [if_neg c2]
    · rw [if_neg c64, if_pos (q2 c64)]
      by_cases c2 : n ≤ m
      · rw [if_pos c2, dec (.inr ⟨c1, c2⟩)]
      · rw [if_neg c2]
end Go.Proofs.Ytodobnmfgcmnnaa.Pure
