/- SealFrames: Frame and Open answer as the reference does, errors too, and what was opened shares no memory with the argument; every byte slice and offset that the statement's guard lets in; no condition. -/
import Derived.Test.YtkmpjdccogolkaaRefFrame
import Derived.Test.YtkmpjdccogolkaaOpenP
import Derived.Test.YtkmpjdccogolkaaPr14
namespace Go.Proofs.Ytkmpjdccogolkaa.Pure
open Go.RowKit Go.Proofs.Ytkmpjdccogolkaa.Pr Go.Proofs.YtkmpjdccogolkaaW.PrintWords Go.Proofs.YtkmpjdccogolkaaW.PrintLast

theorem frames_loop (x0 : List Int) : ∀ (d : Nat) (x10 : List Int) (i : Nat), i + d = x10.length → x10.length ≤ 100000 → ∀ e,
    chalklinelaw02_SealFrames.l0 (d + 1 + e) x0 x0 x10 true (x10.length : Int) (i : Int) = some true := by
  intro d
  induction d with
  | zero =>
    intro x10 i hi hl e
    rw [show 0 + 1 + e = e + 1 by omega]
    simp only [chalklinelaw02_SealFrames.l0]
    rw [if_neg (by omega), if_pos trivial, same_refl]
    rfl
  | succ d ih =>
    intro x10 i hi hl e
    rw [show d + 1 + 1 + e = (d + 1 + e) + 1 by omega]
    simp only [chalklinelaw02_SealFrames.l0]
    rw [if_pos (by omega), if_pos (by omega), if_pos (by omega), wrap_one (by omega)]
    have h := ih (x10.set (i : Int).toNat ((rd x10 (i : Int) + 1) % 256)) (i + 1) (by rw [List.length_set]; omega) (by rw [List.length_set]; exact hl) e
    rw [List.length_set] at h
    exact h
theorem openI_short (l : List Int) (at_ : Int) : (Pl.openI l at_).1.length ≤ l.length := by
  unfold Pl.openI
  repeat' split
  all_goals simp
  omega
theorem SealFrames : chalklinelaw02_SealFrames.Pure := by
  intro l0 a1 hm _ hb _
  have hb' : Pl.bytes l0 := fun x hx => wf_u8 (hb x hx)
  have hall : l0.all (fun x => decide (0 ≤ x) && decide (x < 256)) = true := by
    rw [List.all_eq_true]
    intro x hx
    have := hb' x hx
    simp [this.1, this.2]
  have key : ¬ (l0.length : Int) > 100000 → chalklinelaw02_SealFrames.j0 (11 * l0.length + 4) l0 a1 false = some true := by
    intro hl
    rw [show 11 * l0.length + 4 = (11 * l0.length + 3) + 1 by omega]
    simp only [chalklinelaw02_SealFrames.j0]
    rw [if_neg (by simp), refFrame l0 hb' (by omega) _ (by omega)]
    obtain ⟨f, e, hf⟩ : ∃ f e, seal_Frame.f l0 = some (f, e) := by
      unfold seal_Frame.f
      split <;> exact ⟨_, _, rfl⟩
    have hc : chalklineref02_Copy.f l0 = some l0 := by unfold chalklineref02_Copy.f; rw [if_pos (by omega)]
    have ho : chalklineref02_Open.f l0 a1 = some (Pl.openI l0 a1) := by unfold chalklineref02_Open.f; rw [if_pos hall]
    have hp : seal_Open.f l0 a1 = some (Pl.openI l0 a1) := rfl
    rw [hf, hc, ho, hp]
    simp only [Option.bind_some, same_refl, if_true]
    rw [show 11 * l0.length + 3 = (11 * l0.length + 2) + 1 by omega]
    simp only [chalklinelaw02_SealFrames.j1, BEq.rfl]
    have hs := openI_short l0 a1
    have h := frames_loop l0 (Pl.openI l0 a1).1.length (Pl.openI l0 a1).1 0 (by omega) (by omega) (11 * l0.length + 2 - ((Pl.openI l0 a1).1.length + 1))
    rw [show (Pl.openI l0 a1).1.length + 1 + (11 * l0.length + 2 - ((Pl.openI l0 a1).1.length + 1)) = 11 * l0.length + 2 by omega] at h
    exact h
  have yes : chalklinelaw02_SealFrames.j0 (11 * l0.length + 4) l0 a1 true = some true := by
    rw [show 11 * l0.length + 4 = (11 * l0.length + 3) + 1 by omega]
    simp only [chalklinelaw02_SealFrames.j0, if_true]
  have either : chalklinelaw02_SealFrames.j0 (11 * l0.length + 4) l0 a1 (decide ((l0.length : Int) > 100000)) = some true := by
    by_cases h : (l0.length : Int) > 100000
    · rw [decide_eq_true h]; exact yes
    · rw [decide_eq_false h]; exact key h
  refine ⟨11 * l0.length + 4, ?_⟩
  unfold chalklinelaw02_SealFrames.f chalklinelaw02_live.f
  simp only [Option.bind_some, if_true]
  split
  · split
    · exact yes
    · exact either
  · exact either
end Go.Proofs.Ytkmpjdccogolkaa.Pure
