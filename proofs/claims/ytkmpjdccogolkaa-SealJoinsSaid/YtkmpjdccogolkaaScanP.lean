/- The reference's Scan and SameAll: what they answer. -/
import Derived.Test.YtkmpjdccogolkaaRefFrame
import Derived.Test.YtkmpjdccogolkaaOpenP
import Derived.Test.YtkmpjdccogolkaaPr18
import Derived.Test.YtkmpjdccogolkaaPr13
import Derived.Test.YtkmpjdccogolkaaPr19
namespace Go.Proofs.Ytkmpjdccogolkaa.Pure
open Go.RowKit Go.Proofs.Ytkmpjdccogolkaa.Pr Go.Proofs.YtkmpjdccogolkaaW.PrintWords Go.Proofs.YtkmpjdccogolkaaW.PrintLast
theorem up {α : Type} {f : Nat → Option α} (h : ∀ k, LeO (f k) (f (k + 1))) {k : Nat} {r : α} (hk : f k = some r) : ∀ k', k ≤ k' → f k' = some r := by
  intro k' hle
  obtain ⟨e, rfl⟩ : ∃ e, k' = k + e := ⟨k' - k, by omega⟩
  clear hle
  induction e with
  | zero => exact hk
  | succ e ih => exact h _ _ ih
theorem refOpen (l : List Int) (hb : Pl.bytes l) (a : Int) : chalklineref02_Open.f l a = some (Pl.openI l a) := by
  unfold chalklineref02_Open.f
  rw [if_pos (by rw [List.all_eq_true]; intro x hx; have := hb x hx; simp [this.1, this.2])]
theorem openI_far (l : List Int) (a : Int) (h : (l.length : Int) < a) : (Pl.openI l a).2.2 ≠ 0 := by
  unfold Pl.openI
  by_cases h0 : a < 0
  · rw [if_pos h0]; decide
  rw [if_neg h0, if_pos h]
  decide
theorem refScan_loop (l : List Int) (hb : Pl.bytes l) : ∀ (n : Nat) (a : Int) (acc : List (List Int)), (l.length : Int) < a + 8 * n → acc.length + n ≤ 1000000000000 →
    chalklineref02_Scan.l0 (n + 1) l acc a = some (Pl.scanF n l a acc) := by
  intro n
  induction n with
  | zero =>
    intro a acc h _
    simp only [chalklineref02_Scan.l0, Pl.scanF]
    rw [refOpen l hb, Option.bind_some, if_neg (openI_far l a (by omega))]
  | succ n ih =>
    intro a acc h h2
    rw [Pl.scanF, chalklineref02_Scan.l0]
    rw [refOpen l hb, Option.bind_some]
    by_cases c : (Pl.openI l a).2.2 = 0
    · rw [if_pos c, if_pos c, if_pos (by omega)]
      have := seal_Scan.open_ok l a c
      exact ih _ _ (by omega) (by rw [List.length_append, List.length_singleton]; omega)
    · rw [if_neg c, if_neg c]
theorem refScan (l : List Int) (hb : Pl.bytes l) (hl : l.length ≤ 100000000000) : ∀ k, l.length + 2 ≤ k → chalklineref02_Scan.f k l = some (Pl.scanI l) :=
  up (f := fun k => chalklineref02_Scan.f k l) (chalklineref02_Scan.mono l) (k := l.length + 2) (refScan_loop l hb (l.length + 1) 0 [] (by omega) (by simp; omega))
theorem sealScan (l : List Int) (hl : l.length ≤ 100000000000) : seal_Scan.f l = some (Pl.scanI l) := by
  unfold seal_Scan.f; rw [if_pos (by omega)]
theorem sameAll_loop (l : List (List Int)) (hl : l.length ≤ 1000000000000) : ∀ (d i : Nat), i + d = l.length → chalklineref02_SameAll.l0 (d + 1) l l (l.length : Int) (i : Int) = some true := by
  intro d
  induction d with
  | zero =>
    intro i h
    simp only [chalklineref02_SameAll.l0]
    rw [if_neg (by omega)]
  | succ d ih =>
    intro i h
    rw [chalklineref02_SameAll.l0]
    rw [if_pos (by omega), if_pos (by omega), if_pos (by omega), if_pos (by omega), same_refl, Option.bind_some, if_pos rfl, wrap_one (by omega)]
    exact ih (i + 1) (by omega)
theorem sameAll_refl (l : List (List Int)) (hl : l.length ≤ 1000000000000) : ∀ k, l.length + 1 ≤ k → chalklineref02_SameAll.f k l l = some true :=
  up (f := fun k => chalklineref02_SameAll.f k l l) (chalklineref02_SameAll.mono l l) (k := l.length + 1) (by
    show chalklineref02_SameAll.f _ _ _ = _
    unfold chalklineref02_SameAll.f
    rw [if_pos rfl]
    exact sameAll_loop l hl l.length 0 (by omega))
theorem scanF_length (l : List Int) : ∀ (n : Nat) (a : Int) (acc : List (List Int)), (Pl.scanF n l a acc).1.length ≤ acc.length + n := by
  intro n
  induction n with
  | zero => intro a acc; exact Nat.le_refl _
  | succ n ih =>
    intro a acc
    rw [Pl.scanF]
    by_cases c : (Pl.openI l a).2.2 = 0
    · rw [if_pos c]
      have := ih (Pl.openI l a).2.1 (acc ++ [(Pl.openI l a).1])
      rw [List.length_append, List.length_singleton] at this
      omega
    · rw [if_neg c]; simp
theorem scanI_length (l : List Int) : (Pl.scanI l).1.length ≤ l.length + 1 := by
  have := scanF_length l (l.length + 1) 0 []
  rw [List.length_nil, Nat.zero_add] at this
  exact this
end Go.Proofs.Ytkmpjdccogolkaa.Pure
