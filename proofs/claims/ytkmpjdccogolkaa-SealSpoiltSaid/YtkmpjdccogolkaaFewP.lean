/- The law's own helpers: Few and framed: what they answer. -/
import Derived.Test.YtkmpjdccogolkaaScanP
import Derived.Test.YtkmpjdccogolkaaBackP
import Derived.Test.YtkmpjdccogolkaaPr20
import Derived.Test.YtkmpjdccogolkaaPr20
namespace Go.Proofs.Ytkmpjdccogolkaa.Pure
open Go.RowKit Go.Proofs.Ytkmpjdccogolkaa.Pr Go.Proofs.YtkmpjdccogolkaaW.PrintWords Go.Proofs.YtkmpjdccogolkaaW.PrintLast
theorem rdL (l : List (List Int)) (i : Nat) (h : i < l.length) : rd_L1 l (i : Int) = l[i] := by simp [rd_L1, List.getD_eq_getElem?_getD, List.getElem?_eq_getElem h]
theorem few_loop (l : List (List Int)) (hm : l.length ≤ 9223372036854775807) : ∀ (d i : Nat), i + d = 13 → i ≤ l.length → (∀ j (h : j < l.length), j < i → (l[j]).length ≤ 1000) →
    ∃ b, chalklineref02_Few.l0 (2 * d + 2) l 12 (i : Int) = some b ∧ (b = true → l.length ≤ 12 ∧ ∀ x ∈ l, x.length ≤ 1000) := by
  intro d
  have fin : ∀ i : Nat, i = l.length → (∀ j (h : j < l.length), j < i → (l[j]).length ≤ 1000) → ∀ k, ∃ b, chalklineref02_Few.l0 (k + 2) l 12 (i : Int) = some b ∧ (b = true → l.length ≤ 12 ∧ ∀ x ∈ l, x.length ≤ 1000) := by
    intro i hi h k
    refine ⟨decide ((l.length : Int) ≤ 12), ?_, fun hb => ⟨by have := of_decide_eq_true hb; omega, fun x hx => ?_⟩⟩
    · rw [chalklineref02_Few.l0, if_neg (by omega), chalklineref02_Few.j1, if_neg (by decide)]
    · obtain ⟨j, hj, rfl⟩ := List.getElem_of_mem hx
      exact h j hj (by omega)
  induction d with
  | zero =>
    intro i hi hle h
    rcases Nat.lt_or_ge i l.length with h1 | h1
    · refine ⟨false, ?_, fun h => by cases h⟩
      show chalklineref02_Few.l0 (1 + 1) _ _ _ = _
      rw [chalklineref02_Few.l0, if_pos (by omega), chalklineref02_Few.j1]
      rw [if_neg (by simp; omega)]
      simp; omega
    · exact fin i (by omega) h 0
  | succ d ih =>
    intro i hi hle h
    rcases Nat.lt_or_ge i l.length with h1 | h1
    · rw [show 2 * (d + 1) + 2 = (2 * d + 2) + 1 + 1 by omega]
      rw [chalklineref02_Few.l0, if_pos (by omega), chalklineref02_Few.j1, if_pos (by simp; omega), if_pos (by omega), if_pos (by omega), rdL l i h1]
      by_cases h2 : ((l[i]).length : Int) > 1000
      · rw [if_pos h2]
        exact ⟨false, rfl, fun h => by cases h⟩
      · rw [if_neg h2, wrap_one (by omega)]
        refine ih (i + 1) (by omega) (by omega) (fun j hj hlt => ?_)
        rcases Nat.lt_or_ge j i with h3 | h3
        · exact h j hj h3
        · have : j = i := by omega
          subst this; omega
    · have := fin i (by omega) h (2 * (d + 1))
      exact this
theorem few (l : List (List Int)) (hm : l.length ≤ 9223372036854775807) : ∃ b, (∀ k, 28 ≤ k → chalklineref02_Few.f k l 12 = some b) ∧ (b = true → l.length ≤ 12 ∧ ∀ x ∈ l, x.length ≤ 1000) := by
  obtain ⟨b, h1, h2⟩ := few_loop l hm 13 0 (by omega) (by omega) (fun j h hlt => by omega)
  exact ⟨b, up (f := fun k => chalklineref02_Few.f k l 12) (chalklineref02_Few.mono l 12) (k := 28) h1, h2⟩
def E (l : List (List Int)) (i : Nat) : List Int := (List.range i).map (fun j => ((Pl.G l (j + 1) : Nat) : Int))
theorem E_succ (l : List (List Int)) (i : Nat) : E l (i + 1) = E l i ++ [((Pl.G l (i + 1) : Nat) : Int)] := by simp [E, List.range_succ]
theorem E_length (l : List (List Int)) (i : Nat) : (E l i).length = i := by simp [E]
theorem E_rd (l : List (List Int)) (n i : Nat) (h : i < n) : rd (E l n) (i : Int) = ((Pl.G l (i + 1) : Nat) : Int) := by
  simp [rd, E, List.getD_eq_getElem?_getD, List.getElem?_range h]
theorem G_small (l : List (List Int)) (hx : ∀ x ∈ l, x.length ≤ 1000) : ∀ i, i ≤ l.length → Pl.G l i ≤ 1008 * i := by
  intro i
  induction i with
  | zero => intro _; rw [Pl.G_zero]; omega
  | succ i ih =>
    intro h
    have h1 := ih (by omega)
    have h2 := hx l[i] (List.getElem_mem (by omega))
    rw [Pl.G_succ l i (by omega)]
    omega
theorem framed_loop (l : List (List Int)) (hl : l.length ≤ 12) (hx : ∀ x ∈ l, x.length ≤ 1000) : ∀ (d i : Nat), i + d = l.length →
    chalklinelaw02_framed.l0 (d + 1) (Pl.F (l.take i)) (E l i) l (l.length : Int) (i : Int) = some (Pl.F l, E l l.length, true) := by
  intro d
  induction d with
  | zero =>
    intro i h
    obtain rfl : i = l.length := by omega
    rw [chalklinelaw02_framed.l0, if_neg (by omega), List.take_length]
  | succ d ih =>
    intro i h
    have hi : i < l.length := by omega
    have h1 := hx l[i] (List.getElem_mem hi)
    have hg := G_small l hx i (by omega)
    have hf : seal_Frame.f l[i] = some (Pl.frameI l[i], 0) := by unfold seal_Frame.f; rw [if_neg (by omega)]
    have hfl := Pl.frameI_length l[i]
    rw [chalklinelaw02_framed.l0, if_pos (by omega), if_pos (by omega), if_pos (by omega), rdL l i hi, hf, Option.bind_some]
    have hG : (Pl.F (l.take i)).length = Pl.G l i := rfl
    rw [if_pos rfl]
    show (if (Pl.F (l.take i)).length + (Pl.frameI l[i]).length < 140737488355328 then _ else _) = _
    rw [if_pos (by omega), Option.bind_some, ← Pl.F_take_succ l i hi]
    rw [if_pos (by rw [E_length]; omega), wrap_one (by omega)]
    have e : ((Pl.F (l.take (i + 1))).length : Int) = ((Pl.G l (i + 1) : Nat) : Int) := rfl
    rw [e, ← E_succ]
    exact ih (i + 1) (by omega)
theorem framed (l : List (List Int)) (hl : l.length ≤ 12) (hx : ∀ x ∈ l, x.length ≤ 1000) : ∀ k, 13 ≤ k → chalklinelaw02_framed.f k l = some (Pl.F l, E l l.length, true) :=
  up (f := fun k => chalklinelaw02_framed.f k l) (chalklinelaw02_framed.mono l) (k := 13) (by
    have h := framed_loop l hl hx l.length 0 (by omega)
    exact up (f := fun k => chalklinelaw02_framed.f k l) (chalklinelaw02_framed.mono l) (k := l.length + 1) h 13 (by omega))
end Go.Proofs.Ytkmpjdccogolkaa.Pure
