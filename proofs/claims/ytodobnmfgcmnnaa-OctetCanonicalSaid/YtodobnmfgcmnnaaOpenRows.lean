/- Slices of integers, and slices of such slices, opened, with their sizes: what a row's premise says of them, in the form of the contracts (Kd.C). -/
import Derived.Deep.Slices
import Derived.SizedLaws
import Derived.Test.YtodobnmfgcmnnaaPr0
namespace Go.Proofs.Ytodobnmfgcmnnaa.Ra
open Go.RowKit Go.Proofs.YtodobnmfgcmnnaaW.PrintWords Go.Proofs.YtodobnmfgcmnnaaW.PrintLast Go.Proofs.YtodobnmfgcmnnaaW.PrintMore
variable {H : Type} {enc : TypeId × Value → H} {P : Program} {W : World}
theorem weights_mem_all : ∀ {e : TypeId} {ds : List (DataW H)} {d : DataW H}, d ∈ ds → ∀ n ∈ d.weights P e, n ∈ DataW.weightsAll P e ds
  | e, d0 :: ds, d, hd, n, hn => by
    simp only [DataW.weightsAll, List.mem_append]
    rcases List.mem_cons.1 hd with rfl | hd
    · exact Or.inl hn
    · exact Or.inr (weights_mem_all hd n hn)
  | _, [], _, hd, _, _ => by cases hd
theorem openB {k : IntKind} {t e : TypeId} (ht : P.underlying t = some (.slice e)) (he : P.underlying e = some (.int k)) (hc : P.cellsOf e = 1) {fuel : Nat} {cs : List Value} {x : DataW H × List MemPlace} (h : DataW.trod enc P W 0 (fun _ => true) true fuel t cs = some x) (hw : ∀ n ∈ x.1.weights P t, n ≤ reachBytes) :
    ∃ (l : List Int) (A : Option Addr) (c : Nat), cs = [.slice A l.length c] ∧ l.length ≤ c ∧ Kd.C (Kd.int k) W A l.length l ∧ (∀ y ∈ l, (Lit.int k y).wf = true) ∧ l.length * P.bytesOf e ≤ reachBytes := by
  rcases ChangeShapes.open_ints ht he hc h with ⟨rfl, _⟩ | ⟨a, len, cap, zs, rfl, _, hl, hm, hz, hx, hcell, hwz⟩
  · exact ⟨[], none, 0, rfl, Nat.le_refl _, Kd.C_of_reads (d := (0 : Int)) (h1 := fun _ => rfl) ⟨rfl, by decide, fun h => absurd h (by decide)⟩, (fun y hy => by cases hy), by simp⟩
  · simp only [if_true] at hz
    have hlen : (zs.take len).length = len := by rw [List.length_take]; omega
    have hsz : len * P.bytesOf e ≤ reachBytes := by
      subst hx
      have h2 := hw (((ChangeShapes.lits (H := H) k (zs.take len)).length + (ChangeShapes.lits (H := H) k (zs.drop len)).length) * P.bytesOf e) (by simp [DataW.weights, ht])
      refine Nat.le_trans (Nat.mul_le_mul_right _ ?_) h2
      simp [ChangeShapes.lits]
      omega
    refine ⟨zs.take len, some a, cap, by rw [hlen], by omega, Kd.C_of_reads (d := (0 : Int)) (h1 := fun _ => rfl) ⟨rfl, by simp only [maxLen] at hm; omega, fun _ => ⟨a, rfl, fun j hj => ?_⟩⟩, fun y hy => hwz y (List.mem_of_mem_take hy), by rw [hlen]; exact hsz⟩
    rw [hlen] at hj
    rw [hcell j (by omega)]
    simp [List.getD_eq_getElem?_getD, List.getElem?_take, hj]
theorem openBB {k : IntKind} {t2 t e : TypeId} (ht2 : P.underlying t2 = some (.slice t)) (hc2 : P.cellsOf t = 1) (ht : P.underlying t = some (.slice e)) (he : P.underlying e = some (.int k)) (hc : P.cellsOf e = 1) {fuel : Nat} {A : Option Addr} {len cap : Nat} {x : DataW H × List MemPlace}
    (h : DataW.trod enc P W 0 (fun _ => true) true fuel t2 [.slice A len cap] = some x) (hw : ∀ n ∈ x.1.weights P t2, n ≤ reachBytes) :
    ∃ (l : List (List Int)), len = l.length ∧ l.length ≤ cap ∧ l.length ≤ maxLen ∧ Kd.C (Kd.slice e (Kd.int k)) W A l.length l ∧ (∀ x ∈ l, ∀ y ∈ x, (Lit.int k y).wf = true) ∧ ∀ x ∈ l, x.length * P.bytesOf e ≤ reachBytes := by
  rcases Deep.open_slice1 ht2 hc2 h with ⟨hcs, _⟩ | ⟨a, len', cap', m, n, V, D, Pl, hcs, _, hl, hm, hmm, hxe, hx⟩
  · simp only [List.cons.injEq, Value.slice.injEq, and_true] at hcs
    obtain ⟨rfl, rfl, rfl⟩ := hcs
    exact ⟨[], rfl, Nat.le_refl _, by decide, ⟨rfl, by decide, fun h => absurd h (by decide)⟩, (fun x hx => by cases hx), fun x hx => by cases hx⟩
  · simp only [List.cons.injEq, Value.slice.injEq, and_true] at hcs
    obtain ⟨rfl, rfl, rfl⟩ := hcs
    simp only [if_true] at hmm
    subst hmm
    have hwi : ∀ i, i < len → ∀ n ∈ (D i).weights P t, n ≤ reachBytes := fun i hi n hn => hw n (by
      rw [hxe]
      simp only [DataW.weights, ht2, List.mem_cons, List.mem_append]
      exact Or.inr (Or.inl (weights_mem_all (List.mem_map.2 ⟨i, List.mem_range.2 hi, rfl⟩) n hn)))
    obtain ⟨f, hf⟩ := Deep.choose_lt (α := List Int) (n := len) (p := fun i (l : List Int) => ∃ (A : Option Addr) (c : Nat), [V i] = [.slice A l.length c] ∧ l.length ≤ c ∧ Kd.C (Kd.int k) W A l.length l ∧ (∀ y ∈ l, (Lit.int k y).wf = true) ∧ l.length * P.bytesOf e ≤ reachBytes) (fun i hi => openB ht he hc (hx i (by omega)).2 (hwi i hi))
    refine ⟨(List.range len).map f, by simp, by simpa using hl, by simp; omega, ⟨rfl, by simp only [maxLen] at hm; simp; omega, fun _ => ⟨a, rfl, fun j p hj => ?_⟩⟩, fun x hx y hy => ?_, fun x hx => ?_⟩
    · have hjl : j < len := by have := (List.getElem?_eq_some_iff.1 hj).1; simpa using this
      have hp : p = f j := by
        rw [List.getElem?_map, List.getElem?_range hjl] at hj
        exact (Option.some.inj hj).symm
      subst hp
      obtain ⟨Aj, cj, hv, hlc, hC, _⟩ := hf j hjl
      refine ⟨[.slice Aj (f j).length cj], rfl, ⟨Aj, cj, rfl, hlc, hC⟩, fun i u hu => ?_⟩
      have hi0 : i = 0 := by have := (List.getElem?_eq_some_iff.1 hu).1; simpa using this
      subst hi0
      have h0 : u = .slice Aj (f j).length cj := by simpa using hu.symm
      subst h0
      have hcell := (hx j (by omega)).1
      rw [show V j = .slice Aj (f j).length cj by simpa using hv] at hcell
      simpa [Kd.slice] using hcell
    · obtain ⟨i, hi, rfl⟩ := List.mem_map.1 hx
      obtain ⟨_, _, _, _, _, hw, _⟩ := hf i (by have := List.mem_range.1 hi; omega)
      exact hw y hy
    · obtain ⟨i, hi, rfl⟩ := List.mem_map.1 hx
      obtain ⟨_, _, _, _, _, _, hw⟩ := hf i (by have := List.mem_range.1 hi; omega)
      exact hw
end Go.Proofs.Ytodobnmfgcmnnaa.Ra
