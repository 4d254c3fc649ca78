/- A part of the proof of JournalCrashes; no condition. -/
import Derived.Deep.Slices
import Derived.Deep.SlicePairs
import Derived.Lib.SmallJoins
import Derived.SizedLaws
import Derived.Test.YtfcdaifaocgjfaaPr0
namespace Go.Proofs.Ytfcdaifaocgjfaa.Ra
open Go.RowKit Go.Proofs.YtfcdaifaocgjfaaW.PrintWords Go.Proofs.YtfcdaifaocgjfaaW.PrintLast Go.Proofs.YtfcdaifaocgjfaaW.PrintMore Go.Proofs.Ytfcdaifaocgjfaa.Pr
instance : Inhabited S76 := ⟨z76⟩
instance : Inhabited S50 := ⟨z50⟩
variable {H : Type} {enc : TypeId × Value → H} {W : World}
theorem openB {P : Program} {k : IntKind} {t e : TypeId} (ht : P.underlying t = some (.slice e)) (he : P.underlying e = some (.int k)) (hc : P.cellsOf e = 1) {fuel : Nat} {cs : List Value} {x : DataW H × List MemPlace} (h : DataW.trod enc P W 0 (fun _ => true) true fuel t cs = some x) (hw : ∀ n ∈ x.1.weights P t, n ≤ reachBytes) :
    ∃ (l : List Int) (A : Option Addr) (c : Nat), cs = [.slice A l.length c] ∧ l.length ≤ c ∧ Kd.C (Kd.int k) W A l.length l ∧ (∀ y ∈ l, (Lit.int k y).wf = true) ∧ l.length * P.bytesOf e ≤ reachBytes := by
  rcases ChangeShapes.open_ints ht he hc h with ⟨rfl, _⟩ | ⟨a, len, cap, zs, rfl, _, hl, hm, hz, hx, hcell, hwz⟩
  · exact ⟨[], none, 0, rfl, Nat.le_refl _, Kd.C_of_reads (d := (0 : Int)) (h1 := fun _ => rfl) ⟨rfl, by decide, fun h => absurd h (by decide)⟩, (fun y hy => by cases hy), by simp⟩
  · simp only [if_true] at hz
    have hlen : (zs.take len).length = len := by rw [List.length_take]; omega
    have hsz : len * P.bytesOf e ≤ reachBytes := by
      subst hx
      have h2 := hw (((ChangeShapes.lits (H := H) k (zs.take len)).length + (ChangeShapes.lits (H := H) k (zs.drop len)).length) * P.bytesOf e) (by simp [DataW.weights, ht])
      refine Nat.le_trans (Nat.mul_le_mul_right _ ?_) h2
      simp [ChangeShapes.lits]
      omega
    refine ⟨zs.take len, some a, cap, by rw [hlen], by omega, Kd.C_of_reads (d := (0 : Int)) (h1 := fun _ => rfl) ⟨rfl, by simp only [maxLen] at hm; omega, fun _ => ⟨a, rfl, fun j hj => ?_⟩⟩, fun y hy => hwz y (List.mem_of_mem_take hy), by rw [hlen]; exact hsz⟩
    rw [hlen] at hj
    rw [hcell j (by omega)]
    simp [List.getD_eq_getElem?_getD, hj]
set_option maxRecDepth 100000 in
theorem openDisk {v : Value} {d : DataW H} {p : List MemPlace} (hv : Value.okWide Try.prog W .any 0 24 v) (h : DataW.Trod enc Try.prog W 0 (fun _ => true) true 24 v d p) (hw : ∀ n ∈ d.weights Try.prog 24, n ≤ reachBytes) :
    ∃ (l : List Int) (A : Option Addr) (c : Nat) (l' : List Int) (A' : Option Addr) (c' : Nat), v = .agg #[.slice A l.length c, .slice A' l'.length c'] ∧ (l.length ≤ c ∧ l'.length ≤ c') ∧ (Kd.C (Kd.int .u8) W A l.length l ∧ Kd.C (Kd.int .u8) W A' l'.length l') ∧
      ((∀ y ∈ l, (Lit.int .u8 y).wf = true) ∧ ∀ y ∈ l', (Lit.int .u8 y).wf = true) ∧ (l.length ≤ reachBytes ∧ l'.length ≤ reachBytes) := by
  obtain ⟨v0, v1, y0, y1, n, rfl, rfl, rfl, h0, h1⟩ := Joins.open_agg2 Try.underlying24 (by kernel_rfl) (by kernel_rfl) hv h
  have hwl : ∀ m, (m ∈ y0.1.weights Try.prog 22 ∨ m ∈ y1.1.weights Try.prog 22) → m ≤ reachBytes := fun m hm => hw m (by
    simp only [DataW.weights, Try.underlying24, List.map_cons, List.map_nil, DataW.weightsEach, List.mem_append]
    rcases hm with h | h
    · exact .inl h
    · exact .inr (.inl h))
  obtain ⟨l, A, c, e0, a1, a2, a3, a4⟩ := openB Try.underlying22 Try.underlying5 (by kernel_rfl) h0 (fun m hm => hwl m (.inl hm))
  obtain ⟨l', A', c', e1, b1, b2, b3, b4⟩ := openB Try.underlying22 Try.underlying5 (by kernel_rfl) h1 (fun m hm => hwl m (.inr hm))
  have hb : Try.prog.bytesOf 5 = 1 := by kernel_rfl
  rw [hb, Nat.mul_one] at a4 b4
  simp only [List.cons.injEq, and_true] at e0 e1
  exact ⟨l, A, c, l', A', c', by rw [e0, e1], ⟨a1, b1⟩, ⟨a2, b2⟩, ⟨a3, b3⟩, ⟨a4, b4⟩⟩
end Go.Proofs.Ytfcdaifaocgjfaa.Ra
