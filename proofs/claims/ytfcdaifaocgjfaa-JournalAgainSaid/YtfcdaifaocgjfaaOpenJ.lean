/- A part of the proof of JournalAgain; no condition. -/
import Derived.Deep.Slices
import Derived.Deep.SlicePairs
import Derived.Lib.SmallJoins
import Derived.SizedLaws
import Derived.Test.YtfcdaifaocgjfaaPr0
namespace Go.Proofs.Ytfcdaifaocgjfaa.Ra
open Go.RowKit Go.Proofs.YtfcdaifaocgjfaaW.PrintWords Go.Proofs.YtfcdaifaocgjfaaW.PrintLast Go.Proofs.YtfcdaifaocgjfaaW.PrintMore Go.Proofs.Ytfcdaifaocgjfaa.Pr
instance : Inhabited S76 := ⟨z76⟩
instance : Inhabited S50 := ⟨z50⟩
variable {H : Type} {enc : TypeId × Value → H} {W : World}
theorem openB {P : Program} {k : IntKind} {t e : TypeId} (ht : P.underlying t = some (.slice e)) (he : P.underlying e = some (.int k)) (hc : P.cellsOf e = 1) {fuel : Nat} {cs : List Value} {x : DataW H × List MemPlace} (h : DataW.trod enc P W 0 (fun _ => true) true fuel t cs = some x) (hw : ∀ n ∈ x.1.weights P t, n ≤ reachBytes) :
    ∃ (l : List Int) (A : Option Addr) (c : Nat), cs = [.slice A l.length c] ∧ l.length ≤ c ∧ Kd.C (Kd.int k) W A l.length l ∧ (∀ y ∈ l, (Lit.int k y).wf = true) ∧ l.length * P.bytesOf e ≤ reachBytes := by
  rcases ChangeShapes.open_ints ht he hc h with ⟨rfl, _⟩ | ⟨a, len, cap, zs, rfl, _, hl, hm, hz, hx, hcell, hwz⟩
  · exact ⟨[], none, 0, rfl, Nat.le_refl _, Kd.C_of_reads (d := (0 : Int)) (h1 := fun _ => rfl) ⟨rfl, by decide, fun h => absurd h (by decide)⟩, (fun y hy => by cases hy), by simp⟩
  · simp only [if_true] at hz
    have hlen : (zs.take len).length = len := by rw [List.length_take]; omega
    have hsz : len * P.bytesOf e ≤ reachBytes := by
      subst hx
      have h2 := hw (((ChangeShapes.lits (H := H) k (zs.take len)).length + (ChangeShapes.lits (H := H) k (zs.drop len)).length) * P.bytesOf e) (by simp [DataW.weights, ht])
      refine Nat.le_trans (Nat.mul_le_mul_right _ ?_) h2
      simp [ChangeShapes.lits]
      omega
    refine ⟨zs.take len, some a, cap, by rw [hlen], by omega, Kd.C_of_reads (d := (0 : Int)) (h1 := fun _ => rfl) ⟨rfl, by simp only [maxLen] at hm; omega, fun _ => ⟨a, rfl, fun j hj => ?_⟩⟩, fun y hy => hwz y (List.mem_of_mem_take hy), by rw [hlen]; exact hsz⟩
    rw [hlen] at hj
    rw [hcell j (by omega)]
    simp [List.getD_eq_getElem?_getD, hj]
set_option maxRecDepth 100000 in
theorem openDisk {v : Value} {d : DataW H} {p : List MemPlace} (hv : Value.okWide Try.prog W .any 0 24 v) (h : DataW.Trod enc Try.prog W 0 (fun _ => true) true 24 v d p) (hw : ∀ n ∈ d.weights Try.prog 24, n ≤ reachBytes) :
    ∃ (l : List Int) (A : Option Addr) (c : Nat) (l' : List Int) (A' : Option Addr) (c' : Nat), v = .agg #[.slice A l.length c, .slice A' l'.length c'] ∧ (l.length ≤ c ∧ l'.length ≤ c') ∧ (Kd.C (Kd.int .u8) W A l.length l ∧ Kd.C (Kd.int .u8) W A' l'.length l') ∧
      ((∀ y ∈ l, (Lit.int .u8 y).wf = true) ∧ ∀ y ∈ l', (Lit.int .u8 y).wf = true) ∧ (l.length ≤ reachBytes ∧ l'.length ≤ reachBytes) := by
  obtain ⟨v0, v1, y0, y1, n, rfl, rfl, rfl, h0, h1⟩ := Joins.open_agg2 Try.underlying24 (by kernel_rfl) (by kernel_rfl) hv h
  have hwl : ∀ m, (m ∈ y0.1.weights Try.prog 22 ∨ m ∈ y1.1.weights Try.prog 22) → m ≤ reachBytes := fun m hm => hw m (by
    simp only [DataW.weights, Try.underlying24, List.map_cons, List.map_nil, DataW.weightsEach, List.mem_append]
    rcases hm with h | h
    · exact .inl h
    · exact .inr (.inl h))
  obtain ⟨l, A, c, e0, a1, a2, a3, a4⟩ := openB Try.underlying22 Try.underlying5 (by kernel_rfl) h0 (fun m hm => hwl m (.inl hm))
  obtain ⟨l', A', c', e1, b1, b2, b3, b4⟩ := openB Try.underlying22 Try.underlying5 (by kernel_rfl) h1 (fun m hm => hwl m (.inr hm))
  have hb : Try.prog.bytesOf 5 = 1 := by kernel_rfl
  rw [hb, Nat.mul_one] at a4 b4
  simp only [List.cons.injEq, and_true] at e0 e1
  exact ⟨l, A, c, l', A', c', by rw [e0, e1], ⟨a1, b1⟩, ⟨a2, b2⟩, ⟨a3, b3⟩, ⟨a4, b4⟩⟩
/-- The places of a week. -/
theorem openP {fuel : Nat} {cs : List Value} {x : DataW H × List MemPlace} (h : DataW.trod enc Try.prog W 0 (fun _ => true) true fuel 46 cs = some x) :
    ∃ (l : List S76) (A : Option Addr) (c : Nat), cs = [.slice A l.length c] ∧ l.length ≤ c ∧ Kd.C k76 W A l.length l ∧ ∀ y ∈ l, (Lit.int .i64 y.f0).wf = true ∧ (Lit.int .i64 y.f1).wf = true := by
  rcases Deep.open_slice_pairs Try.underlying46 Try.underlying76 (by kernel_rfl) rfl rfl (by kernel_rfl) (by kernel_rfl) h with ⟨rfl, _⟩ | ⟨a, len, cap, m, n, V0, V1, D0, D1, P0, P1, rfl, _, hl, hm, hmm, _, hx⟩
  · exact ⟨[], none, 0, rfl, Nat.le_refl _, Kd.C_nil _ _, fun y hy => by cases hy⟩
  · simp only [if_true] at hmm
    subst hmm
    have each : ∀ i, i < len → ∃ s : S76, V0 i = .int .i64 s.f0 ∧ V1 i = .int .i64 s.f1 ∧ (Lit.int .i64 s.f0).wf = true ∧ (Lit.int .i64 s.f1).wf = true := by
      intro i hi
      obtain ⟨_, _, h0, h1⟩ := hx i (by omega)
      obtain ⟨z0, e0, _, w0⟩ := DataW.trod_int Try.underlying3 h0
      obtain ⟨z1, e1, _, w1⟩ := DataW.trod_int Try.underlying3 h1
      simp only [List.cons.injEq, and_true] at e0 e1
      exact ⟨⟨z0, z1⟩, e0, e1, w0, w1⟩
    obtain ⟨f, hf⟩ := Deep.choose_lt each
    refine ⟨(List.range len).map f, some a, m, by simp, by simpa using hl, ⟨rfl, by simp only [maxLen] at hm; simp; omega, fun _ => ⟨a, rfl, fun j p hj => ?_⟩⟩, fun y hy => ?_⟩
    · have hjl : j < len := by have := (List.getElem?_eq_some_iff.1 hj).1; simpa using this
      have hp : p = f j := by
        rw [List.getElem?_map, List.getElem?_range hjl] at hj
        exact (Option.some.inj hj).symm
      subst hp
      obtain ⟨e0, e1, _⟩ := hf j hjl
      obtain ⟨c0, c1, _⟩ := hx j (by omega)
      rw [e0] at c0
      rw [e1] at c1
      refine ⟨[.int .i64 (f j).f0, .int .i64 (f j).f1], rfl, k76_mk W (f j), fun i u hu => ?_⟩
      show W.cell? (a.add (j * 2 + i)) = some u
      match i, hu with
      | 0, hu => rw [← Option.some.inj hu]; exact c0
      | 1, hu => rw [← Option.some.inj hu]; exact c1
      | i + 2, hu => simp at hu
    · obtain ⟨i, hi, rfl⟩ := List.mem_map.1 hy
      exact (hf i (List.mem_range.1 hi)).2.2
/-- The numbers of a version are numbers of its kinds. -/
def VerWf (s : S50) : Prop := ((Lit.int .i64 s.f0).wf = true ∧ (Lit.int .i64 s.f2).wf = true) ∧ ∀ y ∈ s.f1.f0, (Lit.int .i64 y.f0).wf = true ∧ (Lit.int .i64 y.f1).wf = true
set_option maxRecDepth 100000 in
theorem openVer4 {n : Nat} {v0 v1 v2 v3 : Value} {y0 y1 y2 y3 : DataW H × List MemPlace} (h0 : DataW.trod enc Try.prog W 0 (fun _ => true) true n 3 [v0] = some y0) (h1 : DataW.trod enc Try.prog W 0 (fun _ => true) true n 48 [v1] = some y1)
    (h2 : DataW.trod enc Try.prog W 0 (fun _ => true) true n 3 [v2] = some y2) (h3 : DataW.trod enc Try.prog W 0 (fun _ => true) true n 4 [v3] = some y3) :
    ∃ (s : S50) (A : Option Addr) (c : Nat), v0 = .int .i64 s.f0 ∧ v1 = .slice A s.f1.f0.length c ∧ v2 = .int .i64 s.f2 ∧ v3 = .bool s.f3 ∧ s.f1.f0.length ≤ c ∧ Kd.C k76 W A s.f1.f0.length s.f1.f0 ∧ VerWf s := by
  obtain ⟨z0, e0, _, w0⟩ := DataW.trod_int Try.underlying3 h0
  obtain ⟨z2, e2, _, w2⟩ := DataW.trod_int Try.underlying3 h2
  obtain ⟨b, e3, _⟩ := DataW.trod_bool Try.underlying4 h3
  obtain ⟨y, m, _, _, hy⟩ := ChangeShapes.trod_struct1 Try.underlying48 h1
  have hy' : DataW.trod enc Try.prog W 0 (fun _ => true) true m 46 [v1] = some y := by
    have hc : Try.prog.cellsOf 46 = 1 := by kernel_rfl
    simpa [hc] using hy
  obtain ⟨l, A, c, e1, hl, hC, hw⟩ := openP hy'
  simp only [List.cons.injEq, and_true] at e0 e1 e2 e3
  exact ⟨⟨z0, ⟨l⟩, z2, b⟩, A, c, e0, e1, e2, e3, hl, hC, ⟨w0, w2⟩, hw⟩
set_option maxRecDepth 100000 in
theorem openVer {v : Value} {d : DataW H} {p : List MemPlace} (hv : Value.okWide Try.prog W .any 0 50 v) (h : DataW.Trod enc Try.prog W 0 (fun _ => true) true 50 v d p) :
    ∃ (s : S50) (A : Option Addr) (c : Nat), v = .agg #[.int .i64 s.f0, .slice A s.f1.f0.length c, .int .i64 s.f2, .bool s.f3] ∧ s.f1.f0.length ≤ c ∧ Kd.C k76 W A s.f1.f0.length s.f1.f0 ∧ VerWf s := by
  obtain ⟨v0, v1, v2, v3, y0, y1, y2, y3, n, rfl, _, _, h0, h1, h2, h3⟩ := Joins.open_agg4 Try.underlying50 (by kernel_rfl) (by kernel_rfl) hv h
  obtain ⟨s, A, c, rfl, rfl, rfl, rfl, hl, hC, hw⟩ := openVer4 h0 h1 h2 h3
  exact ⟨s, A, c, rfl, hl, hC, hw⟩
end Go.Proofs.Ytfcdaifaocgjfaa.Ra
