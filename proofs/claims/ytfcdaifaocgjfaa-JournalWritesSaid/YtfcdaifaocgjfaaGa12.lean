/- Parts of the proof of JournalWrites; no condition. -/
import Derived.Deep.Slices
import Derived.Deep.SlicePairs
import Derived.Lib.SmallJoins
import Derived.SizedLaws
import Derived.Test.YtfcdaifaocgjfaaGa0
import Derived.Test.YtfcdaifaocgjfaaGa5
import Derived.Test.YtfcdaifaocgjfaaGa8
import Derived.Test.YtfcdaifaocgjfaaGa11
import Derived.Test.YtfcdaifaocgjfaaPr24
import Derived.Test.YtfcdaifaocgjfaaGa9
import Derived.Test.YtfcdaifaocgjfaaGa10
import Derived.Test.YtfcdaifaocgjfaaPr35
section
namespace Go.Proofs.Ytfcdaifaocgjfaa.Ra
open Go.RowKit Go.Proofs.YtfcdaifaocgjfaaW.PrintWords Go.Proofs.YtfcdaifaocgjfaaW.PrintLast Go.Proofs.YtfcdaifaocgjfaaW.PrintMore Go.Proofs.Ytfcdaifaocgjfaa.Pr
instance : Inhabited S76 := ⟨z76⟩
instance : Inhabited S50 := ⟨z50⟩
variable {H : Type} {enc : TypeId × Value → H} {W : World}
theorem openB {P : Program} {k : IntKind} {t e : TypeId} (ht : P.underlying t = some (.slice e)) (he : P.underlying e = some (.int k)) (hc : P.cellsOf e = 1) {fuel : Nat} {cs : List Value} {x : DataW H × List MemPlace} (h : DataW.trod enc P W 0 (fun _ => true) true fuel t cs = some x) (hw : ∀ n ∈ x.1.weights P t, n ≤ reachBytes) :
    ∃ (l : List Int) (A : Option Addr) (c : Nat), cs = [.slice A l.length c] ∧ l.length ≤ c ∧ Kd.C (Kd.int k) W A l.length l ∧ (∀ y ∈ l, (Lit.int k y).wf = true) ∧ l.length * P.bytesOf e ≤ reachBytes := by
  rcases ChangeShapes.open_ints ht he hc h with ⟨rfl, _⟩ | ⟨a, len, cap, zs, rfl, _, hl, hm, hz, hx, hcell, hwz⟩
  · exact ⟨[], none, 0, rfl, Nat.le_refl _, Kd.C_of_reads (d := (0 : Int)) (h1 := fun _ => rfl) ⟨rfl, by decide, fun h => absurd h (by decide)⟩, (fun y hy => by cases hy), by simp⟩
  · simp only [if_true] at hz
    have hlen : (zs.take len).length = len := by rw [List.length_take]; omega
    have hsz : len * P.bytesOf e ≤ reachBytes := by
      subst hx
      have h2 := hw (((ChangeShapes.lits (H := H) k (zs.take len)).length + (ChangeShapes.lits (H := H) k (zs.drop len)).length) * P.bytesOf e) (by simp [DataW.weights, ht])
      refine Nat.le_trans (Nat.mul_le_mul_right _ ?_) h2
      simp [ChangeShapes.lits]
      omega
    refine ⟨zs.take len, some a, cap, by rw [hlen], by omega, Kd.C_of_reads (d := (0 : Int)) (h1 := fun _ => rfl) ⟨rfl, by simp only [maxLen] at hm; omega, fun _ => ⟨a, rfl, fun j hj => ?_⟩⟩, fun y hy => hwz y (List.mem_of_mem_take hy), by rw [hlen]; exact hsz⟩
    rw [hlen] at hj
    rw [hcell j (by omega)]
    simp [List.getD_eq_getElem?_getD, hj]
set_option maxRecDepth 100000 in
theorem openDisk {v : Value} {d : DataW H} {p : List MemPlace} (hv : Value.okWide Try.prog W .any 0 24 v) (h : DataW.Trod enc Try.prog W 0 (fun _ => true) true 24 v d p) (hw : ∀ n ∈ d.weights Try.prog 24, n ≤ reachBytes) :
    ∃ (l : List Int) (A : Option Addr) (c : Nat) (l' : List Int) (A' : Option Addr) (c' : Nat), v = .agg #[.slice A l.length c, .slice A' l'.length c'] ∧ (l.length ≤ c ∧ l'.length ≤ c') ∧ (Kd.C (Kd.int .u8) W A l.length l ∧ Kd.C (Kd.int .u8) W A' l'.length l') ∧
      ((∀ y ∈ l, (Lit.int .u8 y).wf = true) ∧ ∀ y ∈ l', (Lit.int .u8 y).wf = true) ∧ (l.length ≤ reachBytes ∧ l'.length ≤ reachBytes) := by
  obtain ⟨v0, v1, y0, y1, n, rfl, rfl, rfl, h0, h1⟩ := Joins.open_agg2 Try.underlying24 (by kernel_rfl) (by kernel_rfl) hv h
  have hwl : ∀ m, (m ∈ y0.1.weights Try.prog 22 ∨ m ∈ y1.1.weights Try.prog 22) → m ≤ reachBytes := fun m hm => hw m (by
    simp only [DataW.weights, Try.underlying24, List.map_cons, List.map_nil, DataW.weightsEach, List.mem_append]
    rcases hm with h | h
    · exact .inl h
    · exact .inr (.inl h))
  obtain ⟨l, A, c, e0, a1, a2, a3, a4⟩ := openB Try.underlying22 Try.underlying5 (by kernel_rfl) h0 (fun m hm => hwl m (.inl hm))
  obtain ⟨l', A', c', e1, b1, b2, b3, b4⟩ := openB Try.underlying22 Try.underlying5 (by kernel_rfl) h1 (fun m hm => hwl m (.inr hm))
  have hb : Try.prog.bytesOf 5 = 1 := by kernel_rfl
  rw [hb, Nat.mul_one] at a4 b4
  simp only [List.cons.injEq, and_true] at e0 e1
  exact ⟨l, A, c, l', A', c', by rw [e0, e1], ⟨a1, b1⟩, ⟨a2, b2⟩, ⟨a3, b3⟩, ⟨a4, b4⟩⟩
/-- The places of a week. -/
theorem openP {fuel : Nat} {cs : List Value} {x : DataW H × List MemPlace} (h : DataW.trod enc Try.prog W 0 (fun _ => true) true fuel 46 cs = some x) :
    ∃ (l : List S76) (A : Option Addr) (c : Nat), cs = [.slice A l.length c] ∧ l.length ≤ c ∧ Kd.C k76 W A l.length l ∧ ∀ y ∈ l, (Lit.int .i64 y.f0).wf = true ∧ (Lit.int .i64 y.f1).wf = true := by
  rcases Deep.open_slice_pairs Try.underlying46 Try.underlying76 (by kernel_rfl) rfl rfl (by kernel_rfl) (by kernel_rfl) h with ⟨rfl, _⟩ | ⟨a, len, cap, m, n, V0, V1, D0, D1, P0, P1, rfl, _, hl, hm, hmm, _, hx⟩
  · exact ⟨[], none, 0, rfl, Nat.le_refl _, Kd.C_nil _ _, fun y hy => by cases hy⟩
  · simp only [if_true] at hmm
    subst hmm
    have each : ∀ i, i < len → ∃ s : S76, V0 i = .int .i64 s.f0 ∧ V1 i = .int .i64 s.f1 ∧ (Lit.int .i64 s.f0).wf = true ∧ (Lit.int .i64 s.f1).wf = true := by
      intro i hi
      obtain ⟨_, _, h0, h1⟩ := hx i (by omega)
      obtain ⟨z0, e0, _, w0⟩ := DataW.trod_int Try.underlying3 h0
      obtain ⟨z1, e1, _, w1⟩ := DataW.trod_int Try.underlying3 h1
      simp only [List.cons.injEq, and_true] at e0 e1
      exact ⟨⟨z0, z1⟩, e0, e1, w0, w1⟩
    obtain ⟨f, hf⟩ := Deep.choose_lt each
    refine ⟨(List.range len).map f, some a, m, by simp, by simpa using hl, ⟨rfl, by simp only [maxLen] at hm; simp; omega, fun _ => ⟨a, rfl, fun j p hj => ?_⟩⟩, fun y hy => ?_⟩
    · have hjl : j < len := by have := (List.getElem?_eq_some_iff.1 hj).1; simpa using this
      have hp : p = f j := by
        rw [List.getElem?_map, List.getElem?_range hjl] at hj
        exact (Option.some.inj hj).symm
      subst hp
      obtain ⟨e0, e1, _⟩ := hf j hjl
      obtain ⟨c0, c1, _⟩ := hx j (by omega)
      rw [e0] at c0
      rw [e1] at c1
      refine ⟨[.int .i64 (f j).f0, .int .i64 (f j).f1], rfl, k76_mk W (f j), fun i u hu => ?_⟩
      show W.cell? (a.add (j * 2 + i)) = some u
      match i, hu with
      | 0, hu => rw [← Option.some.inj hu]; exact c0
      | 1, hu => rw [← Option.some.inj hu]; exact c1
      | i + 2, hu => simp at hu
    · obtain ⟨i, hi, rfl⟩ := List.mem_map.1 hy
      exact (hf i (List.mem_range.1 hi)).2.2
/-- The numbers of a version are numbers of its kinds. -/
def VerWf (s : S50) : Prop := ((Lit.int .i64 s.f0).wf = true ∧ (Lit.int .i64 s.f2).wf = true) ∧ ∀ y ∈ s.f1.f0, (Lit.int .i64 y.f0).wf = true ∧ (Lit.int .i64 y.f1).wf = true
set_option maxRecDepth 100000 in
theorem openVer4 {n : Nat} {v0 v1 v2 v3 : Value} {y0 y1 y2 y3 : DataW H × List MemPlace} (h0 : DataW.trod enc Try.prog W 0 (fun _ => true) true n 3 [v0] = some y0) (h1 : DataW.trod enc Try.prog W 0 (fun _ => true) true n 48 [v1] = some y1)
    (h2 : DataW.trod enc Try.prog W 0 (fun _ => true) true n 3 [v2] = some y2) (h3 : DataW.trod enc Try.prog W 0 (fun _ => true) true n 4 [v3] = some y3) :
    ∃ (s : S50) (A : Option Addr) (c : Nat), v0 = .int .i64 s.f0 ∧ v1 = .slice A s.f1.f0.length c ∧ v2 = .int .i64 s.f2 ∧ v3 = .bool s.f3 ∧ s.f1.f0.length ≤ c ∧ Kd.C k76 W A s.f1.f0.length s.f1.f0 ∧ VerWf s := by
  obtain ⟨z0, e0, _, w0⟩ := DataW.trod_int Try.underlying3 h0
  obtain ⟨z2, e2, _, w2⟩ := DataW.trod_int Try.underlying3 h2
  obtain ⟨b, e3, _⟩ := DataW.trod_bool Try.underlying4 h3
  obtain ⟨y, m, _, _, hy⟩ := ChangeShapes.trod_struct1 Try.underlying48 h1
  have hy' : DataW.trod enc Try.prog W 0 (fun _ => true) true m 46 [v1] = some y := by
    have hc : Try.prog.cellsOf 46 = 1 := by kernel_rfl
    simpa [hc] using hy
  obtain ⟨l, A, c, e1, hl, hC, hw⟩ := openP hy'
  simp only [List.cons.injEq, and_true] at e0 e1 e2 e3
  exact ⟨⟨z0, ⟨l⟩, z2, b⟩, A, c, e0, e1, e2, e3, hl, hC, ⟨w0, w2⟩, hw⟩
set_option maxRecDepth 100000 in
theorem openVer {v : Value} {d : DataW H} {p : List MemPlace} (hv : Value.okWide Try.prog W .any 0 50 v) (h : DataW.Trod enc Try.prog W 0 (fun _ => true) true 50 v d p) :
    ∃ (s : S50) (A : Option Addr) (c : Nat), v = .agg #[.int .i64 s.f0, .slice A s.f1.f0.length c, .int .i64 s.f2, .bool s.f3] ∧ s.f1.f0.length ≤ c ∧ Kd.C k76 W A s.f1.f0.length s.f1.f0 ∧ VerWf s := by
  obtain ⟨v0, v1, v2, v3, y0, y1, y2, y3, n, rfl, _, _, h0, h1, h2, h3⟩ := Joins.open_agg4 Try.underlying50 (by kernel_rfl) (by kernel_rfl) hv h
  obtain ⟨s, A, c, rfl, rfl, rfl, rfl, hl, hC, hw⟩ := openVer4 h0 h1 h2 h3
  exact ⟨s, A, c, rfl, hl, hC, hw⟩
end Go.Proofs.Ytfcdaifaocgjfaa.Ra
end
section
namespace Go.Proofs.Ytfcdaifaocgjfaa.Pure
open Go.RowKit Go.Proofs.Ytfcdaifaocgjfaa.Pr Go.Proofs.YtfcdaifaocgjfaaW.PrintWords Go.Proofs.YtfcdaifaocgjfaaW.PrintLast Go.Proofs.YtfcdaifaocgjfaaW.PrintMore
theorem fewv_one (v : S50) : chalklineref34_FewVersions.f 5 [v] 1 = some (decide (v.f1.f0.length ≤ 70)) := by
  unfold chalklineref34_FewVersions.f
  rw [chalklineref34_FewVersions.l0, if_pos (by simp), chalklineref34_FewVersions.j1, if_pos (by decide), if_pos (by decide), if_pos (by simp)]
  show (if ((v.f1.f0.length : Nat) : Int) > 70 then _ else _) = _
  by_cases h : v.f1.f0.length ≤ 70
  · rw [if_neg (by omega), decide_eq_true h]
    show chalklineref34_FewVersions.l0 3 [v] 1 (wrap64 (0 + 1)) = _
    rw [w64 (by omega) (by omega), chalklineref34_FewVersions.l0, if_neg (by simp), chalklineref34_FewVersions.j1, if_neg (by decide)]
    rfl
  · rw [if_pos (by omega), decide_eq_false h]
theorem wok_of {s : S50} (h : Ra.VerWf s) : Oc.ok64 s.f0 = true ∧ Oc.ok64 s.f2 = true ∧ wok s.f1.f0 := ⟨ok64_of h.1.1, ok64_of h.1.2, fun p hp => ⟨ok64_of (h.2 p hp).1, ok64_of (h.2 p hp).2⟩⟩
end Go.Proofs.Ytfcdaifaocgjfaa.Pure
namespace Go.Proofs.Ytfcdaifaocgjfaa.Pr
open Go.RowKit Go.Proofs.YtfcdaifaocgjfaaW.PrintWords Go.Proofs.YtfcdaifaocgjfaaW.PrintLast Go.Proofs.YtfcdaifaocgjfaaW.PrintMore
set_option linter.unusedVariables false
/-- While a law over a disk and a version runs: their blocks. -/
structure Lv (w : World) (D V : Array Value) (W : World) : Prop where
  hb : Below w.heap.size w W
  d : W.heap[w.heap.size]? = some (.cells D 24)
  v : W.heap[w.heap.size + 1]? = some (.cells V 50)
theorem Lv.start (w : World) (D V : Array Value) : Lv w D V ((w.alloc (.cells D 24)).alloc (.cells V 50)) := by
  have h1 : (w.alloc (.cells D 24)).heap.size = w.heap.size + 1 := by simp
  refine ⟨below_alloc (below_alloc (Below.refl _ _) _) _, blk_alloc (blk_new _ _) _, ?_⟩
  have := blk_new (w.alloc (.cells D 24)) (.cells V 50)
  rwa [h1] at this
theorem Lv.below {w W W' : World} {D V : Array Value} (h : Lv w D V W) (hb : Below W.heap.size W W') : Lv w D V W' := ⟨below_step h.hb hb, blk_below h.d hb, blk_below h.v hb⟩
theorem Lv.alloc {w W : World} {D V : Array Value} (h : Lv w D V W) (x : Obj) : Lv w D V (W.alloc x) := h.below (below_alloc (Below.refl _ _) x)
theorem Lv.facts {w W : World} {a0 a1 b0 b1 b2 b3 : Value} (h : Lv w #[a0, a1] #[b0, b1, b2, b3] W) : (W.cell? ⟨w.heap.size, 0, none⟩ = some a0 ∧ W.cell? ⟨w.heap.size, 1, none⟩ = some a1) ∧
    (W.cell? ⟨w.heap.size + 1, 0, none⟩ = some b0 ∧ W.cell? ⟨w.heap.size + 1, 1, none⟩ = some b1 ∧ W.cell? ⟨w.heap.size + 1, 2, none⟩ = some b2 ∧ W.cell? ⟨w.heap.size + 1, 3, none⟩ = some b3) :=
  ⟨⟨(blk_cell h.d 0).trans rfl, (blk_cell h.d 1).trans rfl⟩, ⟨(blk_cell h.v 0).trans rfl, (blk_cell h.v 1).trans rfl, (blk_cell h.v 2).trans rfl, (blk_cell h.v 3).trans rfl⟩⟩
/-- A version's places, where they are read. -/
structure Pv (W : World) (A : Option Addr) (c : Nat) (l : List S76) : Prop where
  c0 : Kd.C k76 W A l.length l
  l0 : l.length ≤ c
theorem Pv.below {W W' : World} {A : Option Addr} {c : Nat} {l : List S76} (h : Pv W A c l) (hb : Below W.heap.size W W') : Pv W' A c l := ⟨Kd.C_below h.c0 hb, h.l0⟩
theorem Pv.alloc {W : World} {A : Option Addr} {c : Nat} {l : List S76} (h : Pv W A c l) (x : Obj) : Pv (W.alloc x) A c l := h.below (below_alloc (Below.refl _ _) x)
theorem Pv.one {W : World} {g : Nat} {A : Option Addr} {c : Nat} {v : S50} (h : Pv W A c v.f1.f0) (hg : W.heap[g]? = some (.cells #[.int .i64 v.f0, .slice A v.f1.f0.length c, .int .i64 v.f2, .bool v.f3] 50)) : Vr W (some ⟨g, 0, none⟩) 1 [v] := ⟨one_version hg h.l0 h.c0, Nat.le_refl _⟩
theorem j_append (k : Nat) {A A' B : Option Addr} {c c' d : Nat} {s o : List Int} {l : List S76} {w : World} (D : Dk w A c s A' c' o) (V : Pv w B d l) (n m : Int) (b : Bool) {r1 r2 : List Int} {r3 : Int} (h : journal_Append.f k s o n l m b = some (r1, r2, r3)) : Calls Try.prog 25 #[.agg #[.slice A s.length c, .slice A' o.length c'], .agg #[.int .i64 n, .slice B l.length d, .int .i64 m, .bool b]] w (DkR w r1 r2 r3) :=
  (c_append k A c s A' c' o n B d l m b r1 r2 r3 w D.c0 D.l0 D.c1 D.l1 V.c0 V.l0 h).mono fun _ _ h => dkR h
theorem j_fewv (k : Nat) {A : Option Addr} {c : Nat} {l : List S50} {w : World} (V : Vr w A c l) (m : Int) {r : Bool} (h : chalklineref34_FewVersions.f k l m = some r) : Calls Try.prog 16 #[.slice A l.length c, .int .i64 m] w fun e w' => e = .returned (.bool r) ∧ Below w.heap.size w w' :=
  (chalklineref34_FewVersions.calls k A c l m r w V.c0 V.l0 h).mono fun _ _ ⟨he, hd⟩ => ⟨he, hd.below⟩
end Go.Proofs.Ytfcdaifaocgjfaa.Pr
end
section
namespace Go.Proofs.Ytfcdaifaocgjfaa.Pr
open Go.RowKit Go.Proofs.YtfcdaifaocgjfaaW.PrintWords Go.Proofs.YtfcdaifaocgjfaaW.PrintLast Go.Proofs.YtfcdaifaocgjfaaW.PrintMore
attribute [local go_sem] max2_int min2_int max_two min_two max_three min_three max_four min_four   -- for this text's walks alone
set_option linter.unusedVariables false
set_option linter.unusedSimpArgs false
def chalklineref34_join.f (l0 : List Int) (l1 : List Int) : Option (List Int) := if l0.length + l1.length ≤ 100000000000000 then some (l0 ++ l1) else none
set_option maxHeartbeats 1000000 in
theorem chalklineref34_join.calls (A0 : Option Addr) (c0 : Nat) (l0 : List Int) (A1 : Option Addr) (c1 : Nat) (l1 : List Int) (r : List Int) (w : World) (hr0 : Kd.C (Kd.int .u8) w A0 l0.length l0) (hc0 : l0.length ≤ c0) (hr1 : Kd.C (Kd.int .u8) w A1 l1.length l1) (hc1 : l1.length ≤ c1) (h : chalklineref34_join.f l0 l1 = some r) :
    Calls Try.prog 41 #[.slice A0 l0.length c0, .slice A1 l1.length c1] w fun e w' => ∃ v0_ : Value, e = .returned (v0_) ∧ Kd.R (Kd.int .u8) 5 w' w.heap.size (fun _ => True) v0_ r ∧ Below w.heap.size w w' := by
  unfold chalklineref34_join.f at h
  split at h
  · rename_i hl
    obtain rfl := Option.some.inj h
    clear h
    have HL := Aside0.mk hl
    clear hl
    have HR := Aside0.mk hr0
    have HR1 := Aside0.mk hr1
    clear hr0 hc0 hr1 hc1
    go_enter Try.func41, Try.ntmps41
    go_wp2_with (first
      | (at_builtin; refine Kd.R_append_row (w0 := w) (Value.int .u8) (0 : Int) w.heap.size rfl (.const (.slice none 0 0)) _ 22 5 (.int .u8 0) 1 rfl Try.underlying22 info5 rfl (by omega) (.slice none 0 0) [] l0 A0 l0.length c0 (fun _ => True) rfl rfl (fun _ _ => trivial) (Kd.R_nil _ _ _ _ _) HR.out (Below.refl _ _) (Nat.le_refl _) (by have := HL.out; simp; omega) ?_; intro v5 w5 ho5 hb5 hg5 hat5; have H5 := Aside0.mk ho5; have B5 := Aside0.mk hb5; clear ho5 hb5 hg5 hat5)
      | (at_builtin; refine Kd.R_append_row (w0 := w) (Value.int .u8) (0 : Int) w.heap.size rfl (.tmp 6) (.tmp 7) 22 5 (.int .u8 0) 1 rfl Try.underlying22 info5 rfl (by omega) _ ([] ++ l0) l1 A1 l1.length c1 (fun _ => True) rfl rfl (fun _ _ => trivial) H5.out (Kd.C_below HR1.out B5.out) B5.out B5.out.size (by have := HL.out; simp; omega) ?_; intro v6 w6 ho6 hb6 hg6 hat6; have H6 := Aside0.mk ho6; have B6 := Aside0.mk hb6; clear ho6 hb6 hg6 hat6))
    go_ret
    exact ⟨_, rfl, H6.out, B6.out⟩
  · exact absurd h (by simp)
end Go.Proofs.Ytfcdaifaocgjfaa.Pr
end
section
namespace Go.Proofs.Ytfcdaifaocgjfaa.Pr
open Go.RowKit Go.Proofs.YtfcdaifaocgjfaaW.PrintWords Go.Proofs.YtfcdaifaocgjfaaW.PrintLast Go.Proofs.YtfcdaifaocgjfaaW.PrintMore
attribute [local go_sem] max2_int min2_int max_two min_two max_three min_three max_four min_four   -- for this text's walks alone
set_option linter.unusedVariables false
set_option linter.unusedSimpArgs false
def chalklineref02_four.f (a0 : Int) : Option (List Int) := some (([((Int.tdiv a0 16777216) % 4294967296) % 256, ((Int.tdiv a0 65536) % 4294967296) % 256, ((Int.tdiv a0 256) % 4294967296) % 256, (Int.tmod a0 256) % 256] : List Int))
set_option maxHeartbeats 8000000 in
set_option maxRecDepth 100000 in
theorem chalklineref02_four.calls (a0 : Int) (r : List Int) (w : World) (h : chalklineref02_four.f a0 = some r) :
    Calls Try.prog 60 #[.int .u32 a0] w fun e w' => ∃ v0_ : Value, e = .returned (v0_) ∧ Kd.R (Kd.int .u8) 5 w' w.heap.size (fun _ => True) v0_ r ∧ Below w.heap.size w w' := by
  have HB := Aside0.mk (Below.refl w.heap.size w)
  have H : (some (([((Int.tdiv a0 16777216) % 4294967296) % 256, ((Int.tdiv a0 65536) % 4294967296) % 256, ((Int.tdiv a0 256) % 4294967296) % 256, (Int.tmod a0 256) % 256] : List Int))) = some r := h
  clear h
  obtain ⟨y357, hy357⟩ : ∃ y_ : List Int, y_ = (([((Int.tdiv a0 16777216) % 4294967296) % 256, ((Int.tdiv a0 65536) % 4294967296) % 256, ((Int.tdiv a0 256) % 4294967296) % 256, (Int.tmod a0 256) % 256] : List Int)) := ⟨_, rfl⟩
  replace H : (some y357) = some r := by first | (rw [hy357]; with_reducible exact H) | (have H2_ := (Option.bind_some _ _).symm.trans H; rw [hy357]; with_reducible exact H2_) | (have H2_ := (Option.bind_some _ _).symm.trans H; with_reducible exact H2_) | with_reducible exact H | (rw [hy357]; exact H) | exact H
  have Ny357 := Aside0.mk hy357
  clear hy357
  obtain rfl := Option.some.inj H
  go_enter Try.func60, Try.ntmps60
  go_wp2_with (first | ((with_reducible refine gate_dst (N := 17) rfl ?_); refine Kd.R_lit (Kd.int .u8) _ 5 ?hg (N := 17) ?hd (xs := ([((Int.tdiv a0 16777216) % 4294967296) % 256, ((Int.tdiv a0 65536) % 4294967296) % 256, ((Int.tdiv a0 256) % 4294967296) % 256, (Int.tmod a0 256) % 256] : List Int)) (inner := [.int .u8 (((Int.tdiv a0 16777216) % 4294967296) % 256), .int .u8 (((Int.tdiv a0 65536) % 4294967296) % 256), .int .u8 (((Int.tdiv a0 256) % 4294967296) % 256), .int .u8 ((Int.tmod a0 256) % 256)]) (ok := fun _ => True) (okp := fun _ => True) ?hr ?hp (fun _ hk => hk) trivial (Below.refl _ _) (Nat.le_refl _) (by simp) ?_; (case hd => rfl); (case hg => rfl); (case hr => first | (go_simp; done) | (go_simp; rfl)); (case hp => exact (Reps.one (show Kd.M (Kd.int .u8) _ _ _ (((Int.tdiv a0 16777216) % 4294967296) % 256) [.int .u8 (((Int.tdiv a0 16777216) % 4294967296) % 256)] from rfl) (Reps.one (show Kd.M (Kd.int .u8) _ _ _ (((Int.tdiv a0 65536) % 4294967296) % 256) [.int .u8 (((Int.tdiv a0 65536) % 4294967296) % 256)] from rfl) (Reps.one (show Kd.M (Kd.int .u8) _ _ _ (((Int.tdiv a0 256) % 4294967296) % 256) [.int .u8 (((Int.tdiv a0 256) % 4294967296) % 256)] from rfl) (Reps.one (show Kd.M (Kd.int .u8) _ _ _ ((Int.tmod a0 256) % 256) [.int .u8 ((Int.tmod a0 256) % 256)] from rfl) (Reps.none _ _)))))); intro v358 w2 ho3 hb hg_ hnew_; clear hg_ hnew_; (first | rw [← Ny357.out] at ho3 | (simp only [Int.reduceToNat] at ho3; rw [← Ny357.out] at ho3)); have n0_ := Aside0.mk (Kd.R_lower ho3 (below_size (by repeat (first | (with_reducible first | exact HB.out | apply below_alloc | apply pw_below_drewN | apply below_drew1) | exact HB.out)))); have n1_ := Aside0.mk (below_step (by repeat (first | (with_reducible first | exact HB.out | apply below_alloc | apply pw_below_drewN | apply below_drew1) | exact HB.out)) hb); clear HB; have HO359 := n0_; have HB := n1_; clear n0_ n1_; clear hb ho3))
  go_ret
  exact ⟨_, by first | rfl | (simp [errW_none, errW_some] <;> rfl) | (simp [*, errW_none, errW_some] <;> rfl), by (with_reducible repeat (first | apply Kd.R_alloc | apply Kd.R_drewN | apply Kd.R_drew)); exact HO359.out, by repeat (first | (with_reducible first | exact HB.out | apply below_alloc | apply pw_below_drewN | apply below_drew1) | exact HB.out)⟩
def chalklineref02_Frame.f (k : Nat) (l0 : List Int) : Option (List Int × Int) := if (l0.length : Int) > 65536 then (some (([] : List Int), 2)) else ((chalklineref02_four.f (((l0.length : Int)) % 4294967296)).bind fun t360 => ((chalklineref02_Sum.f k l0).bind fun t363 => ((chalklineref02_four.f t363).bind fun t364 => (if t360.length + t364.length < 140737488355328 then ((some (t360 ++ t364 : List Int)).bind fun y367 => (if y367.length + l0.length < 140737488355328 then (some ((y367 ++ l0), 0)) else (none))) else (none)))))
set_option maxHeartbeats 8000000 in
set_option maxRecDepth 100000 in
theorem chalklineref02_Frame.calls (k : Nat) (A0 : Option Addr) (c0 : Nat) (l0 : List Int) (r1 : List Int) (r2 : Int) (w : World) (hr0 : Kd.C (Kd.int .u8) w A0 l0.length l0) (hc0 : l0.length ≤ c0) (h : chalklineref02_Frame.f k l0 = some (r1, r2)) :
    Calls Try.prog 46 #[.slice A0 l0.length c0] w fun e w' => ∃ v0_ : Value, e = .returned (.tuple #[v0_, .int .i64 r2]) ∧ Kd.R (Kd.int .u8) 5 w' w.heap.size (fun _ => True) v0_ r1 ∧ Below w.heap.size w w' := by
  have HR0 := Aside0.mk hr0
  have HC0 := Aside0.mk hc0
  clear hr0 hc0
  have HB := Aside0.mk (Below.refl w.heap.size w)
  have H : (if (l0.length : Int) > 65536 then (some (([] : List Int), 2)) else ((chalklineref02_four.f (((l0.length : Int)) % 4294967296)).bind fun t360 => ((chalklineref02_Sum.f k l0).bind fun t363 => ((chalklineref02_four.f t363).bind fun t364 => (if t360.length + t364.length < 140737488355328 then ((some (t360 ++ t364 : List Int)).bind fun y367 => (if y367.length + l0.length < 140737488355328 then (some ((y367 ++ l0), 0)) else (none))) else (none)))))) = some (r1, r2) := h
  clear h
  by_cases c2 : (l0.length : Int) > 65536
  · rw [if_pos c2] at H
    have c2b0 : decide (65536 < (l0.length : Int)) = true := decide_eq_true c2
    have c2b1 : decide (65536 < l0.length) = true := decide_eq_true (by omega)
    clear c2
    simp only [Option.some.injEq, Prod.mk.injEq] at H
    obtain ⟨rfl, rfl⟩ := H
    go_enter Try.func46, Try.ntmps46
    go_wp2
    go_ret2
    exact ⟨_, by first | rfl | (simp [errW_none, errW_some] <;> rfl) | (simp [*, errW_none, errW_some] <;> rfl), by first | exact Kd.R_nil _ _ _ _ _ | exact Kd.N_nil _ _ _ _ _ | exact Kd.V_nil _ _ _ _ _ | exact Kd.Q_nil _ _ _ _ _ | exact Kd.S_nil _ _ _ _ _, by repeat (first | (with_reducible first | exact HB.out | apply below_alloc | apply pw_below_drewN | apply below_drew1) | exact HB.out)⟩
  · rw [if_neg c2] at H
    have c2b0 : decide (65536 < (l0.length : Int)) = false := decide_eq_false c2
    have c2b1 : decide (65536 < l0.length) = false := decide_eq_false (by omega)
    clear c2
    replace H := Option.bind_eq_some_iff.mp H
    obtain ⟨t360, A30, H⟩ := H
    replace H : ((chalklineref02_Sum.f k l0).bind fun t363 => ((chalklineref02_four.f t363).bind fun t364 => (if t360.length + t364.length < 140737488355328 then ((some (t360 ++ t364 : List Int)).bind fun y367 => (if y367.length + l0.length < 140737488355328 then (some ((y367 ++ l0), 0)) else (none))) else (none)))) = some (r1, r2) := H
    have A3 := Aside0.mk A30
    clear A30
    replace H := Option.bind_eq_some_iff.mp H
    obtain ⟨t363, A40, H⟩ := H
    replace H : ((chalklineref02_four.f t363).bind fun t364 => (if t360.length + t364.length < 140737488355328 then ((some (t360 ++ t364 : List Int)).bind fun y367 => (if y367.length + l0.length < 140737488355328 then (some ((y367 ++ l0), 0)) else (none))) else (none))) = some (r1, r2) := H
    have A4 := Aside0.mk A40
    clear A40
    replace H := Option.bind_eq_some_iff.mp H
    obtain ⟨t364, A50, H⟩ := H
    replace H : (if t360.length + t364.length < 140737488355328 then ((some (t360 ++ t364 : List Int)).bind fun y367 => (if y367.length + l0.length < 140737488355328 then (some ((y367 ++ l0), 0)) else (none))) else (none)) = some (r1, r2) := H
    have A5 := Aside0.mk A50
    clear A50
    by_cases c6 : t360.length + t364.length < 140737488355328
    · rw [if_pos c6] at H
      have LMc6 := Aside0.mk c6
      clear c6
      obtain ⟨y367, hy367⟩ : ∃ y_ : List Int, y_ = (t360 ++ t364) := ⟨_, rfl⟩
      replace H : (if y367.length + l0.length < 140737488355328 then (some ((y367 ++ l0), 0)) else (none)) = some (r1, r2) := by first | (rw [hy367]; with_reducible exact H) | (have H2_ := (Option.bind_some _ _).symm.trans H; rw [hy367]; with_reducible exact H2_) | (have H2_ := (Option.bind_some _ _).symm.trans H; with_reducible exact H2_) | with_reducible exact H | (rw [hy367]; exact H) | exact H
      have Ny367 := Aside0.mk hy367
      clear hy367
      by_cases c7 : y367.length + l0.length < 140737488355328
      · rw [if_pos c7] at H
        have LMc7 := Aside0.mk c7
        clear c7
        obtain ⟨y370, hy370⟩ : ∃ y_ : List Int, y_ = (y367 ++ l0) := ⟨_, rfl⟩
        replace H : (some (y370, 0)) = some (r1, r2) := by first | (rw [hy370]; with_reducible exact H) | (have H2_ := (Option.bind_some _ _).symm.trans H; rw [hy370]; with_reducible exact H2_) | (have H2_ := (Option.bind_some _ _).symm.trans H; with_reducible exact H2_) | with_reducible exact H | (rw [hy370]; exact H) | exact H
        have Ny370 := Aside0.mk hy370
        clear hy370
        simp only [Option.some.injEq, Prod.mk.injEq] at H
        obtain ⟨rfl, rfl⟩ := H
        go_enter Try.func46, Try.ntmps46
        go_wp2_with (first | ((with_reducible refine gate_callee (f := 60) rfl ?_); refine goesL_ (some 10) rfl rfl Try.func60 (by kernel_rfl) rfl #[.int .u32 (((l0.length : Int)) % 4294967296)] rfl (by (try simp only [List.map_toArray, List.map_cons, List.map_nil]); first | done | rfl | (simp only [List.length_drop, List.length_take]; rfl)) ?_; (with_reducible refine (chalklineref02_four.calls (((l0.length : Int)) % 4294967296) t360 _ A3.out).mono ?_); rintro e w8 ⟨v361, rfl, ho0, hb⟩; refine ⟨_, rfl, ?_⟩; have n0_ := Aside0.mk (Kd.R_lower ho0 (below_size (by repeat (first | (with_reducible first | exact HB.out | apply below_alloc | apply pw_below_drewN | apply below_drew1) | exact HB.out)))); have n1_ := Aside0.mk (below_step (by repeat (first | (with_reducible first | exact HB.out | apply below_alloc | apply pw_below_drewN | apply below_drew1) | exact HB.out)) hb); clear HB; have HO362 := n0_; have HB := n1_; clear n0_ n1_; (try clear hb); (try clear hb2); (try clear hk); (try clear hi); (try clear ho0)) | ((with_reducible refine gate_callee (f := 61) rfl ?_); refine goesL_ (some 12) rfl rfl Try.func61 (by kernel_rfl) rfl #[.slice A0 l0.length c0] rfl (by (try simp only [List.map_toArray, List.map_cons, List.map_nil]); first | done | rfl | (simp only [List.length_drop, List.length_take]; rfl)) ?_; (with_reducible refine (chalklineref02_Sum.calls k _ _ l0 t363 _ ?side1 ?side2 A4.out).mono ?_); (case side1 => repeat (first | exact (Kd.C_below HR0.out HB.out) | (with_reducible refine Kd.C_alloc ?_ _) | (with_reducible refine Kd.C_drewN ?_ _) | (with_reducible refine Kd.C_drew ?_))); (case side2 => exact HC0.out); rintro e w' ⟨rfl, ⟨nd, rfl⟩⟩; refine ⟨_, rfl, ?_⟩) | ((with_reducible refine gate_callee (f := 60) rfl ?_); refine goesL_ (some 13) rfl rfl Try.func60 (by kernel_rfl) rfl #[.int .u32 t363] rfl (by (try simp only [List.map_toArray, List.map_cons, List.map_nil]); first | done | rfl | (simp only [List.length_drop, List.length_take]; rfl)) ?_; (with_reducible refine (chalklineref02_four.calls t363 t364 _ A5.out).mono ?_); rintro e w9 ⟨v365, rfl, ho0, hb⟩; refine ⟨_, rfl, ?_⟩; have n0_ := Aside0.mk (Kd.R_elder' (by (with_reducible repeat (first | apply Kd.R_alloc | apply Kd.R_drewN | apply Kd.R_drew)); exact HO362.out) (Kd.R_base ho0) hb); have n1_ := Aside0.mk (Kd.R_lower (Kd.R_new' ho0 (Kd.R_lt (by (with_reducible repeat (first | apply Kd.R_alloc | apply Kd.R_drewN | apply Kd.R_drew)); exact HO362.out))) (below_size (by repeat (first | (with_reducible first | exact HB.out | apply below_alloc | apply pw_below_drewN | apply below_drew1) | exact HB.out)))); have n2_ := Aside0.mk (below_step (by repeat (first | (with_reducible first | exact HB.out | apply below_alloc | apply pw_below_drewN | apply below_drew1) | exact HB.out)) hb); clear HO362; clear HB; have HO362 := n0_; have HO366 := n1_; have HB := n2_; clear n0_ n1_ n2_; (try clear hb); (try clear hb2); (try clear hk); (try clear hi); (try clear ho0); obtain ⟨Ao11, co11, eo11⟩ := Kd.R_slice HO366.out; subst eo11) | ((with_reducible refine gate_builtin (b := .append) (xs := #[.tmp 10, .tmp 13]) rfl ?_); at_builtin; refine Kd.R_append_rows (Kd.int .u8) (w0 := w) w.heap.size rfl (.tmp 10) (.tmp 13) 22 5 (.int .u8 0) 1 rfl Try.underlying22 info5 rfl (by decide) (by omega) v361 t360 t364 _ _ _ (fun k_ => some k_ ≠ (.slice Ao11 t364.length co11 : Value).ownBlock) (fun _ => False) rfl rfl ?aO ?aR (fun _ _ h => h) (fun _ h => h.elim) ?aF ?aB ?aS ?aL ?_; (case aR => repeat (first | exact (Kd.R_reads' HO366.out).2.2 | (with_reducible refine Kd.C_alloc ?_ _) | (with_reducible refine Kd.C_drewN ?_ _) | (with_reducible refine Kd.C_drew ?_))); (case aB => exact (by repeat (first | (with_reducible first | exact HB.out | apply below_alloc | apply pw_below_drewN | apply below_drew1) | exact HB.out))); (case aF => exact (fun k_ hk => Kd.fresh' (Kd.R_lt (by (with_reducible repeat (first | apply Kd.R_alloc | apply Kd.R_drewN | apply Kd.R_drew)); exact HO366.out)) k_ hk)); (case aO => exact (by (with_reducible repeat (first | apply Kd.R_alloc | apply Kd.R_drewN | apply Kd.R_drew)); exact Kd.R_mono HO362.out (fun _ hk => hk.2))); (case aS => exact (below_size (by repeat (first | (with_reducible first | exact HB.out | apply below_alloc | apply pw_below_drewN | apply below_drew1) | exact HB.out)))); (case aL => have := LMc6.out; omega); intro v368 w10 ho hb hg hat; rw [← Ny367.out] at ho; have n0_ := Aside0.mk (Kd.R_after (ok := (fun _ => True)) (by (with_reducible repeat (first | apply Kd.R_alloc | apply Kd.R_drewN | apply Kd.R_drew)); exact HO366.out) hg hat); have n1_ := Aside0.mk (hb); have n2_ := Aside0.mk (ho); clear HO366; clear HB; clear HO362; have HO366 := n0_; have HB := n1_; have HO369 := n2_; clear n0_ n1_ n2_; clear ho hb hg hat) | ((with_reducible refine gate_builtin (b := .append) (xs := #[.tmp 14, .tmp 15]) rfl ?_); at_builtin; refine Kd.R_append_rows (Kd.int .u8) (w0 := w) w.heap.size rfl (.tmp 14) (.tmp 15) 22 5 (.int .u8 0) 1 rfl Try.underlying22 info5 rfl (by decide) (by omega) v368 y367 l0 _ _ _ (fun k_ => some k_ ≠ (.slice Ao11 t364.length co11 : Value).ownBlock) (fun _ => False) rfl rfl ?aO ?aR (fun _ _ h => h) (fun _ h => h.elim) ?aF ?aB ?aS ?aL ?_; (case aR => repeat (first | exact (Kd.C_below HR0.out HB.out) | (with_reducible refine Kd.C_alloc ?_ _) | (with_reducible refine Kd.C_drewN ?_ _) | (with_reducible refine Kd.C_drew ?_))); (case aB => exact (by repeat (first | (with_reducible first | exact HB.out | apply below_alloc | apply pw_below_drewN | apply below_drew1) | exact HB.out))); (case aF => exact (fun k_ hk => Kd.fresh' (Kd.R_lt (by (with_reducible repeat (first | apply Kd.R_alloc | apply Kd.R_drewN | apply Kd.R_drew)); exact HO366.out)) k_ hk)); (case aO => exact (by (with_reducible repeat (first | apply Kd.R_alloc | apply Kd.R_drewN | apply Kd.R_drew)); exact HO369.out)); (case aS => exact (below_size (by repeat (first | (with_reducible first | exact HB.out | apply below_alloc | apply pw_below_drewN | apply below_drew1) | exact HB.out)))); (case aL => have := LMc7.out; omega); intro v371 w12 ho hb hg hat; rw [← Ny370.out] at ho; have n0_ := Aside0.mk (Kd.R_after (ok := (fun _ => True)) (by (with_reducible repeat (first | apply Kd.R_alloc | apply Kd.R_drewN | apply Kd.R_drew)); exact HO366.out) hg hat); have n1_ := Aside0.mk (hb); have n2_ := Aside0.mk (ho); clear HO366; clear HB; clear HO369; have HO366 := n0_; have HB := n1_; have HO372 := n2_; clear n0_ n1_ n2_; clear ho hb hg hat))
        go_ret2
        exact ⟨_, by first | rfl | (simp [errW_none, errW_some] <;> rfl) | (simp [*, errW_none, errW_some] <;> rfl), by (with_reducible repeat (first | apply Kd.R_alloc | apply Kd.R_drewN | apply Kd.R_drew)); exact Kd.R_mono HO372.out (fun _ hk => trivial), by repeat (first | (with_reducible first | exact HB.out | apply below_alloc | apply pw_below_drewN | apply below_drew1) | exact HB.out)⟩
      · rw [if_neg c7] at H
        exact absurd H (by simp)
    · rw [if_neg c6] at H
      exact absurd H (by simp)
end Go.Proofs.Ytfcdaifaocgjfaa.Pr
end
