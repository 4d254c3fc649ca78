/- Parts of the proof of JournalBack; no condition. -/
import Derived.Deep.Slices
import Derived.Deep.SlicePairs
import Derived.Lib.SmallJoins
import Derived.SizedLaws
import Derived.Test.YtfcdaifaocgjfaaGa0
import Derived.Test.YtfcdaifaocgjfaaGa5
import Derived.Test.YtfcdaifaocgjfaaGa8
import Derived.Test.YtfcdaifaocgjfaaPr24
section
namespace Go.Proofs.Ytfcdaifaocgjfaa.Ra
open Go.RowKit Go.Proofs.YtfcdaifaocgjfaaW.PrintWords Go.Proofs.YtfcdaifaocgjfaaW.PrintLast Go.Proofs.YtfcdaifaocgjfaaW.PrintMore Go.Proofs.Ytfcdaifaocgjfaa.Pr
instance : Inhabited S76 := ⟨z76⟩
instance : Inhabited S50 := ⟨z50⟩
variable {H : Type} {enc : TypeId × Value → H} {W : World}
/-- The places of a week. -/
theorem openP {fuel : Nat} {cs : List Value} {x : DataW H × List MemPlace} (h : DataW.trod enc Try.prog W 0 (fun _ => true) true fuel 46 cs = some x) :
    ∃ (l : List S76) (A : Option Addr) (c : Nat), cs = [.slice A l.length c] ∧ l.length ≤ c ∧ Kd.C k76 W A l.length l ∧ ∀ y ∈ l, (Lit.int .i64 y.f0).wf = true ∧ (Lit.int .i64 y.f1).wf = true := by
  rcases Deep.open_slice_pairs Try.underlying46 Try.underlying76 (by kernel_rfl) rfl rfl (by kernel_rfl) (by kernel_rfl) h with ⟨rfl, _⟩ | ⟨a, len, cap, m, n, V0, V1, D0, D1, P0, P1, rfl, _, hl, hm, hmm, _, hx⟩
  · exact ⟨[], none, 0, rfl, Nat.le_refl _, Kd.C_nil _ _, fun y hy => by cases hy⟩
  · simp only [if_true] at hmm
    subst hmm
    have each : ∀ i, i < len → ∃ s : S76, V0 i = .int .i64 s.f0 ∧ V1 i = .int .i64 s.f1 ∧ (Lit.int .i64 s.f0).wf = true ∧ (Lit.int .i64 s.f1).wf = true := by
      intro i hi
      obtain ⟨_, _, h0, h1⟩ := hx i (by omega)
      obtain ⟨z0, e0, _, w0⟩ := DataW.trod_int Try.underlying3 h0
      obtain ⟨z1, e1, _, w1⟩ := DataW.trod_int Try.underlying3 h1
      simp only [List.cons.injEq, and_true] at e0 e1
      exact ⟨⟨z0, z1⟩, e0, e1, w0, w1⟩
    obtain ⟨f, hf⟩ := Deep.choose_lt each
    refine ⟨(List.range len).map f, some a, m, by simp, by simpa using hl, ⟨rfl, by simp only [maxLen] at hm; simp; omega, fun _ => ⟨a, rfl, fun j p hj => ?_⟩⟩, fun y hy => ?_⟩
    · have hjl : j < len := by have := (List.getElem?_eq_some_iff.1 hj).1; simpa using this
      have hp : p = f j := by
        rw [List.getElem?_map, List.getElem?_range hjl] at hj
        exact (Option.some.inj hj).symm
      subst hp
      obtain ⟨e0, e1, _⟩ := hf j hjl
      obtain ⟨c0, c1, _⟩ := hx j (by omega)
      rw [e0] at c0
      rw [e1] at c1
      refine ⟨[.int .i64 (f j).f0, .int .i64 (f j).f1], rfl, k76_mk W (f j), fun i u hu => ?_⟩
      show W.cell? (a.add (j * 2 + i)) = some u
      match i, hu with
      | 0, hu => rw [← Option.some.inj hu]; exact c0
      | 1, hu => rw [← Option.some.inj hu]; exact c1
      | i + 2, hu => simp at hu
    · obtain ⟨i, hi, rfl⟩ := List.mem_map.1 hy
      exact (hf i (List.mem_range.1 hi)).2.2
/-- The numbers of a version are numbers of its kinds. -/
def VerWf (s : S50) : Prop := ((Lit.int .i64 s.f0).wf = true ∧ (Lit.int .i64 s.f2).wf = true) ∧ ∀ y ∈ s.f1.f0, (Lit.int .i64 y.f0).wf = true ∧ (Lit.int .i64 y.f1).wf = true
set_option maxRecDepth 100000 in
theorem openVer4 {n : Nat} {v0 v1 v2 v3 : Value} {y0 y1 y2 y3 : DataW H × List MemPlace} (h0 : DataW.trod enc Try.prog W 0 (fun _ => true) true n 3 [v0] = some y0) (h1 : DataW.trod enc Try.prog W 0 (fun _ => true) true n 48 [v1] = some y1)
    (h2 : DataW.trod enc Try.prog W 0 (fun _ => true) true n 3 [v2] = some y2) (h3 : DataW.trod enc Try.prog W 0 (fun _ => true) true n 4 [v3] = some y3) :
    ∃ (s : S50) (A : Option Addr) (c : Nat), v0 = .int .i64 s.f0 ∧ v1 = .slice A s.f1.f0.length c ∧ v2 = .int .i64 s.f2 ∧ v3 = .bool s.f3 ∧ s.f1.f0.length ≤ c ∧ Kd.C k76 W A s.f1.f0.length s.f1.f0 ∧ VerWf s := by
  obtain ⟨z0, e0, _, w0⟩ := DataW.trod_int Try.underlying3 h0
  obtain ⟨z2, e2, _, w2⟩ := DataW.trod_int Try.underlying3 h2
  obtain ⟨b, e3, _⟩ := DataW.trod_bool Try.underlying4 h3
  obtain ⟨y, m, _, _, hy⟩ := ChangeShapes.trod_struct1 Try.underlying48 h1
  have hy' : DataW.trod enc Try.prog W 0 (fun _ => true) true m 46 [v1] = some y := by
    have hc : Try.prog.cellsOf 46 = 1 := by kernel_rfl
    simpa [hc] using hy
  obtain ⟨l, A, c, e1, hl, hC, hw⟩ := openP hy'
  simp only [List.cons.injEq, and_true] at e0 e1 e2 e3
  exact ⟨⟨z0, ⟨l⟩, z2, b⟩, A, c, e0, e1, e2, e3, hl, hC, ⟨w0, w2⟩, hw⟩
set_option maxRecDepth 100000 in
theorem openVers {fuel : Nat} {A : Option Addr} {len cap : Nat} {x : DataW H × List MemPlace} (h : DataW.trod enc Try.prog W 0 (fun _ => true) true fuel 33 [.slice A len cap] = some x) :
    ∃ (l : List S50), len = l.length ∧ l.length ≤ cap ∧ l.length ≤ maxLen ∧ Kd.C k50 W A l.length l ∧ ∀ s ∈ l, VerWf s := by
  rcases Deep.open_slice Try.underlying33 h with ⟨hcs, _⟩ | ⟨a, len', cap', m, n, D, Pl, hcs, _, hl, hm, hmm, _, hx⟩
  · simp only [List.cons.injEq, Value.slice.injEq, and_true] at hcs
    obtain ⟨rfl, rfl, rfl⟩ := hcs
    exact ⟨[], rfl, Nat.le_refl _, by decide, Kd.C_nil _ _, fun x hx => by cases hx⟩
  · simp only [List.cons.injEq, Value.slice.injEq, and_true] at hcs
    obtain ⟨rfl, rfl, rfl⟩ := hcs
    simp only [if_true] at hmm
    subst hmm
    have c50 : Try.prog.cellsOf 50 = 4 := by kernel_rfl
    have each : ∀ i, i < len → ∃ s : S50, (∃ (A1 : Option Addr) (c1 : Nat), (∀ j u, ([.int .i64 s.f0, .slice A1 s.f1.f0.length c1, .int .i64 s.f2, .bool s.f3] : List Value)[j]? = some u → W.cell? (a.add (i * 4 + j)) = some u) ∧ s.f1.f0.length ≤ c1 ∧ Kd.C k76 W A1 s.f1.f0.length s.f1.f0) ∧ VerWf s := by
      intro i hi
      obtain ⟨cs', h1, h2⟩ := hx i (by omega)
      rw [c50] at h1
      obtain ⟨_, hlen, hcell⟩ := World.cells?_some h1
      obtain ⟨y0, y1, y2, y3, k, _, _, f0, f1, f2, f3⟩ := Joins.trod_struct4 Try.underlying50 h2
      match cs', hlen with
      | [u0, u1, u2, u3], _ =>
        have c3 : Try.prog.cellsOf 3 = 1 := by kernel_rfl
        have c48 : Try.prog.cellsOf 48 = 1 := by kernel_rfl
        have c4 : Try.prog.cellsOf 4 = 1 := by kernel_rfl
        obtain ⟨s, A1, c1, rfl, rfl, rfl, rfl, hl1, hC1, hw1⟩ := openVer4 (v0 := u0) (v1 := u1) (v2 := u2) (v3 := u3) (by simpa [c3] using f0) (by simpa [c48] using f1) (by simpa [c3] using f2) (by simpa [c4] using f3)
        refine ⟨s, ⟨A1, c1, fun j u hu => ?_, hl1, hC1⟩, hw1⟩
        have hj : j < 4 := by have := (List.getElem?_eq_some_iff.1 hu).1; simpa using this
        rw [← Deep.add_add, hcell j hj]
        exact hu
    obtain ⟨f, hf⟩ := Deep.choose_lt each
    refine ⟨(List.range len).map f, by simp, by simpa using hl, by simp; omega, ⟨rfl, by simp only [maxLen] at hm; simp; omega, fun _ => ⟨a, rfl, fun j p hj => ?_⟩⟩, fun y hy => ?_⟩
    · have hjl : j < len := by have := (List.getElem?_eq_some_iff.1 hj).1; simpa using this
      have hp : p = f j := by
        rw [List.getElem?_map, List.getElem?_range hjl] at hj
        exact (Option.some.inj hj).symm
      subst hp
      obtain ⟨⟨A1, c1, hcell, hl1, hC1⟩, _⟩ := hf j hjl
      exact ⟨_, rfl, k50_mk W (f j) hl1 hC1, hcell⟩
    · obtain ⟨i, hi, rfl⟩ := List.mem_map.1 hy
      exact (hf i (List.mem_range.1 hi)).2
end Go.Proofs.Ytfcdaifaocgjfaa.Ra
end
section
namespace Go.Proofs.Ytfcdaifaocgjfaa.Pure
open Go.RowKit Go.Proofs.Ytfcdaifaocgjfaa.Pr Go.Proofs.YtfcdaifaocgjfaaW.PrintWords Go.Proofs.YtfcdaifaocgjfaaW.PrintLast Go.Proofs.YtfcdaifaocgjfaaW.PrintMore
theorem wok_of {s : S50} (h : Ra.VerWf s) : Oc.ok64 s.f0 = true ∧ Oc.ok64 s.f2 = true ∧ wok s.f1.f0 := ⟨ok64_of h.1.1, ok64_of h.1.2, fun p hp => ⟨ok64_of (h.2 p hp).1, ok64_of (h.2 p hp).2⟩⟩
end Go.Proofs.Ytfcdaifaocgjfaa.Pure
namespace Go.Proofs.Ytfcdaifaocgjfaa.Pr
open Go.RowKit Go.Proofs.YtfcdaifaocgjfaaW.PrintWords Go.Proofs.YtfcdaifaocgjfaaW.PrintLast Go.Proofs.YtfcdaifaocgjfaaW.PrintMore
set_option linter.unusedVariables false
/-- While a law over a disk and a version runs: their blocks. -/
structure Lv (w : World) (D V : Array Value) (W : World) : Prop where
  hb : Below w.heap.size w W
  d : W.heap[w.heap.size]? = some (.cells D 24)
  v : W.heap[w.heap.size + 1]? = some (.cells V 50)
theorem Lv.start (w : World) (D V : Array Value) : Lv w D V ((w.alloc (.cells D 24)).alloc (.cells V 50)) := by
  have h1 : (w.alloc (.cells D 24)).heap.size = w.heap.size + 1 := by simp
  refine ⟨below_alloc (below_alloc (Below.refl _ _) _) _, blk_alloc (blk_new _ _) _, ?_⟩
  have := blk_new (w.alloc (.cells D 24)) (.cells V 50)
  rwa [h1] at this
theorem Lv.below {w W W' : World} {D V : Array Value} (h : Lv w D V W) (hb : Below W.heap.size W W') : Lv w D V W' := ⟨below_step h.hb hb, blk_below h.d hb, blk_below h.v hb⟩
theorem Lv.alloc {w W : World} {D V : Array Value} (h : Lv w D V W) (x : Obj) : Lv w D V (W.alloc x) := h.below (below_alloc (Below.refl _ _) x)
theorem Lv.facts {w W : World} {a0 a1 b0 b1 b2 b3 : Value} (h : Lv w #[a0, a1] #[b0, b1, b2, b3] W) : (W.cell? ⟨w.heap.size, 0, none⟩ = some a0 ∧ W.cell? ⟨w.heap.size, 1, none⟩ = some a1) ∧
    (W.cell? ⟨w.heap.size + 1, 0, none⟩ = some b0 ∧ W.cell? ⟨w.heap.size + 1, 1, none⟩ = some b1 ∧ W.cell? ⟨w.heap.size + 1, 2, none⟩ = some b2 ∧ W.cell? ⟨w.heap.size + 1, 3, none⟩ = some b3) :=
  ⟨⟨(blk_cell h.d 0).trans rfl, (blk_cell h.d 1).trans rfl⟩, ⟨(blk_cell h.v 0).trans rfl, (blk_cell h.v 1).trans rfl, (blk_cell h.v 2).trans rfl, (blk_cell h.v 3).trans rfl⟩⟩
/-- A version's places, where they are read. -/
structure Pv (W : World) (A : Option Addr) (c : Nat) (l : List S76) : Prop where
  c0 : Kd.C k76 W A l.length l
  l0 : l.length ≤ c
theorem Pv.below {W W' : World} {A : Option Addr} {c : Nat} {l : List S76} (h : Pv W A c l) (hb : Below W.heap.size W W') : Pv W' A c l := ⟨Kd.C_below h.c0 hb, h.l0⟩
theorem Pv.alloc {W : World} {A : Option Addr} {c : Nat} {l : List S76} (h : Pv W A c l) (x : Obj) : Pv (W.alloc x) A c l := h.below (below_alloc (Below.refl _ _) x)
theorem Pv.one {W : World} {g : Nat} {A : Option Addr} {c : Nat} {v : S50} (h : Pv W A c v.f1.f0) (hg : W.heap[g]? = some (.cells #[.int .i64 v.f0, .slice A v.f1.f0.length c, .int .i64 v.f2, .bool v.f3] 50)) : Vr W (some ⟨g, 0, none⟩) 1 [v] := ⟨one_version hg h.l0 h.c0, Nat.le_refl _⟩
theorem j_append (k : Nat) {A A' B : Option Addr} {c c' d : Nat} {s o : List Int} {l : List S76} {w : World} (D : Dk w A c s A' c' o) (V : Pv w B d l) (n m : Int) (b : Bool) {r1 r2 : List Int} {r3 : Int} (h : journal_Append.f k s o n l m b = some (r1, r2, r3)) : Calls Try.prog 25 #[.agg #[.slice A s.length c, .slice A' o.length c'], .agg #[.int .i64 n, .slice B l.length d, .int .i64 m, .bool b]] w (DkR w r1 r2 r3) :=
  (c_append k A c s A' c' o n B d l m b r1 r2 r3 w D.c0 D.l0 D.c1 D.l1 V.c0 V.l0 h).mono fun _ _ h => dkR h
theorem j_fewv (k : Nat) {A : Option Addr} {c : Nat} {l : List S50} {w : World} (V : Vr w A c l) (m : Int) {r : Bool} (h : chalklineref34_FewVersions.f k l m = some r) : Calls Try.prog 16 #[.slice A l.length c, .int .i64 m] w fun e w' => e = .returned (.bool r) ∧ Below w.heap.size w w' :=
  (chalklineref34_FewVersions.calls k A c l m r w V.c0 V.l0 h).mono fun _ _ ⟨he, hd⟩ => ⟨he, hd.below⟩
end Go.Proofs.Ytfcdaifaocgjfaa.Pr
end
section
namespace Go.Proofs.Ytfcdaifaocgjfaa.Pr
open Go.RowKit Go.Proofs.YtfcdaifaocgjfaaW.PrintWords Go.Proofs.YtfcdaifaocgjfaaW.PrintLast Go.Proofs.YtfcdaifaocgjfaaW.PrintMore
set_option linter.unusedVariables false
set_option linter.unusedSimpArgs false
theorem C_set {W : World} {p : Addr} {v0 v : Value} {A : Option Addr} {n : Nat} {xs : List Int} (h : Kd.C (Kd.int .u8) W A n xs) (hp : W.cell? p = some v0) (hne : ∀ x, v0 ≠ .int .u8 x) : Kd.C (Kd.int .u8) (W.setCell p v) A n xs := by
  refine ⟨h.1, h.2.1, fun hn => ?_⟩
  obtain ⟨ad, e, hc⟩ := h.2.2 hn
  refine ⟨ad, e, fun j x hj => ?_⟩
  obtain ⟨c, hl, hK, hcell⟩ := hc j x hj
  refine ⟨c, hl, hK, fun i u hu => ?_⟩
  have h1 := hcell i u hu
  have hcx : c = [.int .u8 x] := hK
  have hux : u = .int .u8 x := by
    rw [hcx] at hu
    have := (List.getElem?_eq_some_iff.1 hu).1
    obtain rfl : i = 0 := by simpa using this
    exact (Option.some.inj hu).symm
  have hp' : p ≠ ad.add (j * (Kd.int .u8).sz + i) := fun e => by
    rw [e, h1] at hp
    exact hne x ((Option.some.inj hp).symm.trans hux)
  exact (World.cell?_setCell_other _ _ _ _ hp').trans h1
theorem cell_keep {w W : World} (hb : Below w.heap.size w W) {a : Addr} {v : Value} (hc : w.cell? a = some v) : W.cell? a = some v := (hb.cell (World.block_lt_of_cell? w a hc)).trans hc
theorem slc_ne (A : Option Addr) (n c : Nat) : ∀ x, Value.slice A n c ≠ .int .u8 x := fun x h => by cases h
theorem Dk.set2 {W : World} {g : Nat} {a0 a1 : Value} {A A' : Option Addr} {c c' : Nat} {s o : List Int} (D : Dk W A c s A' c' o) (hg : W.heap[g]? = some (.cells #[a0, a1] 24)) (h0 : ∀ x, a0 ≠ .int .u8 x) (h1 : ∀ x, a1 ≠ .int .u8 x) (x y : Value) : Dk ((W.setCell ⟨g, 0, none⟩ x).setCell ⟨g, 1, none⟩ y) A c s A' c' o := by
  have k1 : (W.setCell ⟨g, 0, none⟩ x).cell? ⟨g, 1, none⟩ = some a1 := by
    have := blk_cell (blk_put hg 0 x (cs' := #[x, a1]) rfl) 1
    exact this.trans rfl
  exact ⟨C_set (C_set D.c0 (dk0 hg) h0) k1 h1, D.l0, C_set (C_set D.c1 (dk0 hg) h0) k1 h1, D.l1⟩
theorem Dk.set1 {W : World} {p : Addr} {v0 : Value} {A A' : Option Addr} {c c' : Nat} {s o : List Int} (D : Dk W A c s A' c' o) (hp : W.cell? p = some v0) (h0 : ∀ x, v0 ≠ .int .u8 x) (v : Value) : Dk (W.setCell p v) A c s A' c' o :=
  ⟨C_set D.c0 hp h0, D.l0, C_set D.c1 hp h0, D.l1⟩
/-- A disk and true, made. -/
def WrR (w : World) (r : List Int × List Int) (e : Ending) (w' : World) : Prop := ∃ (A : Option Addr) (c : Nat) (A' : Option Addr) (c' : Nat), e = .returned (.tuple #[.agg #[.slice A r.1.length c, .slice A' r.2.length c'], .bool true]) ∧ Dk w' A c r.1 A' c' r.2 ∧ Below w.heap.size w w'
/-- While it is written: the result's block, the disk's block. -/
structure Wr (w W : World) (p : List Int × List Int) : Prop where
  hb : Below w.heap.size w W
  x : W.heap[w.heap.size]? = some (.cells #[.slice none 0 0, .slice none 0 0] 24)
  d : ∃ (A : Option Addr) (c : Nat) (A' : Option Addr) (c' : Nat), W.heap[w.heap.size + 1]? = some (.cells #[.slice A p.1.length c, .slice A' p.2.length c'] 24) ∧ Dk W A c p.1 A' c' p.2
theorem Wr.start (w : World) : Wr w ((w.alloc (.cells #[.slice none 0 0, .slice none 0 0] 24)).alloc (.cells #[.slice none 0 0, .slice none 0 0] 24)) ([], []) := by
  have h1 : (w.alloc (.cells #[.slice none 0 0, .slice none 0 0] 24)).heap.size = w.heap.size + 1 := by simp
  refine ⟨below_alloc (below_alloc (Below.refl _ _) _) _, blk_alloc (blk_new _ _) _, none, 0, none, 0, ?_, ⟨Kd.C_nil _ _, Nat.le_refl _, Kd.C_nil _ _, Nat.le_refl _⟩⟩
  have := blk_new (w.alloc (.cells #[.slice none 0 0, .slice none 0 0] 24)) (.cells #[.slice none 0 0, .slice none 0 0] 24)
  rwa [h1] at this
/-- Behind calls and makings, the disk's block overwritten. -/
theorem Wr.put {w W : World} {q : List Int × List Int} {A A' : Option Addr} {c c' : Nat} {a0 a1 : Value} (hb : Below w.heap.size w W) (hx : W.heap[w.heap.size]? = some (.cells #[.slice none 0 0, .slice none 0 0] 24)) (hd : W.heap[w.heap.size + 1]? = some (.cells #[a0, a1] 24)) (h0 : ∀ x, a0 ≠ .int .u8 x) (h1 : ∀ x, a1 ≠ .int .u8 x) (D : Dk W A c q.1 A' c' q.2) :
    Wr w ((W.setCell ⟨w.heap.size + 1, 0, none⟩ (.slice A q.1.length c)).setCell ⟨w.heap.size + 1, 1, none⟩ (.slice A' q.2.length c')) q :=
  ⟨below_set (below_set hb (by omega)) (by omega), blk_far (p := ⟨w.heap.size + 1, 1, none⟩) (blk_far (p := ⟨w.heap.size + 1, 0, none⟩) hx (show w.heap.size ≠ w.heap.size + 1 by omega) _) (show w.heap.size ≠ w.heap.size + 1 by omega) _,
    A, c, A', c', blk_put (blk_put hd 0 _ rfl) 1 _ rfl, D.set2 hd h0 h1 _ _⟩
set_option maxHeartbeats 8000000 in
set_option maxRecDepth 100000 in
theorem c_written (K : Nat) (A : Option Addr) (c : Nat) (l : List S50) (safe : Nat) (D : Nat → List Int × List Int) (E : List Int × List Int) (w : World) (V : Vr w A c l) (R : List Int × List Int) (hR : (safe = l.length → R = E) ∧ (¬ safe = l.length → R = D l.length)) (hl : l.length ≤ 100) (hsafe : safe ≤ l.length) (h0 : D 0 = ([], []))
    (hS : journal_Sync.f (D safe).1 (D safe).2 = some (E.1, E.2, 0))
    (hA : ∀ i, i < l.length → ∀ q : List Int × List Int, (i = safe → q = E) → (¬ i = safe → q = D i) → journal_Append.f K q.1 q.2 ((i : Int) + 1) (rd_T50 l i).f1.f0 (rd_T50 l i).f2 (rd_T50 l i).f3 = some ((D (i + 1)).1, (D (i + 1)).2, 0)) :
    Calls Try.prog 18 #[.slice A l.length c, .int .i64 safe] w (WrR w R) := by
  have HV := Aside0.mk V
  have HH := Aside0.mk (And.intro hS hA)
  have HR := Aside0.mk hR
  have HSF := Aside0.mk hsafe
  have H0 := Aside0.mk h0
  have HS := Aside0.mk (Wr.start w)
  clear V hS hA h0 hR hsafe
  go_enter Try.func18, Try.ntmps18
  go_wp2
  go_loopw [17] (fun i wr => ∃ k : Nat, k ≤ l.length ∧ i = .int .i64 k ∧ Aside0 (Wr w wr (D k))) (fun i _ => l.length - (intOf i).toNat)
  case atStart => exact ⟨0, Nat.zero_le _, rfl, ⟨by rw [H0.out]; exact HS.out⟩⟩
  case round =>
    clear HS H0
    obtain ⟨k, hk, rfl, W⟩ := hrel
    by_cases hlt : k < l.length
    · have hA := HH.out.2 k hlt
      have hv := HV.out
      obtain ⟨ad, A1, c1, eA, q0, q1, q2, q3, ql, qC⟩ := at_T50 hv.c0 (k : Int) (by omega) (by omega)
      rw [Int.toNat_natCast] at q0 q1 q2 q3
      replace q0 := cell_keep W.out.hb q0
      replace q1 := cell_keep W.out.hb q1
      replace q2 := cell_keep W.out.hb q2
      replace q3 := cell_keep W.out.hb q3
      have kb0 : (0 : Int) ≤ (k : Int) := by omega
      have kb1 : (k : Int) < (l.length : Int) := by omega
      have PV := Aside0.mk (Pv.mk qC ql)
      clear qC ql
      subst eA
      obtain ⟨d0, e0, d1, e1, hd, hD⟩ := W.out.d
      have W0 := Aside0.mk (And.intro W.out.hb (And.intro W.out.x (And.intro hd hD)))
      have p0 := dk0 hd
      have p1 := dk1 hd
      have hd' := hd
      clear W hd hD hv
      by_cases hs : k = safe
      · subst hs
        have FS := Aside0.mk HH.out.1
        have FA := Aside0.mk (hA E (fun _ => rfl) (fun h => absurd rfl h))
        have sw : IntKind.i64.wrap ((k : Int) + 1) = (k : Int) + 1 := by rw [IntKind.wrap_i64]; omega
        have W1 := Aside0.mk (And.intro (below_alloc W0.out.1 (.cells #[.int .i64 (rd_T50 l k).f0, .slice A1 (rd_T50 l k).f1.f0.length c1, .int .i64 (rd_T50 l k).f2, .bool (rd_T50 l k).f3] 50)) (And.intro (blk_alloc W0.out.2.1 (.cells #[.int .i64 (rd_T50 l k).f0, .slice A1 (rd_T50 l k).f1.f0.length c1, .int .i64 (rd_T50 l k).f2, .bool (rd_T50 l k).f3] 50)) (And.intro (blk_alloc hd' (.cells #[.int .i64 (rd_T50 l k).f0, .slice A1 (rd_T50 l k).f1.f0.length c1, .int .i64 (rd_T50 l k).f2, .bool (rd_T50 l k).f3] 50)) (And.intro (W0.out.2.2.2.alloc (.cells #[.int .i64 (rd_T50 l k).f0, .slice A1 (rd_T50 l k).f1.f0.length c1, .int .i64 (rd_T50 l k).f2, .bool (rd_T50 l k).f3] 50)) (blk_new wr (.cells #[.int .i64 (rd_T50 l k).f0, .slice A1 (rd_T50 l k).f1.f0.length c1, .int .i64 (rd_T50 l k).f2, .bool (rd_T50 l k).f3] 50))))))
        have gl : w.heap.size ≤ wr.heap.size := below_size W0.out.1
        have gn : w.heap.size + 1 < wr.heap.size := blk_lt hd'
        have p3 := dk0 W1.out.2.2.1
        have p4 := dk1 W1.out.2.2.1
        clear hA hd' W0
        go_wp2_with fail
        refine (j_sync W1.out.2.2.2.1 FS.out).mono ?_
        rintro e_ w2 ⟨A2, d2, B2, e2, rfl, X2, hb2⟩
        have W2 := Aside0.mk (And.intro (below_alloc (below_step W1.out.1 hb2) (.cells #[.slice A2 E.1.length d2, .slice B2 E.2.length e2] 24)) (And.intro (blk_alloc (blk_below W1.out.2.1 hb2) (.cells #[.slice A2 E.1.length d2, .slice B2 E.2.length e2] 24)) (And.intro (blk_alloc (blk_below W1.out.2.2.1 hb2) (.cells #[.slice A2 E.1.length d2, .slice B2 E.2.length e2] 24)) (And.intro (X2.alloc (.cells #[.slice A2 E.1.length d2, .slice B2 E.2.length e2] 24)) (blk_alloc (blk_below W1.out.2.2.2.2 hb2) (.cells #[.slice A2 E.1.length d2, .slice B2 E.2.length e2] 24))))))
        have r0 := dk0 (blk_new w2 (.cells #[.slice A2 E.1.length d2, .slice B2 E.2.length e2] 24))
        have r1 := dk1 (blk_new w2 (.cells #[.slice A2 E.1.length d2, .slice B2 E.2.length e2] 24))
        have r3 := dk0 W2.out.2.2.1
        have r4 := dk1 W2.out.2.2.1
        have r5 := blk_frozen W2.out.2.2.1 0
        have r6 := blk_frozen W2.out.2.2.1 1
        clear hb2 X2 W1 FS p3 p4 p0 p1 q0 q1 q2 q3
        go_upto_region 10 with fail
        have W3 := Aside0.mk (And.intro (Wr.put W2.out.1 W2.out.2.1 W2.out.2.2.1 (slc_ne _ _ _) (slc_ne _ _ _) W2.out.2.2.2.1) (blk_far (p := ⟨w.heap.size + 1, 1, none⟩) (blk_far (p := ⟨w.heap.size + 1, 0, none⟩) W2.out.2.2.2.2 (show wr.heap.size ≠ w.heap.size + 1 by omega) (.slice A2 E.1.length d2)) (show wr.heap.size ≠ w.heap.size + 1 by omega) (.slice B2 E.2.length e2)))
        clear W2 r0 r1 r3 r4 r5 r6
        generalize (((w2.alloc (.cells #[.slice A2 E.1.length d2, .slice B2 E.2.length e2] 24)).setCell ⟨w.heap.size + 1, 0, none⟩ (.slice A2 E.1.length d2)).setCell ⟨w.heap.size + 1, 1, none⟩ (.slice B2 E.2.length e2)) = w4 at W3 ⊢
        obtain ⟨a3, f3, a4, f4, hd3, hD3⟩ := W3.out.1.d
        have k0 := (blk_cell W3.out.2 0).trans rfl
        have k1 := (blk_cell W3.out.2 1).trans rfl
        have k2 := (blk_cell W3.out.2 2).trans rfl
        have k3 := (blk_cell W3.out.2 3).trans rfl
        have k4 := blk_frozen W3.out.2 0
        have W1 := Aside0.mk (And.intro (below_set (j := 0) (v := .int .i64 ((k : Int) + 1)) W3.out.1.hb gl) (And.intro (blk_far (p := ⟨wr.heap.size, 0, none⟩) W3.out.1.x (show w.heap.size ≠ wr.heap.size by omega) (.int .i64 ((k : Int) + 1))) (And.intro (blk_far (p := ⟨wr.heap.size, 0, none⟩) hd3 (show w.heap.size + 1 ≠ wr.heap.size by omega) (.int .i64 ((k : Int) + 1))) (hD3.set1 k0 (fun x h => by cases h) (.int .i64 ((k : Int) + 1))))))
        have k5 := blk_put W3.out.2 0 (.int .i64 ((k : Int) + 1)) rfl
        have k6 := (blk_cell k5 0).trans rfl
        have k7 := (blk_cell k5 1).trans rfl
        have k8 := (blk_cell k5 2).trans rfl
        have k9 := (blk_cell k5 3).trans rfl
        have p3 := dk0 W1.out.2.2.1
        have p4 := dk1 W1.out.2.2.1
        have PW := Aside0.mk (PV.out.below W1.out.1)
        clear W3 hd3 hD3 k5 PV
        go_wp2_with fail
        refine (j_append K W1.out.2.2.2 PW.out _ _ _ FA.out).mono ?_
        rintro e_ w2 ⟨A2, d2, B2, e2, rfl, X2, hb2⟩
        have W2 := Aside0.mk (And.intro (below_alloc (below_step W1.out.1 hb2) (.cells #[.slice A2 (D (k + 1)).1.length d2, .slice B2 (D (k + 1)).2.length e2] 24)) (And.intro (blk_alloc (blk_below W1.out.2.1 hb2) (.cells #[.slice A2 (D (k + 1)).1.length d2, .slice B2 (D (k + 1)).2.length e2] 24)) (And.intro (blk_alloc (blk_below W1.out.2.2.1 hb2) (.cells #[.slice A2 (D (k + 1)).1.length d2, .slice B2 (D (k + 1)).2.length e2] 24)) (X2.alloc (.cells #[.slice A2 (D (k + 1)).1.length d2, .slice B2 (D (k + 1)).2.length e2] 24)))))
        have r0 := dk0 (blk_new w2 (.cells #[.slice A2 (D (k + 1)).1.length d2, .slice B2 (D (k + 1)).2.length e2] 24))
        have r1 := dk1 (blk_new w2 (.cells #[.slice A2 (D (k + 1)).1.length d2, .slice B2 (D (k + 1)).2.length e2] 24))
        have r3 := dk0 W2.out.2.2.1
        have r4 := dk1 W2.out.2.2.1
        have r5 := blk_frozen W2.out.2.2.1 0
        have r6 := blk_frozen W2.out.2.2.1 1
        clear hb2 X2 W1 PW p3 p4 k0 k1 k2 k3 k4 k6 k7 k8 k9
        go_wp2_with fail
        refine ⟨⟨k + 1, by omega, by rw [Int.natCast_succ], ⟨Wr.put W2.out.1 W2.out.2.1 W2.out.2.2.1 (slc_ne _ _ _) (slc_ne _ _ _) W2.out.2.2.2⟩⟩, ?_⟩
        simp only [intOf]
        omega
      · have bs : ((k : Int) == (safe : Int)) = false := by rw [beq_eq_false_iff_ne]; omega
        have bs' : (k == safe) = false := by rw [beq_eq_false_iff_ne]; exact hs
        have FA := Aside0.mk (hA (D k) (fun h => absurd h hs) (fun _ => rfl))
        have sw : IntKind.i64.wrap ((k : Int) + 1) = (k : Int) + 1 := by rw [IntKind.wrap_i64]; omega
        have W1 := Aside0.mk (And.intro (below_alloc W0.out.1 (.cells #[.int .i64 ((k : Int) + 1), .slice A1 (rd_T50 l k).f1.f0.length c1, .int .i64 (rd_T50 l k).f2, .bool (rd_T50 l k).f3] 50)) (And.intro (blk_alloc W0.out.2.1 (.cells #[.int .i64 ((k : Int) + 1), .slice A1 (rd_T50 l k).f1.f0.length c1, .int .i64 (rd_T50 l k).f2, .bool (rd_T50 l k).f3] 50)) (And.intro (blk_alloc hd' (.cells #[.int .i64 ((k : Int) + 1), .slice A1 (rd_T50 l k).f1.f0.length c1, .int .i64 (rd_T50 l k).f2, .bool (rd_T50 l k).f3] 50)) (W0.out.2.2.2.alloc (.cells #[.int .i64 ((k : Int) + 1), .slice A1 (rd_T50 l k).f1.f0.length c1, .int .i64 (rd_T50 l k).f2, .bool (rd_T50 l k).f3] 50)))))
        have p3 := dk0 W1.out.2.2.1
        have p4 := dk1 W1.out.2.2.1
        have PW := Aside0.mk (PV.out.below W1.out.1)
        clear hA hs hd' W0 PV
        go_wp2_with fail
        refine (j_append K W1.out.2.2.2 PW.out _ _ _ FA.out).mono ?_
        rintro e_ w2 ⟨A2, d2, B2, e2, rfl, X2, hb2⟩
        have W2 := Aside0.mk (And.intro (below_alloc (below_step W1.out.1 hb2) (.cells #[.slice A2 (D (k + 1)).1.length d2, .slice B2 (D (k + 1)).2.length e2] 24)) (And.intro (blk_alloc (blk_below W1.out.2.1 hb2) (.cells #[.slice A2 (D (k + 1)).1.length d2, .slice B2 (D (k + 1)).2.length e2] 24)) (And.intro (blk_alloc (blk_below W1.out.2.2.1 hb2) (.cells #[.slice A2 (D (k + 1)).1.length d2, .slice B2 (D (k + 1)).2.length e2] 24)) (X2.alloc (.cells #[.slice A2 (D (k + 1)).1.length d2, .slice B2 (D (k + 1)).2.length e2] 24)))))
        have r0 := dk0 (blk_new w2 (.cells #[.slice A2 (D (k + 1)).1.length d2, .slice B2 (D (k + 1)).2.length e2] 24))
        have r1 := dk1 (blk_new w2 (.cells #[.slice A2 (D (k + 1)).1.length d2, .slice B2 (D (k + 1)).2.length e2] 24))
        have r3 := dk0 W2.out.2.2.1
        have r4 := dk1 W2.out.2.2.1
        have r5 := blk_frozen W2.out.2.2.1 0
        have r6 := blk_frozen W2.out.2.2.1 1
        clear hb2 X2 W1 PW p3 p4 p0 p1
        go_wp2_with fail
        refine ⟨⟨k + 1, by omega, by rw [Int.natCast_succ], ⟨Wr.put W2.out.1 W2.out.2.1 W2.out.2.2.1 (slc_ne _ _ _) (slc_ne _ _ _) W2.out.2.2.2⟩⟩, ?_⟩
        simp only [intOf]
        omega
    · obtain rfl : k = l.length := by omega
      obtain ⟨d0, e0, d1, e1, hd, hD⟩ := W.out.d
      have W0 := Aside0.mk (And.intro W.out.hb (And.intro W.out.x hD))
      have p0 := dk0 hd
      have p1 := dk1 hd
      have r3 := dk0 W.out.x
      have r4 := dk1 W.out.x
      have r5 := blk_frozen W.out.x 0
      have r6 := blk_frozen W.out.x 1
      clear W hd hD hk hlt HV
      by_cases hs : safe = l.length
      · subst hs
        obtain rfl := HR.out.1 rfl
        have FS := Aside0.mk HH.out.1
        clear HH HR HSF
        go_wp2_with fail
        refine (j_sync W0.out.2.2 FS.out).mono ?_
        rintro e_ w2 ⟨A2, d2, B2, e2, rfl, X2, hb2⟩
        have W2 := Aside0.mk (And.intro (below_alloc (below_step W0.out.1 hb2) (.cells #[.slice A2 R.1.length d2, .slice B2 R.2.length e2] 24)) (And.intro (blk_alloc (blk_below W0.out.2.1 hb2) (.cells #[.slice A2 R.1.length d2, .slice B2 R.2.length e2] 24)) (X2.alloc (.cells #[.slice A2 R.1.length d2, .slice B2 R.2.length e2] 24))))
        clear r3 r4 r5 r6 p0 p1
        have r0 := dk0 (blk_new w2 (.cells #[.slice A2 R.1.length d2, .slice B2 R.2.length e2] 24))
        have r1 := dk1 (blk_new w2 (.cells #[.slice A2 R.1.length d2, .slice B2 R.2.length e2] 24))
        have r3 := dk0 W2.out.2.1
        have r4 := dk1 W2.out.2.1
        have r5 := blk_frozen W2.out.2.1 0
        have r6 := blk_frozen W2.out.2.1 1
        clear hb2 X2 W0 FS
        go_wp2
        refine bodyPost_ret (results_ct rfl _ _ (w.heap.size) 24 #[.slice A2 R.1.length d2, .slice B2 R.2.length e2] (0, 0) _ rfl (blk_put (blk_put W2.out.2.1 0 _ rfl) 1 _ rfl) Try.underlying24 rfl (by kernel_rfl)) rfl ⟨A2, d2, B2, e2, rfl, W2.out.2.2.set2 W2.out.2.1 (slc_ne _ _ _) (slc_ne _ _ _) _ _, below_set (below_set W2.out.1 (Nat.le_refl _)) (Nat.le_refl _)⟩
      · have bs : ((safe : Int) == (l.length : Int)) = false := by rw [beq_eq_false_iff_ne]; omega
        have bs' : (safe == l.length) = false := by rw [beq_eq_false_iff_ne]; exact hs
        obtain rfl := HR.out.2 hs
        clear HH HR HSF hs
        go_wp2
        refine bodyPost_ret (results_ct rfl _ _ (w.heap.size) 24 #[.slice d0 (D l.length).1.length e0, .slice d1 (D l.length).2.length e1] (0, 0) _ rfl (blk_put (blk_put W0.out.2.1 0 _ rfl) 1 _ rfl) Try.underlying24 rfl (by kernel_rfl)) rfl ⟨d0, e0, d1, e1, rfl, W0.out.2.2.set2 W0.out.2.1 (slc_ne _ _ _) (slc_ne _ _ _) _ _, below_set (below_set W0.out.1 (Nat.le_refl _)) (Nat.le_refl _)⟩
end Go.Proofs.Ytfcdaifaocgjfaa.Pr
end
section
namespace Go.Proofs.Ytfcdaifaocgjfaa.Pure
open Go.RowKit Go.Proofs.Ytfcdaifaocgjfaa.Pr Go.Proofs.YtfcdaifaocgjfaaW.PrintWords Go.Proofs.YtfcdaifaocgjfaaW.PrintLast Go.Proofs.YtfcdaifaocgjfaaW.PrintMore
set_option linter.unusedVariables false
set_option linter.unusedSimpArgs false
theorem ws_loop : ∀ (ws : List S76) (pre rest : List Int) (acc : List S76), wok ws → week_Get_ws ws.length (pre ++ (Wk ws ++ rest)) (pre.length : Int) acc = (acc ++ ws, ((pre.length + (Wk ws).length : Nat) : Int), 0) := by
  intro ws
  induction ws with
  | nil => intro pre rest acc _; simp [week_Get_ws, Wk]
  | cons p ws ih =>
    intro pre rest acc h
    have hp := h p List.mem_cons_self
    have e0 : pre ++ (Wk (p :: ws) ++ rest) = pre ++ (Oc.grp (Oc.zz p.f0) ++ (Oc.grp (Oc.zz p.f1) ++ (Wk ws ++ rest))) := by rw [Wk_cons]; simp only [List.append_assoc]
    have g0 := Oc.getI_grp pre (Oc.grp (Oc.zz p.f1) ++ (Wk ws ++ rest)) p.f0 hp.1
    have g1 := Oc.getI_grp (pre ++ Oc.grp (Oc.zz p.f0)) (Wk ws ++ rest) p.f1 hp.2
    rw [List.length_append, List.append_assoc] at g1
    have e1 : (pre.length : Int) + ((Oc.grp (Oc.zz p.f0)).length : Int) = ((pre.length + (Oc.grp (Oc.zz p.f0)).length : Nat) : Int) := by omega
    have hi := ih (pre ++ (Oc.grp (Oc.zz p.f0) ++ Oc.grp (Oc.zz p.f1))) rest (acc ++ [⟨p.f0, p.f1⟩]) (fun q hq => h q (List.mem_cons_of_mem _ hq))
    rw [e0, List.length_cons, week_Get_ws, g0, if_neg (show ¬ ((0 : Int) ≠ 0) by decide)]
    dsimp only
    rw [e1, g1, if_neg (show ¬ ((0 : Int) ≠ 0) by decide)]
    dsimp only
    have e2 : (((pre.length + (Oc.grp (Oc.zz p.f0)).length : Nat) : Int)) + ((Oc.grp (Oc.zz p.f1)).length : Int) = ((pre ++ (Oc.grp (Oc.zz p.f0) ++ Oc.grp (Oc.zz p.f1))).length : Int) := by simp only [List.length_append]; omega
    have e3 : pre ++ (Oc.grp (Oc.zz p.f0) ++ (Oc.grp (Oc.zz p.f1) ++ (Wk ws ++ rest))) = pre ++ (Oc.grp (Oc.zz p.f0) ++ Oc.grp (Oc.zz p.f1)) ++ (Wk ws ++ rest) := by simp only [List.append_assoc]
    rw [e2, e3, hi]
    simp only [List.append_assoc, List.cons_append, List.nil_append, Prod.mk.injEq, true_and, and_true, Wk_cons, List.length_append]
    omega
theorem rd_rec (n : Int) (ws : List S76) (c : Int) (b : Bool) (hn : Oc.ok64 n = true) (hw : wok ws) (hl : ws.length ≤ 64) (hc : Oc.ok64 c = true) :
    rd1 (recI n ws c b) = (n, ((Oc.grp (Oc.zz n)).length : Int), 0) ∧ rd2 (recI n ws c b) = (ws, (((Oc.grp (Oc.zz n)).length + ((Oc.grp (Oc.zz ws.length)).length + (Wk ws).length) : Nat) : Int), 0) ∧
    rd3 (recI n ws c b) = (c, (((Oc.grp (Oc.zz n)).length + ((Oc.grp (Oc.zz ws.length)).length + (Wk ws).length) + (Oc.grp (Oc.zz c)).length : Nat) : Int), 0) ∧ rd4 (recI n ws c b) = (bit b, ((recI n ws c b).length : Int), 0) := by
  have hlen := ok64_nat ws.length (by omega)
  have h1 : rd1 (recI n ws c b) = (n, ((Oc.grp (Oc.zz n)).length : Int), 0) := by
    unfold rd1 rdNum
    rw [if_pos rfl]
    have := Oc.getI_grp [] (Oc.grp (Oc.zz ws.length) ++ (Wk ws ++ (Oc.grp (Oc.zz c) ++ Oc.grp (Oc.zz (bit b))))) n hn
    rw [List.nil_append, List.length_nil, show ((0 : Nat) : Int) = 0 from rfl, Int.zero_add] at this
    exact this
  have h2 : rd2 (recI n ws c b) = (ws, (((Oc.grp (Oc.zz n)).length + ((Oc.grp (Oc.zz ws.length)).length + (Wk ws).length) : Nat) : Int), 0) := by
    unfold rd2 rdWk
    rw [h1, if_pos rfl]
    unfold week_Get_w recI
    dsimp only
    rw [Oc.getI_grp (Oc.grp (Oc.zz n)) _ _ hlen, if_neg (show ¬ ((0 : Int) ≠ 0) by decide)]
    dsimp only
    rw [if_neg (by omega), if_neg (by omega), Int.toNat_natCast]
    have := ws_loop ws (Oc.grp (Oc.zz n) ++ Oc.grp (Oc.zz ws.length)) (Oc.grp (Oc.zz c) ++ Oc.grp (Oc.zz (bit b))) [] hw
    rw [List.length_append, List.nil_append, List.append_assoc] at this
    rw [show ((Oc.grp (Oc.zz n)).length : Int) + ((Oc.grp (Oc.zz (ws.length : Int))).length : Int) = (((Oc.grp (Oc.zz n)).length + (Oc.grp (Oc.zz (ws.length : Int))).length : Nat) : Int) by omega, this]
    simp only [Prod.mk.injEq, true_and, and_true]
    omega
  have h3 : rd3 (recI n ws c b) = (c, (((Oc.grp (Oc.zz n)).length + ((Oc.grp (Oc.zz ws.length)).length + (Wk ws).length) + (Oc.grp (Oc.zz c)).length : Nat) : Int), 0) := by
    unfold rd3 rdNum
    rw [h2, if_pos rfl]
    dsimp only
    have := Oc.getI_grp (Oc.grp (Oc.zz n) ++ (Oc.grp (Oc.zz ws.length) ++ Wk ws)) (Oc.grp (Oc.zz (bit b))) c hc
    have e : recI n ws c b = (Oc.grp (Oc.zz n) ++ (Oc.grp (Oc.zz ws.length) ++ Wk ws)) ++ (Oc.grp (Oc.zz c) ++ Oc.grp (Oc.zz (bit b))) := by unfold recI; simp only [List.append_assoc]
    rw [← e, List.length_append, List.length_append] at this
    rw [this]
    simp only [Prod.mk.injEq, true_and, and_true]
    omega
  refine ⟨h1, h2, h3, ?_⟩
  unfold rd4 rdNum
  rw [h3, if_pos rfl]
  dsimp only
  have := Oc.getI_grp (Oc.grp (Oc.zz n) ++ (Oc.grp (Oc.zz ws.length) ++ (Wk ws ++ Oc.grp (Oc.zz c)))) [] (bit b) (ok64_bit b)
  have e : recI n ws c b = (Oc.grp (Oc.zz n) ++ (Oc.grp (Oc.zz ws.length) ++ (Wk ws ++ Oc.grp (Oc.zz c)))) ++ (Oc.grp (Oc.zz (bit b)) ++ []) := by unfold recI; simp only [List.append_assoc, List.append_nil]
  rw [← e] at this
  have e2 : (((Oc.grp (Oc.zz n)).length + ((Oc.grp (Oc.zz (ws.length : Int))).length + (Wk ws).length) + (Oc.grp (Oc.zz c)).length : Nat) : Int) = ((Oc.grp (Oc.zz n) ++ (Oc.grp (Oc.zz (ws.length : Int)) ++ (Wk ws ++ Oc.grp (Oc.zz c)))).length : Int) := by simp only [List.length_append]; omega
  rw [e2, this]
  simp only [Prod.mk.injEq, true_and, and_true]
  conv => rhs; rw [e]
  simp only [List.length_append, List.length_nil]
  omega
theorem readM_rec (n : Int) (ws : List S76) (c : Int) (b : Bool) (hn : Oc.ok64 n = true) (hw : wok ws) (hc : Oc.ok64 c = true) (hm : rdMay n c ws.length = true) : readM (recI n ws c b) = some ⟨n, ⟨ws⟩, c, b⟩ := by
  obtain ⟨h1, h2, h3, h4⟩ := rd_rec n ws c b hn hw (may_len hm).2.2.2.2 hc
  have hb : 0 ≤ bit b ∧ bit b ≤ 1 := by cases b <;> decide
  have hok : rdOk (recI n ws c b) = true := by
    unfold rdOk
    rw [h1, h2, h3, h4]
    dsimp only
    rw [hm, decide_eq_true hb.1, decide_eq_true hb.2, decide_eq_true rfl, decide_eq_true rfl]
    rfl
  unfold readM
  rw [if_pos hok, h1, h2, h3, h4]
  have : (bit b == 1) = b := by cases b <;> decide
  dsimp only
  rw [this]
/-- A valid disk to which a version was appended. -/
theorem Val.append {s o : List Int} {ms mo : List (List Int)} {a b : List S50} (h : Val s o ms mo a b) (n : Int) (ws : List S76) (c : Int) (t : Bool) (hn : Oc.ok64 n = true) (hw : wok ws) (hc : Oc.ok64 c = true) (hm : rdMay n c ws.length = true) (hno : n = ((a.length : Int) + (b.length : Int) + 1)) (hsz : s.length + (o ++ Pl.frameI (recI n ws c t)).length ≤ 1048576) :
    Val s (o ++ Pl.frameI (recI n ws c t)) ms (mo ++ [recI n ws c t]) a (b ++ [⟨n, ⟨ws⟩, c, t⟩]) ∧ appendI s o n ws c t = (s, o ++ Pl.frameI (recI n ws c t), 0) := by
  have hl := recI_length n ws c t hn hw (by have := (may_len hm).2.2.2.2; omega) hc
  have h64 := (may_len hm).2.2.2.2
  obtain ⟨q1, q2⟩ := h.counts
  refine ⟨⟨h.es, by rw [Pl.F_append, Pl.F_one, ← h.eo], h.hs, fun x hx => ?_, h.va, vers_append _ _ _ _ _ h.vb ?_, hsz⟩, ?_⟩
  · rcases List.mem_append.1 hx with hx | hx
    · exact h.ho x hx
    · rw [List.mem_singleton.1 hx]; omega
  · rw [vers, readM_rec n ws c t hn hw hc hm, Option.bind_some, if_pos (show n = ((1 + ms.length + mo.length : Nat) : Int) by omega)]
    rfl
  · unfold appendI
    rw [h.read, if_pos rfl, if_pos ⟨hm, hno⟩, if_neg (by omega)]
end Go.Proofs.Ytfcdaifaocgjfaa.Pure
end
