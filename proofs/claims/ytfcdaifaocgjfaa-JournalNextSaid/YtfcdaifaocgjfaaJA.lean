/- A part of the proof of JournalNext; no condition. -/
import Derived.Test.YtfcdaifaocgjfaaGa4
import Derived.Test.YtfcdaifaocgjfaaPr23
import Derived.Test.YtfcdaifaocgjfaaGa6
import Derived.Test.YtfcdaifaocgjfaaGa0
import Derived.Test.YtfcdaifaocgjfaaGa3
import Derived.Test.YtfcdaifaocgjfaaGa2
namespace Go.Proofs.Ytfcdaifaocgjfaa.Pr
open Go.RowKit Go.Proofs.YtfcdaifaocgjfaaW.PrintWords Go.Proofs.YtfcdaifaocgjfaaW.PrintLast Go.Proofs.YtfcdaifaocgjfaaW.PrintMore
set_option linter.unusedVariables false
set_option linter.unusedSimpArgs false
def journal_Append.f (k : Nat) (l0 l1 : List Int) (n : Int) (l2 : List S76) (m : Int) (b : Bool) : Option (List Int × List Int × Int) :=
  (journal_Read.f l0 l1).bind fun x => if x.2.2 = 0 then (journal_may.f n l2 m b).bind fun t => if t = true ∧ (n != wrap64 (wrap64 ((x.1.length : Int) + (x.2.1.length : Int)) + 1)) = false then
      (journal_record.f k n l2 m b).bind fun rec => (seal_Frame.f rec).bind fun fr => if fr.2 = 0 then (slices_Clone_byte_byte.f l0).bind fun s => (slices_Concat_byte_byte.f [l1, fr.1]).bind fun o =>
        if wrap64 ((s.length : Int) + (o.length : Int)) > 1048576 then some ([], [], 2) else some (s, o, 0)
      else some ([], [], fr.2)
    else some ([], [], 1) else some ([], [], x.2.2)
/-- While a disk is made: the argument's block, the version's, the result's. -/
structure Ap (w : World) (D V : Array Value) (W : World) : Prop where
  hb : Below w.heap.size w W
  d : W.heap[w.heap.size]? = some (.cells D 24)
  v : W.heap[w.heap.size + 1]? = some (.cells V 50)
  x : W.heap[w.heap.size + 1 + 1]? = some (.cells #[.slice none 0 0, .slice none 0 0] 24)
theorem Ap.below {w W W' : World} {D V : Array Value} (h : Ap w D V W) (hb : Below W.heap.size W W') : Ap w D V W' := ⟨below_step h.hb hb, blk_below h.d hb, blk_below h.v hb, blk_below h.x hb⟩
theorem Ap.start (w : World) (D V : Array Value) : Ap w D V (((w.alloc (.cells D 24)).alloc (.cells V 50)).alloc (.cells #[.slice none 0 0, .slice none 0 0] 24)) := by
  have h1 : (w.alloc (.cells D 24)).heap.size = w.heap.size + 1 := by simp
  have h2 : ((w.alloc (.cells D 24)).alloc (.cells V 50)).heap.size = w.heap.size + 1 + 1 := by simp
  refine ⟨below_alloc (below_alloc (below_alloc (Below.refl _ _) _) _) _, blk_alloc (blk_alloc (blk_new _ _) _) _, ?_, ?_⟩
  · have := blk_alloc (blk_new (w.alloc (.cells D 24)) (.cells V 50)) (.cells #[.slice none 0 0, .slice none 0 0] 24); rwa [h1] at this
  · have := blk_new ((w.alloc (.cells D 24)).alloc (.cells V 50)) (.cells #[.slice none 0 0, .slice none 0 0] 24); rwa [h2] at this
theorem Ap.zero {w W : World} {D V : Array Value} (h : Ap w D V W) : ((W.setCell ⟨w.heap.size + 1 + 1, 0, none⟩ (.slice none 0 0)).setCell ⟨w.heap.size + 1 + 1, 1, none⟩ (.slice none 0 0)).heap[w.heap.size + 1 + 1]? = some (.cells #[.slice none 0 0, .slice none 0 0] 24) ∧ Below w.heap.size w ((W.setCell ⟨w.heap.size + 1 + 1, 0, none⟩ (.slice none 0 0)).setCell ⟨w.heap.size + 1 + 1, 1, none⟩ (.slice none 0 0)) :=
  ⟨blk_put (blk_put h.x 0 _ rfl) 1 _ rfl, below_set (below_set h.hb (by omega)) (by omega)⟩
theorem Ap.facts {w W : World} {a0 a1 b0 b1 b2 b3 : Value} (h : Ap w #[a0, a1] #[b0, b1, b2, b3] W) : (W.cell? ⟨w.heap.size, 0, none⟩ = some a0 ∧ W.cell? ⟨w.heap.size, 1, none⟩ = some a1) ∧
    (W.cell? ⟨w.heap.size + 1, 0, none⟩ = some b0 ∧ W.cell? ⟨w.heap.size + 1, 1, none⟩ = some b1 ∧ W.cell? ⟨w.heap.size + 1, 2, none⟩ = some b2 ∧ W.cell? ⟨w.heap.size + 1, 3, none⟩ = some b3) ∧
    (W.cell? ⟨w.heap.size + 1 + 1, 0, none⟩ = some (.slice none 0 0) ∧ W.cell? ⟨w.heap.size + 1 + 1, 1, none⟩ = some (.slice none 0 0)) ∧ W.frozen? ⟨w.heap.size + 1 + 1, 0, none⟩ = false ∧ W.frozen? ⟨w.heap.size + 1 + 1, 1, none⟩ = false :=
  ⟨⟨(blk_cell h.d 0).trans rfl, (blk_cell h.d 1).trans rfl⟩, ⟨(blk_cell h.v 0).trans rfl, (blk_cell h.v 1).trans rfl, (blk_cell h.v 2).trans rfl, (blk_cell h.v 3).trans rfl⟩, ⟨(blk_cell h.x 0).trans rfl, (blk_cell h.x 1).trans rfl⟩, blk_frozen h.x 0, blk_frozen h.x 1⟩
theorem blk_new' {W : World} {o : Obj} {g : Nat} (h : W.heap.size = g) : (W.alloc o).heap[g]? = some o := h ▸ blk_new W o
theorem zfacts {W : World} {g : Nat} (h : W.heap[g]? = some (.cells #[.slice none 0 0, .slice none 0 0] 24)) : W.cell? ⟨g, 0, none⟩ = some (.slice none 0 0) ∧ W.cell? ⟨g, 1, none⟩ = some (.slice none 0 0) ∧ W.frozen? ⟨g, 0, none⟩ = false ∧ W.frozen? ⟨g, 1, none⟩ = false := ⟨(blk_cell h 0).trans rfl, (blk_cell h 1).trans rfl, blk_frozen h 0, blk_frozen h 1⟩
theorem cell_set2 {W : World} {a g j : Nat} {u x y : Value} (h : W.cell? ⟨a, j, none⟩ = some u) (hne : ¬ a = g) : ((W.setCell ⟨g, 0, none⟩ x).setCell ⟨g, 1, none⟩ y).cell? ⟨a, j, none⟩ = some u := by
  rw [World.cell?] at h ⊢
  rw [Below.heap_setCell _ _ _ _ hne, Below.heap_setCell _ _ _ _ hne]
  exact h
theorem R_span {α : Type} {d : Kd α} {e base : Nat} {ok : Nat → Prop} {W : World} {v : Value} {xs : List α} (h : Kd.R d e W base ok v xs) : Kd.R d e W base (fun k => base ≤ k ∧ k < W.heap.size) v xs := Kd.R_mono (Kd.R_bound h) (fun k hk => ⟨hk.2.1, hk.2.2.1⟩)
theorem lit2 {W : World} {g : Nat} {A A' : Option Addr} {c c' : Nat} {l l' : List Int} (h : W.heap[g]? = some (.cells #[.slice A l.length c, .slice A' l'.length c'] 22)) (h0 : Kd.C (Kd.int .u8) W A l.length l) (hc : l.length ≤ c) (h1 : Kd.C (Kd.int .u8) W A' l'.length l') (hc' : l'.length ≤ c') : Kd.C (Kd.slice 5 (Kd.int .u8)) W (some ⟨g, 0, none⟩) [l, l'].length [l, l'] := by
  refine ⟨rfl, by simp, fun _ => ⟨_, rfl, fun j p hj => ?_⟩⟩
  match j, hj with
  | 0, hj =>
    obtain rfl : l = p := Option.some.inj hj
    refine ⟨[.slice A l.length c], rfl, ⟨A, c, rfl, hc, h0⟩, fun i u hu => ?_⟩
    obtain rfl : i = 0 := by have := (List.getElem?_eq_some_iff.1 hu).1; simpa using this
    rw [← Option.some.inj hu]
    exact (blk_cell h 0).trans rfl
  | 1, hj =>
    obtain rfl : l' = p := Option.some.inj hj
    refine ⟨[.slice A' l'.length c'], rfl, ⟨A', c', rfl, hc', h1⟩, fun i u hu => ?_⟩
    obtain rfl : i = 0 := by have := (List.getElem?_eq_some_iff.1 hu).1; simpa using this
    rw [← Option.some.inj hu]
    exact (blk_cell h 1).trans rfl
  | j + 2, hj => simp at hj
theorem row_alloc {W W' : World} {A : Option Addr} {c base : Nat} {ok P : Nat → Prop} {xs : List Int} (h : Kd.R (Kd.int .u8) 5 W base ok (.slice A xs.length c) xs) (hb : Below W.heap.size W W') (hP : ∀ k, ok k → P k) (o : Obj) : Kd.F (Kd.int .u8) (W'.alloc o) P A xs.length xs := Kd.F_alloc (Kd.F_mono (Kd.R_F (Kd.R_below h hb)) hP) o
theorem row_set {W W' : World} {A : Option Addr} {c base g : Nat} {ok P : Nat → Prop} {xs : List Int} (h : Kd.R (Kd.int .u8) 5 W base ok (.slice A xs.length c) xs) (hb : Below W.heap.size W W') (hP : ∀ k, ok k → P k) (hok : ∀ k, ok k → k ≠ g) (x y : Value) : Kd.F (Kd.int .u8) ((W'.setCell ⟨g, 0, none⟩ x).setCell ⟨g, 1, none⟩ y) P A xs.length xs :=
  Kd.F_mono (Kd.F_far (p := ⟨g, 1, none⟩) (Kd.F_far (p := ⟨g, 0, none⟩) (Kd.R_F (Kd.R_below h hb)) hok x) hok y) hP
theorem Ap.set2 {w W : World} {D V : Array Value} (h : Ap w D V W) {g : Nat} (hg : w.heap.size + 1 + 1 < g) (x y : Value) : Ap w D V ((W.setCell ⟨g, 0, none⟩ x).setCell ⟨g, 1, none⟩ y) :=
  ⟨below_set (below_set h.hb (by omega)) (by omega), blk_far (p := ⟨g, 1, none⟩) (blk_far (p := ⟨g, 0, none⟩) h.d (show w.heap.size ≠ g by omega) x) (show w.heap.size ≠ g by omega) y,
    blk_far (p := ⟨g, 1, none⟩) (blk_far (p := ⟨g, 0, none⟩) h.v (show w.heap.size + 1 ≠ g by omega) x) (show w.heap.size + 1 ≠ g by omega) y, blk_far (p := ⟨g, 1, none⟩) (blk_far (p := ⟨g, 0, none⟩) h.x (show w.heap.size + 1 + 1 ≠ g by omega) x) (show w.heap.size + 1 + 1 ≠ g by omega) y⟩
set_option maxHeartbeats 8000000 in
set_option maxRecDepth 100000 in
theorem c_append (k : Nat) (A0 : Option Addr) (c0 : Nat) (l0 : List Int) (A1 : Option Addr) (c1 : Nat) (l1 : List Int) (n : Int) (A2 : Option Addr) (c2 : Nat) (l2 : List S76) (m : Int) (b : Bool) (r1 r2 : List Int) (r3 : Int) (w : World) (h0 : Kd.C (Kd.int .u8) w A0 l0.length l0) (hc0 : l0.length ≤ c0) (h1 : Kd.C (Kd.int .u8) w A1 l1.length l1) (hc1 : l1.length ≤ c1) (h2 : Kd.C k76 w A2 l2.length l2) (hc2 : l2.length ≤ c2) (h : journal_Append.f k l0 l1 n l2 m b = some (r1, r2, r3)) :
    Calls Try.prog 25 #[.agg #[.slice A0 l0.length c0, .slice A1 l1.length c1], .agg #[.int .i64 n, .slice A2 l2.length c2, .int .i64 m, .bool b]] w (DkRet w r1 r2 r3) := by
  unfold journal_Append.f at h
  replace h := Option.bind_eq_some_iff.mp h
  obtain ⟨⟨x1, x2, e⟩, hR, h⟩ := h
  dsimp only at h
  have S := Aside0.mk (Ap.start w #[.slice A0 l0.length c0, .slice A1 l1.length c1] #[.int .i64 n, .slice A2 l2.length c2, .int .i64 m, .bool b])
  have RA := Aside0.mk hR
  have CC := Aside0.mk (And.intro (And.intro h0 hc0) (And.intro (And.intro h1 hc1) (And.intro h2 hc2)))
  clear hR h0 hc0 h1 hc1 h2 hc2
  by_cases ce : e = 0
  case neg =>
    rw [if_neg ce] at h
    simp only [Option.some.injEq, Prod.mk.injEq] at h
    obtain ⟨rfl, rfl, rfl⟩ := h
    have cb : (e != 0) = true := bne_iff_ne.mpr ce
    clear ce
    go_enter Try.func25, Try.ntmps25
    go_wp2_with fail
    refine (c_read A0 c0 l0 A1 c1 l1 x1 x2 e _ (Kd.C_below CC.out.1.1 S.out.hb) CC.out.1.2 (Kd.C_below CC.out.2.1.1 S.out.hb) CC.out.2.1.2 RA.out).mono ?_
    rintro e_ w1 ⟨B1, d1, B2, d2, rfl, hd, hC1, hC2, hb1⟩
    have S1 := Aside0.mk (S.out.below hb1)
    clear hd hC1 hC2 hb1 S
    obtain ⟨_, _, ⟨kx0, kx1⟩, kf0, kf1⟩ := S1.out.facts
    go_wp2
    refine bodyPost_ret (results_ct rfl _ _ (w.heap.size + 1 + 1) 24 #[.slice none 0 0, .slice none 0 0] (0, 0) _ rfl S1.out.zero.1 Try.underlying24 rfl (by kernel_rfl)) rfl (dk_none S1.out.zero.2)
  subst ce
  rw [if_pos rfl] at h
  replace h := Option.bind_eq_some_iff.mp h
  obtain ⟨t, hM, h⟩ := h
  have MA := Aside0.mk hM
  clear hM
  by_cases cg : t = true ∧ (n != wrap64 (wrap64 ((x1.length : Int) + (x2.length : Int)) + 1)) = false
  case neg =>
    rw [if_neg cg] at h
    simp only [Option.some.injEq, Prod.mk.injEq] at h
    obtain ⟨rfl, rfl, rfl⟩ := h
    cases t with
    | false =>
      clear cg
      go_enter Try.func25, Try.ntmps25
      go_wp2_with fail
      refine (c_read A0 c0 l0 A1 c1 l1 x1 x2 0 _ (Kd.C_below CC.out.1.1 S.out.hb) CC.out.1.2 (Kd.C_below CC.out.2.1.1 S.out.hb) CC.out.2.1.2 RA.out).mono ?_
      rintro e_ w1 ⟨B1, d1, B2, d2, rfl, hd, hC1, hC2, hb1⟩
      have S1 := Aside0.mk (S.out.below hb1)
      clear hd hC1 hC2 hb1 S
      obtain ⟨⟨kd0, kd1⟩, ⟨kv0, kv1, kv2, kv3⟩, ⟨kx0, kx1⟩, kf0, kf1⟩ := S1.out.facts
      go_wp2_with fail
      refine (journal_may.calls n A2 c2 l2 m b false _ (Kd.C_below CC.out.2.2.1 S1.out.hb) CC.out.2.2.2 MA.out).mono ?_
      rintro e_ w2 ⟨rfl, hb2⟩
      have S2 := Aside0.mk (S1.out.below hb2)
      clear hb2 S1 kd0 kd1 kv0 kv1 kv2 kv3 kx0 kx1 kf0 kf1
      obtain ⟨⟨kd0, kd1⟩, ⟨kv0, kv1, kv2, kv3⟩, ⟨kx0, kx1⟩, kf0, kf1⟩ := S2.out.facts
      go_wp2
      refine bodyPost_ret (results_ct rfl _ _ (w.heap.size + 1 + 1) 24 #[.slice none 0 0, .slice none 0 0] (0, 0) _ rfl S2.out.zero.1 Try.underlying24 rfl (by kernel_rfl)) rfl (dk_none S2.out.zero.2)
    | true =>
      have cn : (n != wrap64 (wrap64 ((x1.length : Int) + (x2.length : Int)) + 1)) = true := by
        cases hc : (n != wrap64 (wrap64 ((x1.length : Int) + (x2.length : Int)) + 1)) with
        | true => rfl
        | false => exact absurd ⟨rfl, hc⟩ cg
      clear cg
      go_enter Try.func25, Try.ntmps25
      go_wp2_with fail
      refine (c_read A0 c0 l0 A1 c1 l1 x1 x2 0 _ (Kd.C_below CC.out.1.1 S.out.hb) CC.out.1.2 (Kd.C_below CC.out.2.1.1 S.out.hb) CC.out.2.1.2 RA.out).mono ?_
      rintro e_ w1 ⟨B1, d1, B2, d2, rfl, hd, hC1, hC2, hb1⟩
      have S1 := Aside0.mk (S.out.below hb1)
      clear hd hC1 hC2 hb1 S
      obtain ⟨⟨kd0, kd1⟩, ⟨kv0, kv1, kv2, kv3⟩, ⟨kx0, kx1⟩, kf0, kf1⟩ := S1.out.facts
      go_wp2_with fail
      refine (journal_may.calls n A2 c2 l2 m b true _ (Kd.C_below CC.out.2.2.1 S1.out.hb) CC.out.2.2.2 MA.out).mono ?_
      rintro e_ w2 ⟨rfl, hb2⟩
      have S2 := Aside0.mk (S1.out.below hb2)
      clear hb2 S1 kd0 kd1 kv0 kv1 kv2 kv3 kx0 kx1 kf0 kf1
      obtain ⟨⟨kd0, kd1⟩, ⟨kv0, kv1, kv2, kv3⟩, ⟨kx0, kx1⟩, kf0, kf1⟩ := S2.out.facts
      go_wp2
      refine bodyPost_ret (results_ct rfl _ _ (w.heap.size + 1 + 1) 24 #[.slice none 0 0, .slice none 0 0] (0, 0) _ rfl S2.out.zero.1 Try.underlying24 rfl (by kernel_rfl)) rfl (dk_none S2.out.zero.2)
  rw [if_pos cg] at h
  obtain ⟨rfl, cn⟩ := cg
  replace h := Option.bind_eq_some_iff.mp h
  obtain ⟨rec, hRc, h⟩ := h
  replace h := Option.bind_eq_some_iff.mp h
  obtain ⟨⟨fr, e2⟩, hFr, h⟩ := h
  dsimp only at h
  have RC := Aside0.mk hRc
  have FR := Aside0.mk hFr
  clear hRc hFr
  by_cases ce : e2 = 0
  case neg =>
    rw [if_neg ce] at h
    simp only [Option.some.injEq, Prod.mk.injEq] at h
    obtain ⟨rfl, rfl, rfl⟩ := h
    have cb : (e2 != 0) = true := bne_iff_ne.mpr ce
    clear ce
    go_enter Try.func25, Try.ntmps25
    go_wp2_with fail
    refine (c_read A0 c0 l0 A1 c1 l1 x1 x2 0 _ (Kd.C_below CC.out.1.1 S.out.hb) CC.out.1.2 (Kd.C_below CC.out.2.1.1 S.out.hb) CC.out.2.1.2 RA.out).mono ?_
    rintro e_ w1 ⟨B1, d1, B2, d2, rfl, hd, hC1, hC2, hb1⟩
    have S1 := Aside0.mk (S.out.below hb1)
    clear hd hC1 hC2 hb1 S
    obtain ⟨⟨kd0, kd1⟩, ⟨kv0, kv1, kv2, kv3⟩, ⟨kx0, kx1⟩, kf0, kf1⟩ := S1.out.facts
    go_wp2_with fail
    refine (journal_may.calls n A2 c2 l2 m b true _ (Kd.C_below CC.out.2.2.1 S1.out.hb) CC.out.2.2.2 MA.out).mono ?_
    rintro e_ w2 ⟨rfl, hb2⟩
    have S2 := Aside0.mk (S1.out.below hb2)
    clear hb2 S1 kd0 kd1 kv0 kv1 kv2 kv3 kx0 kx1 kf0 kf1
    obtain ⟨⟨kd0, kd1⟩, ⟨kv0, kv1, kv2, kv3⟩, ⟨kx0, kx1⟩, kf0, kf1⟩ := S2.out.facts
    go_wp2_with fail
    refine (journal_record.calls k n A2 c2 l2 m b rec _ (Kd.C_below CC.out.2.2.1 S2.out.hb) CC.out.2.2.2 RC.out).mono ?_
    rintro e_ w3 ⟨v3, rfl, ho3, hb3⟩
    obtain ⟨B3, d3, rfl, hd3, hC3⟩ := Kd.R_reads ho3
    have S3 := Aside0.mk (S2.out.below hb3)
    have C3 := Aside0.mk (And.intro hC3 hd3)
    clear ho3 hb3 hC3 hd3 S2 kd0 kd1 kv0 kv1 kv2 kv3 kx0 kx1 kf0 kf1
    go_wp2_with fail
    refine (seal_Frame.calls B3 d3 rec fr e2 _ C3.out.1 C3.out.2 FR.out).mono ?_
    rintro e_ w4 ⟨v4, rfl, ho4, hb4⟩
    obtain ⟨B4, d4, rfl, hd4, hC4⟩ := Kd.R_reads ho4
    have S4 := Aside0.mk (S3.out.below hb4)
    have C4 := Aside0.mk (And.intro hC4 hd4)
    clear ho4 hb4 hC4 hd4 S3 C3
    obtain ⟨⟨kd0, kd1⟩, ⟨kv0, kv1, kv2, kv3⟩, ⟨kx0, kx1⟩, kf0, kf1⟩ := S4.out.facts
    go_wp2
    refine bodyPost_ret (results_ct rfl _ _ (w.heap.size + 1 + 1) 24 #[.slice none 0 0, .slice none 0 0] (0, 0) _ rfl S4.out.zero.1 Try.underlying24 rfl (by kernel_rfl)) rfl (dk_none S4.out.zero.2)
  subst ce
  rw [if_pos rfl] at h
  replace h := Option.bind_eq_some_iff.mp h
  obtain ⟨s, hS, h⟩ := h
  replace h := Option.bind_eq_some_iff.mp h
  obtain ⟨o, hO, h⟩ := h
  have SO := Aside0.mk (And.intro hS hO)
  have HH := Aside0.mk h
  clear hS hO h
  go_enter Try.func25, Try.ntmps25
  go_wp2_with fail
  refine (c_read A0 c0 l0 A1 c1 l1 x1 x2 0 _ (Kd.C_below CC.out.1.1 S.out.hb) CC.out.1.2 (Kd.C_below CC.out.2.1.1 S.out.hb) CC.out.2.1.2 RA.out).mono ?_
  rintro e_ w1 ⟨B1, d1, B2, d2, rfl, hd, hC1, hC2, hb1⟩
  have S1 := Aside0.mk (S.out.below hb1)
  clear hd hC1 hC2 hb1 S
  obtain ⟨⟨kd0, kd1⟩, ⟨kv0, kv1, kv2, kv3⟩, ⟨kx0, kx1⟩, kf0, kf1⟩ := S1.out.facts
  go_wp2_with fail
  refine (journal_may.calls n A2 c2 l2 m b true _ (Kd.C_below CC.out.2.2.1 S1.out.hb) CC.out.2.2.2 MA.out).mono ?_
  rintro e_ w2 ⟨rfl, hb2⟩
  have S2 := Aside0.mk (S1.out.below hb2)
  clear hb2 S1 kd0 kd1 kv0 kv1 kv2 kv3 kx0 kx1 kf0 kf1
  obtain ⟨⟨kd0, kd1⟩, ⟨kv0, kv1, kv2, kv3⟩, ⟨kx0, kx1⟩, kf0, kf1⟩ := S2.out.facts
  go_wp2_with fail
  refine (journal_record.calls k n A2 c2 l2 m b rec _ (Kd.C_below CC.out.2.2.1 S2.out.hb) CC.out.2.2.2 RC.out).mono ?_
  rintro e_ w3 ⟨v3, rfl, ho3, hb3⟩
  obtain ⟨B3, d3, rfl, hd3, hC3⟩ := Kd.R_reads ho3
  have S3 := Aside0.mk (S2.out.below hb3)
  have C3 := Aside0.mk (And.intro hC3 hd3)
  clear ho3 hb3 hC3 hd3 S2 kd0 kd1 kv0 kv1 kv2 kv3 kx0 kx1 kf0 kf1
  go_wp2_with fail
  refine (seal_Frame.calls B3 d3 rec fr 0 _ C3.out.1 C3.out.2 FR.out).mono ?_
  rintro e_ w4 ⟨v4, rfl, ho4, hb4⟩
  obtain ⟨B4, d4, rfl, hd4, hC4⟩ := Kd.R_reads ho4
  have S4 := Aside0.mk (S3.out.below hb4)
  have C4 := Aside0.mk (And.intro hC4 hd4)
  clear ho4 hb4 hC4 hd4 S3 C3
  obtain ⟨⟨kd0, kd1⟩, ⟨kv0, kv1, kv2, kv3⟩, ⟨kx0, kx1⟩, kf0, kf1⟩ := S4.out.facts
  go_upto_region 9 with fail
  go_cut [9] (fun s9 wx => ∃ (g : Nat) (A : Option Addr) (c : Nat) (A' : Option Addr) (c' : Nat), s9 = .pointer (some ⟨g, 0, none⟩) ∧ Aside0 (Ap w #[.slice A0 l0.length c0, .slice A1 l1.length c1] #[.int .i64 n, .slice A2 l2.length c2, .int .i64 m, .bool b] wx) ∧ Aside0 (wx.heap[g]? = some (.cells #[.slice A s.length c, .slice A' o.length c'] 24)) ∧ Aside0 (s.length ≤ c ∧ o.length ≤ c') ∧ Aside0 (Kd.F (Kd.int .u8) wx (fun k => w.heap.size + 1 + 1 < k) A s.length s ∧ Kd.F (Kd.int .u8) wx (fun k => w.heap.size + 1 + 1 < k) A' o.length o))
  case first =>
    clear kv0 kv1 kv2 kv3 kx0 kx1 kf0 kf1 HH
    have hz := blk_lt S4.out.x
    have ne0 : ¬ w.heap.size = w4.heap.size := by omega
    have ne1 : ¬ w.heap.size = w4.heap.size + 1 := by omega
    go_region_held3 (fun W => W.cell? ⟨w.heap.size, 0, none⟩ = some (.slice A0 l0.length c0) ∧ W.cell? ⟨w.heap.size, 1, none⟩ = some (.slice A1 l1.length c1)) (first | go_keep | exact ⟨cell_set2 (by assumption) (by assumption), cell_set2 (by assumption) (by assumption)⟩)
      (first
        | (go_at_call 33; refine (slices_Clone_byte_byte.calls A0 c0 l0 s _ ?_ CC.out.1.2 SO.out.1).mono ?_; (exact Kd.C_below CC.out.1.1 (by (with_reducible repeat (first | exact S4.out.hb | apply below_alloc | apply below_drew1 | apply pw_below_drewN)))); rintro e_ w5 ⟨v5, rfl, ho5, hb5⟩; have S5 := Aside0.mk (Ap.below (W := _) (Ap.below S4.out (by (with_reducible repeat (first | exact Below.refl _ _ | apply below_alloc | apply below_drew1 | apply pw_below_drewN)))) hb5); obtain ⟨A5, c5, rfl, hc5, hC5⟩ := Kd.R_reads ho5; have H5 := Aside0.mk (R_span ho5); have L5 := Aside0.mk hc5; clear ho5 hc5 hC5; have ne2 : ¬ w.heap.size = w5.heap.size := (by have := blk_lt S5.out.x; omega); have ne3 : ¬ w.heap.size = w5.heap.size + 1 := (by have := blk_lt S5.out.x; omega); have kk0 := S5.out.facts.1.1; have kk1 := S5.out.facts.1.2; (try (have z_ : w5.heap[w4.heap.size]? = some (.cells #[.slice none 0 0, .slice none 0 0] 24) := blk_below ?q hb5; (case q => ((repeat (first | ((with_reducible refine blk_new' ?_); simp; done) | (with_reducible refine blk_alloc ?_ _) | (with_reducible refine blk_drew ?_) | (with_reducible refine blk_drewN ?_ _))); done)); obtain ⟨zc0, zc1, zf0, zf1⟩ := zfacts z_; have Z5 := Aside0.mk z_; clear z_)); (try (have z_ : w5.heap[w4.heap.size + 1]? = some (.cells #[.slice none 0 0, .slice none 0 0] 24) := blk_below ?q hb5; (case q => ((repeat (first | ((with_reducible refine blk_new' ?_); simp; done) | (with_reducible refine blk_alloc ?_ _) | (with_reducible refine blk_drew ?_) | (with_reducible refine blk_drewN ?_ _))); done)); obtain ⟨zc0, zc1, zf0, zf1⟩ := zfacts z_; have Z5 := Aside0.mk z_; clear z_)))
        | (go_at_call 31; refine (slices_Concat_byte_byte.calls _ 2 [l1, fr] o _ (lit2 (by repeat (first | ((with_reducible refine blk_new' ?_); simp; done) | (with_reducible refine blk_alloc ?_ _) | (with_reducible refine blk_drew ?_) | (with_reducible refine blk_drewN ?_ _) | (with_reducible refine blk_below ?_ hb5))) (Kd.C_below CC.out.2.1.1 (by (with_reducible repeat (first | exact S5.out.hb | apply below_alloc | apply below_drew1 | apply pw_below_drewN)))) CC.out.2.1.2 (Kd.C_below C4.out.1 (by (with_reducible repeat (first | exact Below.refl _ _ | refine below_step ?_ hb5 | apply below_alloc | apply below_drew1 | apply pw_below_drewN)))) C4.out.2) (Nat.le_refl _) SO.out.2).mono ?_; rintro e_ w6 ⟨v6, rfl, ho6, hb6⟩; have S6 := Aside0.mk (Ap.below (W := _) (Ap.below S5.out (by (with_reducible repeat (first | exact Below.refl _ _ | apply below_alloc | apply below_drew1 | apply pw_below_drewN)))) hb6); obtain ⟨A6, c6, rfl, hc6, hC6⟩ := Kd.R_reads ho6; have H6 := Aside0.mk (R_span ho6); have L6 := Aside0.mk hc6; clear ho6 hc6 hC6; have ne4 : ¬ w.heap.size = w6.heap.size := (by have := blk_lt S6.out.x; omega); have ne5 : ¬ w.heap.size = w6.heap.size + 1 := (by have := blk_lt S6.out.x; omega); have kq0 := S6.out.facts.1.1; have kq1 := S6.out.facts.1.2; (try (have z_ : w6.heap[w4.heap.size]? = some (.cells #[.slice none 0 0, .slice none 0 0] 24) := blk_below ?q hb6; (case q => ((repeat (first | (with_reducible exact Z5.out) | ((with_reducible refine blk_new' ?_); simp; done) | (with_reducible refine blk_alloc ?_ _) | (with_reducible refine blk_drew ?_) | (with_reducible refine blk_drewN ?_ _))); done)); obtain ⟨zc0, zc1, zf0, zf1⟩ := zfacts z_; have Z6 := Aside0.mk z_; clear z_)); (try (have z_ : w6.heap[w4.heap.size + 1]? = some (.cells #[.slice none 0 0, .slice none 0 0] 24) := blk_below ?q hb6; (case q => ((repeat (first | (with_reducible exact Z5.out) | ((with_reducible refine blk_new' ?_); simp; done) | (with_reducible refine blk_alloc ?_ _) | (with_reducible refine blk_drew ?_) | (with_reducible refine blk_drewN ?_ _))); done)); obtain ⟨zc0, zc1, zf0, zf1⟩ := zfacts z_; have Z6 := Aside0.mk z_; clear z_)); (try (have z_ : w6.heap[w5.heap.size]? = some (.cells #[.slice none 0 0, .slice none 0 0] 24) := blk_below ?q hb6; (case q => ((repeat (first | (with_reducible exact Z5.out) | ((with_reducible refine blk_new' ?_); simp; done) | (with_reducible refine blk_alloc ?_ _) | (with_reducible refine blk_drew ?_) | (with_reducible refine blk_drewN ?_ _))); done)); obtain ⟨zc0, zc1, zf0, zf1⟩ := zfacts z_; have Z6 := Aside0.mk z_; clear z_)); (try (have z_ : w6.heap[w5.heap.size + 1]? = some (.cells #[.slice none 0 0, .slice none 0 0] 24) := blk_below ?q hb6; (case q => ((repeat (first | (with_reducible exact Z5.out) | ((with_reducible refine blk_new' ?_); simp; done) | (with_reducible refine blk_alloc ?_ _) | (with_reducible refine blk_drew ?_) | (with_reducible refine blk_drewN ?_ _))); done)); obtain ⟨zc0, zc1, zf0, zf1⟩ := zfacts z_; have Z6 := Aside0.mk z_; clear z_))))
    all_goals
      go_wp2_with fail
      go_meet
      have z4 := blk_lt S4.out.x
      have z5 := hb5.size
      have z6 := hb6.size
      (try simp at z5); (try simp at z6)
      first
        | exact ⟨_, A5, c5, A6, c6, rfl, ⟨S6.out.below (below_alloc (Below.refl _ _) _)⟩, ⟨blk_new _ _⟩, ⟨⟨L5.out, L6.out⟩⟩, ⟨⟨row_alloc H5.out (below_step (by (with_reducible repeat (first | exact Below.refl _ _ | apply below_alloc))) hb6) (fun k hk => by have h1 := hk.1; have h2 := hk.2; (try simp at h1 h2); omega) _, row_alloc H6.out (Below.refl _ _) (fun k hk => by have h1 := hk.1; have h2 := hk.2; (try simp at h1 h2); omega) _⟩⟩⟩
        | exact ⟨_, A5, c5, A6, c6, rfl, ⟨S6.out.set2 (by omega) _ _⟩, ⟨blk_put (blk_put Z6.out 0 _ rfl) 1 _ rfl⟩, ⟨⟨L5.out, L6.out⟩⟩, ⟨⟨row_set H5.out (below_step (by (with_reducible repeat (first | exact Below.refl _ _ | apply below_alloc))) hb6) (fun k hk => by have h1 := hk.1; have h2 := hk.2; (try simp at h1 h2); omega) (fun k hk => by have h1 := hk.1; have h2 := hk.2; (try simp at h1 h2); omega) _ _, row_set H6.out (Below.refl _ _) (fun k hk => by have h1 := hk.1; have h2 := hk.2; (try simp at h1 h2); omega) (fun k hk => by have h1 := hk.1; have h2 := hk.2; (try simp at h1 h2); omega) _ _⟩⟩⟩
  case rest =>
    clear kd0 kd1 kv0 kv1 kv2 kv3 kx0 kx1 kf0 kf1 S4 C4 CC SO RA MA RC FR cn
    obtain ⟨g, A, c, A', c', rfl, S7, G7, L7, C7⟩ := hcut
    have g0 := dk0 G7.out
    have g1 := dk1 G7.out
    obtain ⟨_, _, ⟨kx0, kx1⟩, kf0, kf1⟩ := S7.out.facts
    have h := HH.out
    by_cases cb : wrap64 ((s.length : Int) + (o.length : Int)) > 1048576
    · rw [if_pos cb] at h
      simp only [Option.some.injEq, Prod.mk.injEq] at h
      obtain ⟨rfl, rfl, rfl⟩ := h
      have cbb : decide (1048576 < wrap64 ((s.length : Int) + (o.length : Int))) = true := decide_eq_true cb
      clear cb HH
      go_wp2
      refine bodyPost_ret (results_ct rfl _ _ (w.heap.size + 1 + 1) 24 #[.slice none 0 0, .slice none 0 0] (0, 0) _ rfl S7.out.zero.1 Try.underlying24 rfl (by kernel_rfl)) rfl (dk_none S7.out.zero.2)
    · rw [if_neg cb] at h
      simp only [Option.some.injEq, Prod.mk.injEq] at h
      obtain ⟨rfl, rfl, rfl⟩ := h
      have cbb : decide (1048576 < wrap64 ((s.length : Int) + (o.length : Int))) = false := decide_eq_false cb
      clear cb HH
      go_wp2
      refine bodyPost_ret (results_ct rfl _ _ (w.heap.size + 1 + 1) 24 #[.slice A s.length c, .slice A' o.length c'] (0, 0) _ rfl (blk_put (blk_put S7.out.x 0 _ rfl) 1 _ rfl) Try.underlying24 rfl (by kernel_rfl)) rfl ⟨A, c, A', c', rfl, L7.out, ?_, ?_, below_set (below_set S7.out.hb (by omega)) (by omega)⟩
      · exact Kd.F_now (Kd.F_far (p := ⟨w.heap.size + 1 + 1, 1, none⟩) (Kd.F_far (p := ⟨w.heap.size + 1 + 1, 0, none⟩) C7.out.1 (fun k hk e => by have h1 : k = w.heap.size + 1 + 1 := e; have h2 : w.heap.size + 1 + 1 < k := hk; omega) _) (fun k hk e => by have h1 : k = w.heap.size + 1 + 1 := e; have h2 : w.heap.size + 1 + 1 < k := hk; omega) _)
      · exact Kd.F_now (Kd.F_far (p := ⟨w.heap.size + 1 + 1, 1, none⟩) (Kd.F_far (p := ⟨w.heap.size + 1 + 1, 0, none⟩) C7.out.2 (fun k hk e => by have h1 : k = w.heap.size + 1 + 1 := e; have h2 : w.heap.size + 1 + 1 < k := hk; omega) _) (fun k hk e => by have h1 : k = w.heap.size + 1 + 1 := e; have h2 : w.heap.size + 1 + 1 < k := hk; omega) _)
end Go.Proofs.Ytfcdaifaocgjfaa.Pr
