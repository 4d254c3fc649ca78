/- A part of the proof of JournalAgain; no condition. -/
import Derived.Test.YtfcdaifaocgjfaaJK
import Derived.Test.YtfcdaifaocgjfaaJL
import Derived.Test.YtfcdaifaocgjfaaJr4
namespace Go.Proofs.Ytfcdaifaocgjfaa.Pure
open Go.RowKit Go.Proofs.Ytfcdaifaocgjfaa.Pr Go.Proofs.YtfcdaifaocgjfaaW.PrintWords Go.Proofs.YtfcdaifaocgjfaaW.PrintLast Go.Proofs.YtfcdaifaocgjfaaW.PrintMore
/-- A crash of a valid disk, and another one. -/
theorem again (s o : List Int) (hs : Pl.bytes s) (ho : Pl.bytes o) (h : (readI s o).2.2 = 0) (i j : Int) (hi : 0 ≤ i) (hj : 0 ≤ j) : ∃ (x : List Int), crashI s o i = (x, [], 0) ∧ crashI x [] j = (x, [], 0) ∧ syncI s o = (s ++ o, [], 0) ∧ s.length ≤ x.length ∧ x.take s.length = s ∧ x.length ≤ (s ++ o).length ∧ (s ++ o).take x.length = x ∧ Pl.bytes x := by
  obtain ⟨ms, mo, a, b, V, hr⟩ := val_of s o hs ho h
  obtain ⟨W, hW, _, _, c1, V1, e1⟩ := V.crash i hi
  obtain ⟨X, hX, _, _, c2, _, _⟩ := V1.crash j hj
  have hc := cutI_le o ho i
  have hl : (Pl.F (ms ++ mo.take W)).length = s.length + cutI o i := by rw [← e1, List.length_append, List.length_take, Nat.min_eq_left hc]
  refine ⟨_, c1, ?_, by unfold syncI; rw [h, if_pos rfl], by omega, ?_, by rw [List.length_append]; omega, ?_, ?_⟩
  · rw [c2, List.take_nil, List.append_nil]
  · rw [← e1, List.take_left]
  · rw [hl, List.take_append, List.take_of_length_le (by omega), show s.length + cutI o i - s.length = cutI o i by omega, e1]
  · rw [← e1]
    exact fun x hx => (List.mem_append.1 hx).elim (hs x) (fun h => ho x (List.mem_of_mem_take h))
end Go.Proofs.Ytfcdaifaocgjfaa.Pure
namespace Go.Proofs.Ytfcdaifaocgjfaa.Pr
open Go.RowKit Go.Proofs.YtfcdaifaocgjfaaW.PrintWords Go.Proofs.YtfcdaifaocgjfaaW.PrintLast Go.Proofs.YtfcdaifaocgjfaaW.PrintMore
set_option linter.unusedVariables false
set_option linter.unusedSimpArgs false
theorem str_take {A : Option Addr} {c m : Nat} {l t : List Int} {W : World} (h : Kd.C (Kd.int .u8) W A l.length l) (hm : m ≤ l.length) (he : l.take m = t) (hl : t.length = m) : (convert 22 9 (.slice A m c)).run Try.prog W = .ok (.string (strOfNums t)) W := by
  have h2 := Kd.C_take h hm
  rw [he, hl] at h2
  exact Kd.C_string Try.underlying22 Try.underlying5 Try.underlying9 h2
/-- What the law's last test reads. -/
structure Ag (w W : World) (g7 g9 g11 : Nat) (A : Option Addr) (c : Nat) (s : List Int) (B : Value) (C : Option Addr) (d : Nat) (x : List Int) (C' : Option Addr) (d' : Nat) (E : Option Addr) (e : Nat) (E' : Option Addr) (e' : Nat) (Z : Option Addr) (z : Nat) (zs : List Int) (Z' : Option Addr) (z' : Nat) : Prop where
  hb : Below w.heap.size w W
  k3 : W.heap[w.heap.size]? = some (.cells #[.slice A s.length c, B] 24)
  k7 : W.heap[g7]? = some (.cells #[.slice C x.length d, .slice C' 0 d'] 24)
  k9 : W.heap[g9]? = some (.cells #[.slice E x.length e, .slice E' 0 e'] 24)
  k11 : W.heap[g11]? = some (.cells #[.slice Z zs.length z, .slice Z' 0 z'] 24)
  rs : Kd.C (Kd.int .u8) W A s.length s
  rx : Dk W C d x C' d' []
  ry : Dk W E e x E' e' []
  rz : Kd.C (Kd.int .u8) W Z zs.length zs
  lz : zs.length ≤ z
  l1 : s.length ≤ x.length
  l2 : x.take s.length = s
  l3 : x.length ≤ zs.length
  l4 : zs.take x.length = x
theorem Ag.below {w W W' : World} {g7 g9 g11 : Nat} {A : Option Addr} {c : Nat} {s : List Int} {B : Value} {C : Option Addr} {d : Nat} {x : List Int} {C' : Option Addr} {d' : Nat} {E : Option Addr} {e : Nat} {E' : Option Addr} {e' : Nat} {Z : Option Addr} {z : Nat} {zs : List Int} {Z' : Option Addr} {z' : Nat} (h : Ag w W g7 g9 g11 A c s B C d x C' d' E e E' e' Z z zs Z' z') (hb : Below W.heap.size W W') : Ag w W' g7 g9 g11 A c s B C d x C' d' E e E' e' Z z zs Z' z' :=
  ⟨below_step h.hb hb, blk_below h.k3 hb, blk_below h.k7 hb, blk_below h.k9 hb, blk_below h.k11 hb, Kd.C_below h.rs hb, h.rx.below hb, h.ry.below hb, Kd.C_below h.rz hb, h.lz, h.l1, h.l2, h.l3, h.l4⟩
theorem Ag.facts {w W : World} {g7 g9 g11 : Nat} {A : Option Addr} {c : Nat} {s : List Int} {B : Value} {C : Option Addr} {d : Nat} {x : List Int} {C' : Option Addr} {d' : Nat} {E : Option Addr} {e : Nat} {E' : Option Addr} {e' : Nat} {Z : Option Addr} {z : Nat} {zs : List Int} {Z' : Option Addr} {z' : Nat} (h : Ag w W g7 g9 g11 A c s B C d x C' d' E e E' e' Z z zs Z' z') :
    (W.cell? ⟨w.heap.size, 0, none⟩ = some (.slice A s.length c) ∧ W.cell? ⟨g7, 0, none⟩ = some (.slice C x.length d) ∧ W.cell? ⟨g7, 1, none⟩ = some (.slice C' 0 d') ∧ W.cell? ⟨g9, 0, none⟩ = some (.slice E x.length e) ∧ W.cell? ⟨g9, 1, none⟩ = some (.slice E' 0 e') ∧ W.cell? ⟨g11, 0, none⟩ = some (.slice Z zs.length z)) ∧
    ((convert 22 9 (.slice C s.length d)).run Try.prog W = .ok (.string (strOfNums s)) W ∧ (convert 22 9 (.slice A s.length c)).run Try.prog W = .ok (.string (strOfNums s)) W ∧ (convert 22 9 (.slice Z x.length z)).run Try.prog W = .ok (.string (strOfNums x)) W ∧ (convert 22 9 (.slice C x.length d)).run Try.prog W = .ok (.string (strOfNums x)) W) :=
  ⟨⟨dk0 h.k3, dk0 h.k7, dk1 h.k7, dk0 h.k9, dk1 h.k9, dk0 h.k11⟩, str_take h.rx.c0 h.l1 h.l2 rfl, Kd.C_string Try.underlying22 Try.underlying5 Try.underlying9 h.rs, str_take h.rz h.l3 h.l4 rfl, Kd.C_string Try.underlying22 Try.underlying5 Try.underlying9 h.rx.c0⟩
set_option maxHeartbeats 8000000 in
set_option maxRecDepth 100000 in
theorem c_JournalAgain (A : Option Addr) (c : Nat) (s : List Int) (A' : Option Addr) (c' : Nat) (o : List Int) (i j : Int) (w : World) (h0 : Kd.C (Kd.int .u8) w A s.length s) (hc : s.length ≤ c) (h1 : Kd.C (Kd.int .u8) w A' o.length o) (hc' : o.length ≤ c')
    (hs : ∀ x ∈ s, (Lit.int .u8 x).wf = true) (ho : ∀ x ∈ o, (Lit.int .u8 x).wf = true) (_ : s.length ≤ reachBytes) (_ : o.length ≤ reachBytes) (_ : (Lit.int .i64 i).wf = true) (_ : (Lit.int .i64 j).wf = true) :
    Calls Try.prog 3 #[.agg #[.slice A s.length c, .slice A' o.length c'], .int .i64 i, .int .i64 j] w fun e w' => e = .returned (.bool true) ∧ Below w.heap.size w w' := by
  have hs := Pure.bytes_wf hs
  have ho := Pure.bytes_wf ho
  have hf := few_eq s o
  have hF := @few_small s o
  generalize (decide ((s.length : Int) ≤ 4000) && decide ((o.length : Int) ≤ 4000)) = fw at hf hF
  have S := Aside0.mk (Lw.start w #[.slice A s.length c, .slice A' o.length c'])
  have D := Aside0.mk ((Dk.mk h0 hc h1 hc').alloc (.cells #[.slice A s.length c, .slice A' o.length c'] 24))
  have F0 := Aside0.mk hf
  clear hf h0 hc h1 hc'
  by_cases hg : fw = true ∧ ¬ i < 0 ∧ ¬ j < 0
  case neg =>
    clear hF hs ho
    have hd : fw = false ∨ decide (i < 0) = true ∨ (decide (i < 0) = false ∧ decide (j < 0) = true) := by
      cases fw with
      | false => exact .inl rfl
      | true =>
        by_cases hi : i < 0
        · exact .inr (.inl (decide_eq_true hi))
        · by_cases hj : j < 0
          · exact .inr (.inr ⟨decide_eq_false hi, decide_eq_true hj⟩)
          · exact absurd ⟨rfl, hi, hj⟩ hg
    clear hg
    cases fw
    all_goals rcases hd with hd | hd | ⟨hd, hd2⟩
    all_goals first | (cases hd; done) | skip
    all_goals
      go_enter Try.func3, Try.ntmps3
      go_wp2_with fail
      refine (chalklinelaw34_live.calls true _ rfl).mono ?_
      rintro e_ w1 ⟨rfl, hb1⟩
      have S1 := Aside0.mk (S.out.below hb1)
      have D1 := Aside0.mk (D.out.below hb1)
      clear hb1 S D
      have k0 := S1.out.k0
      have k1 := S1.out.k1
      go_wp2_with fail
      refine (j_few D1.out F0.out).mono ?_
      rintro e_ w2 ⟨rfl, hb2⟩
      have S2 := Aside0.mk (S1.out.below hb2)
      clear hb2 S1 D1 k0 k1
      go_wp2
      go_ret
      exact ⟨rfl, S2.out.hb⟩
  obtain ⟨rfl, hi, hj⟩ := hg
  obtain ⟨hl, hm⟩ := hF rfl
  have r1 := Pure.jCrash s o hs ho (by omega) (by omega) i
  have di : decide (i < 0) = false := decide_eq_false hi
  have dj : decide (j < 0) = false := decide_eq_false hj
  by_cases he : (Pure.readI s o).2.2 = 0
  · obtain ⟨x, c1, c2, c3, c4, c5, c6, c7, c8⟩ := Pure.again s o hs ho he i j (by omega) (by omega)
    rw [c1] at r1
    have bl : x.length ≤ 8000 := by rw [List.length_append] at c6; omega
    have r2 := Pure.jCrash x [] c8 (fun x hx => by cases hx) (by omega) (by simp) j
    rw [c2] at r2
    have r3 := Pure.jSync s o hs ho (by omega) (by omega)
    rw [c3] at r3
    have F := Aside0.mk (And.intro r1 (And.intro r2 (And.intro r3 (Pure.same_refl x []))))
    have L := Aside0.mk (And.intro c4 (And.intro c5 (And.intro c6 c7)))
    generalize s ++ o = zs at r3 F c6 c7 L
    clear hF hs ho hl hm r1 r2 r3 c1 c2 c3 c5 c7 c8 he hi hj
    go_enter Try.func3, Try.ntmps3
    go_wp2_with fail
    refine (chalklinelaw34_live.calls true _ rfl).mono ?_
    rintro e_ w1 ⟨rfl, hb1⟩
    have S1 := Aside0.mk (S.out.below hb1)
    have D1 := Aside0.mk (D.out.below hb1)
    clear hb1 S D
    have k0 := S1.out.k0
    have k1 := S1.out.k1
    go_wp2_with fail
    refine (j_few D1.out F0.out).mono ?_
    rintro e_ w2 ⟨rfl, hb2⟩
    have S2 := Aside0.mk (S1.out.below hb2)
    have D2 := Aside0.mk (D1.out.below hb2)
    clear hb2 S1 D1 k0 k1
    have k0 := S2.out.k0
    have k1 := S2.out.k1
    go_wp2_with fail
    refine (j_crash D2.out i F.out.1).mono ?_
    rintro e_ w3 ⟨B1, d1, B2, d2, rfl, X3, hb3⟩
    have S3 := Aside0.mk ((S2.out.below hb3).alloc (.cells #[.slice B1 x.length d1, .slice B2 0 d2] 24))
    have D3 := Aside0.mk ((D2.out.below hb3).alloc (.cells #[.slice B1 x.length d1, .slice B2 0 d2] 24))
    have E3 := Aside0.mk (And.intro (X3.alloc (.cells #[.slice B1 x.length d1, .slice B2 0 d2] 24)) (blk_new w3 (.cells #[.slice B1 x.length d1, .slice B2 0 d2] 24)))
    clear hb3 S2 D2 k0 k1 X3
    have k0 := dk0 E3.out.2
    have k1 := dk1 E3.out.2
    go_wp2_with fail
    refine (j_crash E3.out.1 j F.out.2.1).mono ?_
    rintro e_ w4 ⟨B3, d3, B4, d4, rfl, X4, hb4⟩
    have S4 := Aside0.mk ((S3.out.below hb4).alloc (.cells #[.slice B3 x.length d3, .slice B4 0 d4] 24))
    have D4 := Aside0.mk ((D3.out.below hb4).alloc (.cells #[.slice B3 x.length d3, .slice B4 0 d4] 24))
    have E4 := Aside0.mk (And.intro (And.intro ((E3.out.1.below hb4).alloc (.cells #[.slice B3 x.length d3, .slice B4 0 d4] 24)) (blk_alloc (blk_below E3.out.2 hb4) (.cells #[.slice B3 x.length d3, .slice B4 0 d4] 24))) (And.intro (X4.alloc (.cells #[.slice B3 x.length d3, .slice B4 0 d4] 24)) (blk_new w4 (.cells #[.slice B3 x.length d3, .slice B4 0 d4] 24))))
    clear hb4 S3 D3 E3 k0 k1 X4
    have k0 := S4.out.k0
    have k1 := S4.out.k1
    go_wp2_with fail
    refine (j_sync D4.out F.out.2.2.1).mono ?_
    rintro e_ w5 ⟨B5, d5, B6, d6, rfl, X5, hb5⟩
    have G := Aside0.mk (Ag.mk (zs := zs) (z := d5) (s := s) (x := x) (c := c) ((S4.out.below hb5).alloc (.cells #[.slice B5 zs.length d5, .slice B6 0 d6] 24)).hb ((S4.out.below hb5).alloc (.cells #[.slice B5 zs.length d5, .slice B6 0 d6] 24)).d (blk_alloc (blk_below E4.out.1.2 hb5) (.cells #[.slice B5 zs.length d5, .slice B6 0 d6] 24)) (blk_alloc (blk_below E4.out.2.2 hb5) (.cells #[.slice B5 zs.length d5, .slice B6 0 d6] 24)) (blk_new w5 (.cells #[.slice B5 zs.length d5, .slice B6 0 d6] 24)) (Kd.C_alloc (Kd.C_below D4.out.c0 hb5) (.cells #[.slice B5 zs.length d5, .slice B6 0 d6] 24)) ((E4.out.1.1.below hb5).alloc (.cells #[.slice B5 zs.length d5, .slice B6 0 d6] 24)) ((E4.out.2.1.below hb5).alloc (.cells #[.slice B5 zs.length d5, .slice B6 0 d6] 24)) (Kd.C_alloc X5.c0 (.cells #[.slice B5 zs.length d5, .slice B6 0 d6] 24)) X5.l0 L.out.1 L.out.2.1 L.out.2.2.1 L.out.2.2.2)
    obtain ⟨i0, hi0, _, hsz, _⟩ := info_parts info5
    have hcut1 := cut_to (P := Try.prog) 22 5 .i64 Try.underlying22 hi0 B1 x.length d1 (s.length : Int) (by omega) (by have := L.out.1; omega) E4.out.1.1.l0
    have hcut2 := cut_to (P := Try.prog) 22 5 .i64 Try.underlying22 hi0 B5 zs.length d5 (x.length : Int) (by omega) (by have := L.out.2.2.1; omega) X5.l0
    rw [Int.toNat_natCast] at hcut1 hcut2
    have dl1 : decide (s.length ≤ x.length) = true := decide_eq_true L.out.1
    have dl2 : decide (x.length ≤ zs.length) = true := decide_eq_true L.out.2.2.1
    clear hb5 S4 D4 E4 X5 k0 k1 hi0 hsz L c4 c6
    obtain ⟨⟨k1, k2, k3, k4, k5, k6⟩, k7, k8, k9, k10⟩ := G.out.facts
    go_upto_region 11 with fail
    go_region_held3 (fun W => (W.cell? ⟨w.heap.size, 0, none⟩ = some (.slice A s.length c) ∧ W.cell? ⟨w3.heap.size, 0, none⟩ = some (.slice B1 x.length d1) ∧ W.cell? ⟨w3.heap.size, 1, none⟩ = some (.slice B2 0 d2) ∧ W.cell? ⟨w4.heap.size, 0, none⟩ = some (.slice B3 x.length d3) ∧ W.cell? ⟨w4.heap.size, 1, none⟩ = some (.slice B4 0 d4) ∧ W.cell? ⟨w5.heap.size, 0, none⟩ = some (.slice B5 zs.length d5)) ∧
      ((convert 22 9 (.slice B1 s.length d1)).run Try.prog W = .ok (.string (strOfNums s)) W ∧ (convert 22 9 (.slice A s.length c)).run Try.prog W = .ok (.string (strOfNums s)) W ∧ (convert 22 9 (.slice B5 x.length d5)).run Try.prog W = .ok (.string (strOfNums x)) W ∧ (convert 22 9 (.slice B1 x.length d1)).run Try.prog W = .ok (.string (strOfNums x)) W))
      (first | exact N6.out.facts | exact (Ag.below G.out (by (with_reducible repeat (first | exact Below.refl _ _ | apply below_drew1 | apply pw_below_drewN)))).facts | go_keep)
      (first
        | (go_at_call 14; refine (j_same ((G.out.below (by (with_reducible repeat (first | exact Below.refl _ _ | apply below_drew1 | apply pw_below_drewN)))).rx) ((G.out.below (by (with_reducible repeat (first | exact Below.refl _ _ | apply below_drew1 | apply pw_below_drewN)))).ry) F.out.2.2.2).mono ?_; rintro e_ w6 ⟨rfl, hb6⟩; have N6 := Aside0.mk ((G.out.below (by (with_reducible repeat (first | exact Below.refl _ _ | apply below_drew1 | apply pw_below_drewN)))).below hb6)))
    all_goals
      go_wp2
      go_ret
      exact ⟨rfl, N6.out.hb⟩
  · have hE := bne_iff_ne.mpr he
    have r0 : Pure.crashI s o i = ([], [], (Pure.readI s o).2.2) := by unfold Pure.crashI; rw [if_neg he]
    rw [r0] at r1
    generalize (Pure.readI s o).2.2 = e at hE r1 r0 he
    have F := Aside0.mk (And.intro r1 (Pure.same_refl [] []))
    clear hF hs ho hl hm r1 he hi hj r0
    go_enter Try.func3, Try.ntmps3
    go_wp2_with fail
    refine (chalklinelaw34_live.calls true _ rfl).mono ?_
    rintro e_ w1 ⟨rfl, hb1⟩
    have S1 := Aside0.mk (S.out.below hb1)
    have D1 := Aside0.mk (D.out.below hb1)
    clear hb1 S D
    have k0 := S1.out.k0
    have k1 := S1.out.k1
    go_wp2_with fail
    refine (j_few D1.out F0.out).mono ?_
    rintro e_ w2 ⟨rfl, hb2⟩
    have S2 := Aside0.mk (S1.out.below hb2)
    have D2 := Aside0.mk (D1.out.below hb2)
    clear hb2 S1 D1 k0 k1
    have k0 := S2.out.k0
    have k1 := S2.out.k1
    go_wp2_with fail
    refine (j_crash D2.out i F.out.1).mono ?_
    rintro e_ w3 ⟨B1, d1, B2, d2, rfl, X3, hb3⟩
    have S3 := Aside0.mk ((S2.out.below hb3).alloc (.cells #[.slice B1 0 d1, .slice B2 0 d2] 24))
    have E3 := Aside0.mk (And.intro (X3.alloc (.cells #[.slice B1 0 d1, .slice B2 0 d2] 24)) (blk_new w3 (.cells #[.slice B1 0 d1, .slice B2 0 d2] 24)))
    clear hb3 S2 D2 k0 k1 X3
    have k0 := dk0 E3.out.2
    have k1 := dk1 E3.out.2
    go_wp2_with fail
    refine (j_same E3.out.1 (B := none) (d := 0) (s' := []) (B' := none) (d' := 0) (o' := []) ⟨Kd.C_nil _ _, Nat.le_refl _, Kd.C_nil _ _, Nat.le_refl _⟩ F.out.2).mono ?_
    rintro e_ w4 ⟨rfl, hb4⟩
    have S4 := Aside0.mk (S3.out.below hb4)
    clear hb4 S3 E3 k0 k1
    go_wp2
    go_ret
    exact ⟨rfl, S4.out.hb⟩
end Go.Proofs.Ytfcdaifaocgjfaa.Pr
