/- A part of the proof of JournalKeeps; no condition. -/
import Derived.Test.YtfcdaifaocgjfaaJK
import Derived.Test.YtfcdaifaocgjfaaJL
import Derived.Test.YtfcdaifaocgjfaaJr4
namespace Go.Proofs.Ytfcdaifaocgjfaa.Pure
open Go.RowKit Go.Proofs.Ytfcdaifaocgjfaa.Pr Go.Proofs.YtfcdaifaocgjfaaW.PrintWords Go.Proofs.YtfcdaifaocgjfaaW.PrintLast Go.Proofs.YtfcdaifaocgjfaaW.PrintMore
theorem mn_mono (a b : Int) (n : Nat) (h : a ≤ b) : mn a (n : Int) ≤ mn b (n : Int) := by unfold mn; split <;> split <;> omega
/-- Two crashes of a valid disk. -/
theorem keeps (s o : List Int) (hs : Pl.bytes s) (ho : Pl.bytes o) (h : (readI s o).2.2 = 0) (i j : Int) (hi : 0 ≤ i) (hij : i ≤ j) : ∃ (x y : List Int) (v w : List S50), crashI s o i = (x, [], 0) ∧ crashI s o j = (y, [], 0) ∧ readI x [] = (v, [], 0) ∧ readI y [] = (w, [], 0) ∧ v.length ≤ w.length ∧ w.take v.length = v ∧ (Pl.bytes x ∧ Pl.bytes y) ∧ x.length ≤ 2000000 ∧ y.length ≤ 2000000 ∧ (v.length ≤ 10000000 ∧ ∀ u ∈ v, u.f1.f0.length ≤ 64) := by
  obtain ⟨ms, mo, a, b, V, hr⟩ := val_of s o hs ho h
  obtain ⟨W, hW, h1, h2, c1, V1, e1⟩ := V.crash i hi
  obtain ⟨X, hX, g1, g2, c2, V2, e2⟩ := V.crash j (by omega)
  have hWX : W ≤ X := by
    rcases Nat.lt_or_ge X W with hlt | hge
    · have p1 := g2 W hlt hW
      have p2 := h1 W (Nat.le_refl _)
      have p3 := mn_mono i j o.length hij
      omega
    · exact hge
  have hb := V.counts.2
  have bx : ∀ {k : Int} {z : List Int}, s ++ o.take (cutI o k) = z → Pl.bytes z := by
    intro k z e
    rw [← e]
    exact fun x hx => (List.mem_append.1 hx).elim (hs x) (fun h => ho x (List.mem_of_mem_take h))
  have q1 := V1.read
  have bnil : Pl.bytes [] := fun x hx => by cases hx
  have r1 := readI_small _ _ (bx e1) bnil
  rw [q1] at r1
  refine ⟨_, _, _, _, c1, c2, q1, V2.read, by rw [List.length_append, List.length_append, List.length_take, List.length_take]; omega, ?_, ⟨bx e1, bx e2⟩, by have := V1.le; omega, by have := V2.le; omega, r1.1⟩
  rw [List.length_append, List.length_take, Nat.min_eq_left (by omega), List.take_append, List.take_of_length_le (by omega), show a.length + W - a.length = W by omega, List.take_take, Nat.min_eq_left hWX]
theorem crash_err (s o : List Int) (h : (readI s o).2.2 ≠ 0) (i : Int) : crashI s o i = ([], [], (readI s o).2.2) := by unfold crashI; rw [if_neg h]
end Go.Proofs.Ytfcdaifaocgjfaa.Pure
namespace Go.Proofs.Ytfcdaifaocgjfaa.Pr
open Go.RowKit Go.Proofs.YtfcdaifaocgjfaaW.PrintWords Go.Proofs.YtfcdaifaocgjfaaW.PrintLast Go.Proofs.YtfcdaifaocgjfaaW.PrintMore
set_option linter.unusedVariables false
set_option linter.unusedSimpArgs false
set_option maxHeartbeats 4000000 in
set_option maxRecDepth 100000 in
theorem c_JournalKeeps (A : Option Addr) (c : Nat) (s : List Int) (A' : Option Addr) (c' : Nat) (o : List Int) (i j : Int) (w : World) (h0 : Kd.C (Kd.int .u8) w A s.length s) (hc : s.length ≤ c) (h1 : Kd.C (Kd.int .u8) w A' o.length o) (hc' : o.length ≤ c')
    (hs : ∀ x ∈ s, (Lit.int .u8 x).wf = true) (ho : ∀ x ∈ o, (Lit.int .u8 x).wf = true) (_ : s.length ≤ reachBytes) (_ : o.length ≤ reachBytes) (_ : (Lit.int .i64 i).wf = true) (_ : (Lit.int .i64 j).wf = true) :
    Calls Try.prog 7 #[.agg #[.slice A s.length c, .slice A' o.length c'], .int .i64 i, .int .i64 j] w fun e w' => e = .returned (.bool true) ∧ Below w.heap.size w w' := by
  have hs := Pure.bytes_wf hs
  have ho := Pure.bytes_wf ho
  have hf := few_eq s o
  have hF := @few_small s o
  generalize (decide ((s.length : Int) ≤ 4000) && decide ((o.length : Int) ≤ 4000)) = fw at hf hF
  have S := Aside0.mk (Lw.start w #[.slice A s.length c, .slice A' o.length c'])
  have D := Aside0.mk ((Dk.mk h0 hc h1 hc').alloc (.cells #[.slice A s.length c, .slice A' o.length c'] 24))
  have F0 := Aside0.mk hf
  clear hf h0 hc h1 hc'
  by_cases hg : fw = true ∧ ¬ i < 0 ∧ ¬ j < i
  case neg =>
    clear hF hs ho
    have hd : fw = false ∨ decide (i < 0) = true ∨ (decide (i < 0) = false ∧ decide (j < i) = true) := by
      cases fw with
      | false => exact .inl rfl
      | true =>
        by_cases hi : i < 0
        · exact .inr (.inl (decide_eq_true hi))
        · by_cases hj : j < i
          · exact .inr (.inr ⟨decide_eq_false hi, decide_eq_true hj⟩)
          · exact absurd ⟨rfl, hi, hj⟩ hg
    clear hg
    cases fw
    all_goals rcases hd with hd | hd | ⟨hd, hd2⟩
    all_goals first | (cases hd; done) | skip
    all_goals
      go_enter Try.func7, Try.ntmps7
      go_wp2_with fail
      refine (chalklinelaw34_live.calls true _ rfl).mono ?_
      rintro e_ w1 ⟨rfl, hb1⟩
      have S1 := Aside0.mk (S.out.below hb1)
      have D1 := Aside0.mk (D.out.below hb1)
      clear hb1 S D
      have k0 := S1.out.k0
      have k1 := S1.out.k1
      go_wp2_with fail
      refine (j_few D1.out F0.out).mono ?_
      rintro e_ w2 ⟨rfl, hb2⟩
      have S2 := Aside0.mk (S1.out.below hb2)
      clear hb2 S1 D1 k0 k1
      go_wp2
      go_ret
      exact ⟨rfl, S2.out.hb⟩
  obtain ⟨rfl, hi, hj⟩ := hg
  obtain ⟨hl, hm⟩ := hF rfl
  have r1 := Pure.jCrash s o hs ho (by omega) (by omega) i
  have r2 := Pure.jCrash s o hs ho (by omega) (by omega) j
  have di : decide (i < 0) = false := decide_eq_false hi
  have dj : decide (j < i) = false := decide_eq_false hj
  by_cases he : (Pure.readI s o).2.2 = 0
  · obtain ⟨x, y, v, u, c1, c2, c3, c4, c5, c6, ⟨c7, c8⟩, c9, c10, c11⟩ := Pure.keeps s o hs ho he i j (by omega) (by omega)
    rw [c1] at r1
    rw [c2] at r2
    have r3 := Pure.jRead x [] c7 (fun x hx => by cases hx) (by omega) (by simp)
    have r4 := Pure.jRead y [] c8 (fun x hx => by cases hx) (by omega) (by simp)
    rw [c3] at r3
    rw [c4] at r4
    have q := Pure.versions_refl v c11.1 (fun z hz => Nat.le_trans (c11.2 z hz) (by decide)) 20000000 (by omega)
    have q' : chalklineref34_Versions.f 20000000 v (u.take v.length) = some true := by rw [c6]; exact q
    have ht : (u.take v.length).length = v.length := by rw [List.length_take]; omega
    have F := Aside0.mk (And.intro r1 (And.intro r2 (And.intro r3 (And.intro r4 (And.intro q' ht)))))
    have dl : decide (v.length ≤ u.length) = true := decide_eq_true c5
    have hlu := Aside0.mk c5
    clear hF hs ho hl hm r1 r2 r3 r4 q q' ht c1 c2 c3 c4 c5 c6 c7 c8 c9 c10 c11 he hi hj
    go_enter Try.func7, Try.ntmps7
    go_wp2_with fail
    refine (chalklinelaw34_live.calls true _ rfl).mono ?_
    rintro e_ w1 ⟨rfl, hb1⟩
    have S1 := Aside0.mk (S.out.below hb1)
    have D1 := Aside0.mk (D.out.below hb1)
    clear hb1 S D
    have k0 := S1.out.k0
    have k1 := S1.out.k1
    go_wp2_with fail
    refine (j_few D1.out F0.out).mono ?_
    rintro e_ w2 ⟨rfl, hb2⟩
    have S2 := Aside0.mk (S1.out.below hb2)
    have D2 := Aside0.mk (D1.out.below hb2)
    clear hb2 S1 D1 k0 k1
    have k0 := S2.out.k0
    have k1 := S2.out.k1
    go_wp2_with fail
    refine (j_crash D2.out i F.out.1).mono ?_
    rintro e_ w3 ⟨B1, d1, B2, d2, rfl, X3, hb3⟩
    have S3 := Aside0.mk ((S2.out.below hb3).alloc (.cells #[.slice B1 x.length d1, .slice B2 0 d2] 24))
    have D3 := Aside0.mk ((D2.out.below hb3).alloc (.cells #[.slice B1 x.length d1, .slice B2 0 d2] 24))
    have E3 := Aside0.mk (And.intro (X3.alloc (.cells #[.slice B1 x.length d1, .slice B2 0 d2] 24)) (blk_new w3 (.cells #[.slice B1 x.length d1, .slice B2 0 d2] 24)))
    clear hb3 S2 D2 k0 k1 X3
    have k0 := S3.out.k0
    have k1 := S3.out.k1
    go_wp2_with fail
    refine (j_crash D3.out j F.out.2.1).mono ?_
    rintro e_ w4 ⟨B3, d3, B4, d4, rfl, X4, hb4⟩
    have S4 := Aside0.mk ((S3.out.below hb4).alloc (.cells #[.slice B3 y.length d3, .slice B4 0 d4] 24)).hb
    have E4 := Aside0.mk (And.intro (And.intro ((E3.out.1.below hb4).alloc (.cells #[.slice B3 y.length d3, .slice B4 0 d4] 24)) (blk_alloc (blk_below E3.out.2 hb4) (.cells #[.slice B3 y.length d3, .slice B4 0 d4] 24))) (And.intro (X4.alloc (.cells #[.slice B3 y.length d3, .slice B4 0 d4] 24)) (blk_new w4 (.cells #[.slice B3 y.length d3, .slice B4 0 d4] 24))))
    clear hb4 S3 D3 E3 k0 k1 X4
    have k0 := dk0 E4.out.1.2
    have k1 := dk1 E4.out.1.2
    go_wp2_with fail
    refine (j_read E4.out.1.1 F.out.2.2.1).mono ?_
    rintro e_ w5 ⟨B5, d5, B6, d6, rfl, X5, Y5, hb5⟩
    have S5 := Aside0.mk (below_step S4.out hb5)
    have E5 := Aside0.mk (And.intro (E4.out.2.1.below hb5) (blk_below E4.out.2.2 hb5))
    have V5 := Aside0.mk X5
    clear hb5 S4 E4 k0 k1 X5 Y5
    have k0 := dk0 E5.out.2
    have k1 := dk1 E5.out.2
    go_wp2_with fail
    refine (j_read E5.out.1 F.out.2.2.2.1).mono ?_
    rintro e_ w6 ⟨B7, d7, B8, d8, rfl, X6, Y6, hb6⟩
    have S6 := Aside0.mk (below_step S5.out hb6)
    have V6 := Aside0.mk (V5.out.below hb6)
    have U6 := Aside0.mk (Vr.mk (A := B7) (c := d7) (l := u.take v.length) (Kd.C_take X6.c0 hlu.out) (by rw [F.out.2.2.2.2.2]; exact Nat.le_trans hlu.out X6.l0))
    obtain ⟨i0, hi0, _, _, _⟩ := info_parts info50
    have hcut := cut_to (P := Try.prog) 33 50 .i64 Try.underlying33 hi0 B7 u.length d7 (v.length : Int) (by omega) (by have := hlu.out; omega) X6.l0
    rw [Int.toNat_natCast] at hcut
    clear hb6 S5 E5 k0 k1 X6 Y6 V5 hi0
    go_wp2_with fail
    refine (show Calls Try.prog 23 #[.slice B5 v.length d5, .slice B7 v.length d7] w6 (fun e w' => e = .returned (.bool true) ∧ Below w6.heap.size w6 w') from by have h := j_versions 20000000 V6.out U6.out F.out.2.2.2.2.1; rw [F.out.2.2.2.2.2] at h; exact h).mono ?_
    rintro e_ w7 ⟨rfl, hb7⟩
    have S7 := Aside0.mk (below_step S6.out hb7)
    clear hb7 S6 V6 U6 hcut
    go_wp2
    go_ret
    exact ⟨rfl, S7.out⟩
  · have hE := bne_iff_ne.mpr he
    rw [Pure.crash_err s o he i] at r1
    rw [Pure.crash_err s o he j] at r2
    generalize (Pure.readI s o).2.2 = e at hE r1 r2
    have ee : (e == e) = true := beq_self_eq_true e
    have F := Aside0.mk (And.intro r1 r2)
    clear hF hs ho hl hm r1 r2 he hi hj
    go_enter Try.func7, Try.ntmps7
    go_wp2_with fail
    refine (chalklinelaw34_live.calls true _ rfl).mono ?_
    rintro e_ w1 ⟨rfl, hb1⟩
    have S1 := Aside0.mk (S.out.below hb1)
    have D1 := Aside0.mk (D.out.below hb1)
    clear hb1 S D
    have k0 := S1.out.k0
    have k1 := S1.out.k1
    go_wp2_with fail
    refine (j_few D1.out F0.out).mono ?_
    rintro e_ w2 ⟨rfl, hb2⟩
    have S2 := Aside0.mk (S1.out.below hb2)
    have D2 := Aside0.mk (D1.out.below hb2)
    clear hb2 S1 D1 k0 k1
    have k0 := S2.out.k0
    have k1 := S2.out.k1
    go_wp2_with fail
    refine (j_crash D2.out i F.out.1).mono ?_
    rintro e_ w3 ⟨B1, d1, B2, d2, rfl, X3, hb3⟩
    have S3 := Aside0.mk ((S2.out.below hb3).alloc (.cells #[.slice B1 0 d1, .slice B2 0 d2] 24))
    have D3 := Aside0.mk ((D2.out.below hb3).alloc (.cells #[.slice B1 0 d1, .slice B2 0 d2] 24))
    clear hb3 S2 D2 k0 k1 X3
    have k0 := S3.out.k0
    have k1 := S3.out.k1
    go_wp2_with fail
    refine (j_crash D3.out j F.out.2).mono ?_
    rintro e_ w4 ⟨B3, d3, B4, d4, rfl, X4, hb4⟩
    have S4 := Aside0.mk ((S3.out.below hb4).alloc (.cells #[.slice B3 0 d3, .slice B4 0 d4] 24)).hb
    clear hb4 S3 D3 k0 k1 X4
    go_wp2
    go_ret
    exact ⟨rfl, S4.out⟩
end Go.Proofs.Ytfcdaifaocgjfaa.Pr
