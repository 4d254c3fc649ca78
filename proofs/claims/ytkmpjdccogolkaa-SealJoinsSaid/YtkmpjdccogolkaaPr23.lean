-- Written by this session's own program (wip/pp.sh: a patched run of the kit's print, with contracts of my own).
import Derived.Test.YtkmpjdccogolkaaPr0
import Derived.Test.YtkmpjdccogolkaaPr9
import Derived.Test.YtkmpjdccogolkaaPr11
import Derived.Test.YtkmpjdccogolkaaPr18
import Derived.Test.YtkmpjdccogolkaaPr19
namespace Go.Proofs.Ytkmpjdccogolkaa.Pr
open Go.RowKit Go.Proofs.YtkmpjdccogolkaaW.PrintWords Go.Proofs.YtkmpjdccogolkaaW.PrintLast Go.Proofs.YtkmpjdccogolkaaW.PrintMore
attribute [local go_sem] max2_int min2_int max_two min_two max_three min_three max_four min_four   -- for this text's walks alone
set_option linter.unusedVariables false
set_option linter.unusedSimpArgs false

-- HAND 
/-! ### chalklinelaw02_SealJoins: function 11 -/
def chalklinelaw02_SealJoins.f (k : Nat) (l0 : List Int) (l1 : List Int) : Option Bool :=
  if (l0.length : Int) > 2000 then some true else if (l1.length : Int) > 2000 then some true else
  (seal_Scan.f l0).bind fun x1 => if x1.2 = (l0.length : Int) then
    (seal_Scan.f l1).bind fun x2 => (seal_Scan.f (l0 ++ l1)).bind fun x3 => (chalklineref02_SameAll.f k x3.1 (x1.1 ++ x2.1)).bind fun t => if x1.1.length + x2.1.length ≤ 1000000000000 then some (if t = true then x3.2 == wrap64 (x1.2 + x2.2) else false) else none
  else some (if 0 ≤ x1.2 then decide (x1.2 < (l0.length : Int)) else false)
set_option maxHeartbeats 8000000 in
set_option maxRecDepth 100000 in
theorem chalklinelaw02_SealJoins.calls (k : Nat) (A0 : Option Addr) (c0 : Nat) (l0 : List Int) (A1 : Option Addr) (c1 : Nat) (l1 : List Int) (r : Bool) (w : World) (hr0 : Kd.C (Kd.int .u8) w A0 l0.length l0) (hc0 : l0.length ≤ c0) (hr1 : Kd.C (Kd.int .u8) w A1 l1.length l1) (hc1 : l1.length ≤ c1) (h : chalklinelaw02_SealJoins.f k l0 l1 = some r) :
    Calls Try.prog 11 #[.slice A0 l0.length c0, .slice A1 l1.length c1] w fun e w' => e = .returned (.bool r) ∧ Below w.heap.size w w' := by
  unfold chalklinelaw02_SealJoins.f at h
  have HR0 := Aside0.mk hr0
  have HC0 := Aside0.mk hc0
  have HR1 := Aside0.mk hr1
  have HC1 := Aside0.mk hc1
  clear hr0 hc0 hr1 hc1
  have H' := Aside0.mk h
  clear h
  by_cases d0 : (l0.length : Int) > 2000
  · have h := H'.out
    rw [if_pos d0] at h
    obtain rfl := Option.some.inj h
    have d0b : decide ((l0.length : Int) > 2000) = true := decide_eq_true d0
    clear d0 h H'
    go_enter Try.func11, Try.ntmps11
    go_wp2_with fail
    refine (chalklinelaw02_live.calls true _ rfl).mono ?_
    rintro e w1 ⟨rfl, hb1⟩
    have B1 := Aside0.mk hb1
    clear hb1
    go_wp2_with fail
    go_ret
    exact ⟨rfl, B1.out⟩
  by_cases d1 : (l1.length : Int) > 2000
  · have h := H'.out
    rw [if_neg d0, if_pos d1] at h
    obtain rfl := Option.some.inj h
    have d0b : decide ((l0.length : Int) > 2000) = false := decide_eq_false d0
    have d1b : decide ((l1.length : Int) > 2000) = true := decide_eq_true d1
    clear d0 d1 h H'
    go_enter Try.func11, Try.ntmps11
    go_wp2_with fail
    refine (chalklinelaw02_live.calls true _ rfl).mono ?_
    rintro e w1 ⟨rfl, hb1⟩
    have B1 := Aside0.mk hb1
    clear hb1
    go_wp2_with fail
    go_ret
    exact ⟨rfl, B1.out⟩
  have h := H'.out
  rw [if_neg d0, if_neg d1] at h
  have d0b : decide ((l0.length : Int) > 2000) = false := decide_eq_false d0
  have d1b : decide ((l1.length : Int) > 2000) = false := decide_eq_false d1
  have D := Aside0.mk (And.intro d0 d1)
  clear d0 d1 H'
  replace h := Option.bind_eq_some_iff.1 h
  obtain ⟨⟨x1, n1⟩, s1, h⟩ := h
  dsimp only at h
  have S1 := Aside0.mk s1
  clear s1
  by_cases c : n1 = (l0.length : Int)
  case neg =>
    rw [if_neg c] at h
    obtain rfl := Option.some.inj h
    have cb : (n1 == (l0.length : Int)) = false := beq_eq_false_iff_ne.mpr c
    have cb1 : (n1 != (l0.length : Int)) = true := bne_iff_ne.mpr c
    clear c h
    by_cases c2 : 0 ≤ n1
    · rw [if_pos c2]
      have c2b : decide (0 ≤ n1) = true := decide_eq_true c2
      have c2b' : decide (n1 ≥ 0) = true := decide_eq_true c2
      clear c2
      go_enter Try.func11, Try.ntmps11
      go_wp2_with fail
      refine (chalklinelaw02_live.calls true _ rfl).mono ?_
      rintro e w1 ⟨rfl, hb1⟩
      have B1 := Aside0.mk hb1
      clear hb1
      go_wp2_with fail
      refine (seal_Scan.calls A0 c0 l0 x1 n1 _ (Kd.C_below HR0.out B1.out) HC0.out S1.out).mono ?_
      rintro e w2 ⟨v1, rfl, ho2, hb2⟩
      have B2 := Aside0.mk (below_step B1.out hb2)
      clear hb2 ho2 B1
      go_wp2_with fail
      go_ret
      exact ⟨rfl, B2.out⟩
    · rw [if_neg c2]
      have c2b : decide (0 ≤ n1) = false := decide_eq_false c2
      have c2b' : decide (n1 ≥ 0) = false := decide_eq_false c2
      clear c2
      go_enter Try.func11, Try.ntmps11
      go_wp2_with fail
      refine (chalklinelaw02_live.calls true _ rfl).mono ?_
      rintro e w1 ⟨rfl, hb1⟩
      have B1 := Aside0.mk hb1
      clear hb1
      go_wp2_with fail
      refine (seal_Scan.calls A0 c0 l0 x1 n1 _ (Kd.C_below HR0.out B1.out) HC0.out S1.out).mono ?_
      rintro e w2 ⟨v1, rfl, ho2, hb2⟩
      have B2 := Aside0.mk (below_step B1.out hb2)
      clear hb2 ho2 B1
      go_wp2_with fail
      go_ret
      exact ⟨rfl, B2.out⟩
  rw [if_pos c] at h
  replace h := Option.bind_eq_some_iff.1 h
  obtain ⟨⟨x2, n2⟩, s2, h⟩ := h
  replace h := Option.bind_eq_some_iff.1 h
  obtain ⟨⟨x3, n3⟩, s3, h⟩ := h
  dsimp only at h
  replace h := Option.bind_eq_some_iff.1 h
  obtain ⟨t, s4, h⟩ := h
  have cb : (n1 == (l0.length : Int)) = true := beq_iff_eq.mpr c
  have cb1 : (n1 != (l0.length : Int)) = false := bne_eq_false_iff_eq.mpr c
  have S2 := Aside0.mk s2
  have S3 := Aside0.mk s3
  have S4 := Aside0.mk s4
  clear s2 s3 s4 c
  by_cases hl : x1.length + x2.length ≤ 1000000000000
  case neg => rw [if_neg hl] at h; cases h
  rw [if_pos hl] at h
  have HL := Aside0.mk hl
  clear hl
  replace h := Option.some.inj h
  go_enter Try.func11, Try.ntmps11
  go_wp2_with fail
  refine (chalklinelaw02_live.calls true _ rfl).mono ?_
  rintro e w1 ⟨rfl, hb1⟩
  have B1 := Aside0.mk hb1
  clear hb1
  go_wp2_with fail
  refine (seal_Scan.calls A0 c0 l0 x1 n1 _ (Kd.C_below HR0.out B1.out) HC0.out S1.out).mono ?_
  rintro e w2 ⟨v1, rfl, ho2, hb2⟩
  have B2 := Aside0.mk (below_step B1.out hb2)
  have O1 := Aside0.mk ho2
  clear hb2 ho2 B1
  go_wp2_with fail
  refine (seal_Scan.calls A1 c1 l1 x2 n2 _ (Kd.C_below HR1.out B2.out) HC1.out S2.out).mono ?_
  rintro e w3 ⟨v2, rfl, ho3, hb3⟩
  have B3 := Aside0.mk (below_step B2.out hb3)
  have P1 := Aside0.mk (Kd.S_below O1.out hb3)
  have P2 := Aside0.mk ho3
  clear hb3 ho3 B2 O1
  go_wp2_with fail
  refine (chalklineref02_Copy.calls A0 c0 l0 l0 _ (Kd.C_below HR0.out B3.out) HC0.out (by unfold chalklineref02_Copy.f; rw [if_pos (by have := D.out.1; omega)])).mono ?_
  rintro e w4 ⟨v3, rfl, ho4, hb4⟩
  have B4 := Aside0.mk hb4
  have B4' := Aside0.mk (below_step B3.out hb4)
  have P3 := Aside0.mk ho4
  clear hb4 ho4
  go_wp2_with (at_builtin; refine Kd.R_append_row (w0 := w3) (Value.int .u8) (0 : Int) w3.heap.size rfl _ _ 22 5 (.int .u8 0) 1 rfl Try.underlying22 info5 rfl (by omega) _ l0 l1 A1 l1.length c1 (fun _ => True) rfl rfl (fun _ _ => trivial) P3.out (Kd.C_below HR1.out B4'.out) B4.out B4.out.size (by have := D.out; omega) ?_; intro v4 w5 ho5 hb5 hg5 hat5; have P4 := Aside0.mk ho5; have B5 := Aside0.mk hb5; clear ho5 hb5 hg5 hat5)
  obtain ⟨A4, c4, rfl⟩ := Kd.R_slice P4.out
  refine (seal_Scan.calls A4 c4 (l0 ++ l1) x3 n3 _ (Kd.R_reads' P4.out).2.2 (Kd.R_reads' P4.out).2.1 S3.out).mono ?_
  rintro e w6 ⟨v5, rfl, ho6, hb6⟩
  have Q1 := Aside0.mk (Kd.S_below (Kd.S_below P1.out B5.out) hb6)
  have Q2 := Aside0.mk (Kd.S_below (Kd.S_below P2.out B5.out) hb6)
  have Q3 := Aside0.mk ho6
  have B6 := Aside0.mk (below_step (below_step B3.out B5.out) hb6)
  clear hb6 ho6 P1 P2 P3 P4 B3 B4 B4' B5
  obtain ⟨Aa, ca, rfl⟩ := Kd.S_slice Q1.out
  obtain ⟨Ab, cb2, rfl⟩ := Kd.S_slice Q2.out
  obtain ⟨Ac, cc, rfl⟩ := Kd.S_slice Q3.out
  have fin : ∀ (w8 : World) (v8 : Value), Below w6.heap.size w6 w8 → Kd.N (Kd.slice 5 (Kd.int .u8)) 22 w8 w6.heap.size (fun _ => True) v8 (x1 ++ x2) →
      ∃ A8 c8, v8 = .slice A8 (x1.length + x2.length) c8 ∧ Calls Try.prog 23 #[.slice Ac x3.length cc, .slice A8 (x1.length + x2.length) c8] w8 fun e w' => e = .returned (.bool t) ∧ Drawn0 w8 w' := by
    intro w8 v8 b8 hN
    obtain ⟨A8, c8, rfl, hle, hC⟩ := Kd.N_reads hN
    rw [← List.length_append]
    exact ⟨A8, c8, rfl, chalklineref02_SameAll.calls k Ac cc x3 A8 c8 (x1 ++ x2) t w8 (Kd.C_below (Kd.S_reads' Q3.out).2.2 b8) (Kd.S_reads' Q3.out).2.1 hC hle S4.out⟩
  have finA := Aside0.mk fin
  clear fin S1 S2 S3 S4
  subst h
  cases t
  all_goals
    go_wp2_with (first
      | (at_builtin; refine Kd.N_append_rows (Kd.slice 5 (Kd.int .u8)) (w0 := w6) w6.heap.size rfl (.const (.slice none 0 0)) _ 37 22 (.slice none 0 0) 24 rfl Try.underlying37 info22 rfl (by decide) (by omega) (.slice none 0 0) [] x1 Aa x1.length ca (fun _ => True) (fun _ => True) rfl rfl (Kd.N_nil _ _ _ _ _) (Kd.S_F Q1.out) (fun _ _ => ⟨trivial, fun e => by cases e⟩) (fun _ _ => trivial) (Below.refl _ _) (Nat.le_refl _) (by have := HL.out; simp only [List.length_nil]; omega) ?_; intro v7 w7 ho7 hb7 hg7 hat7; have R1 := Aside0.mk ho7; have B7 := Aside0.mk hb7; clear ho7 hb7 hg7 hat7)
      | (at_builtin; refine Kd.N_append_rows (Kd.slice 5 (Kd.int .u8)) (w0 := w6) w6.heap.size rfl (.tmp 53) (.tmp 54) 37 22 (.slice none 0 0) 24 rfl Try.underlying37 info22 rfl (by decide) (by omega) _ ([] ++ x1) x2 Ab x2.length cb2 (fun _ => True) _ rfl rfl R1.out (Kd.S_F (Kd.S_below (Kd.S_bound Q2.out) B7.out)) (fun k_ hk_ => ⟨trivial, fun e => by have h1_ := Kd.N_base R1.out k_ e.symm; have h2_ := hk_.2; omega⟩) (fun _ _ => trivial) B7.out B7.out.size (by have := HL.out; simp only [List.nil_append]; omega) ?_; intro v8 w8 ho8 hb8 hg8 hat8; clear hg8 hat8; obtain ⟨A8, c8, e8, hc8⟩ := finA.out w8 v8 hb8 ho8; subst e8; have B8 := Aside0.mk hb8; have C8 := Aside0.mk hc8; clear hb8 ho8 hc8)
      | fail)
    refine (C8.out).mono ?_
    rintro e w9 ⟨rfl, hd9⟩
    have B9 := Aside0.mk (below_step (below_step B6.out B8.out) hd9.below)
    clear hd9 C8 B8 R1 B7 finA Q1 Q2 Q3 B6
    go_wp2
    go_ret
    exact ⟨rfl, B9.out⟩

end Go.Proofs.Ytkmpjdccogolkaa.Pr
