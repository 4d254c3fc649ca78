/- A part of the proof of JournalAgain; no condition. -/
import Derived.Test.YtfcdaifaocgjfaaPr0
import Derived.Test.YtfcdaifaocgjfaaPr18
import Derived.Test.YtfcdaifaocgjfaaPr19
import Derived.Test.YtfcdaifaocgjfaaPla
namespace Go.Proofs.Ytfcdaifaocgjfaa.Pr
open Go.RowKit Go.Proofs.YtfcdaifaocgjfaaW.PrintWords Go.Proofs.YtfcdaifaocgjfaaW.PrintLast Go.Proofs.YtfcdaifaocgjfaaW.PrintMore
attribute [local go_sem] max2_int min2_int max_two min_two max_three min_three max_four min_four   -- for this text's walks alone
set_option linter.unusedVariables false
set_option linter.unusedSimpArgs false
def seal_Frame.f (l0 : List Int) : Option (List Int × Int) := if (l0.length : Int) > 65536 then some ([], 2) else some (Pl.frameI l0, 0)
theorem seal_put_some (l0 : List Int) (a1 : Int) (h : l0.length + 4 < 140737488355328) : seal_put.f l0 a1 = some (l0 ++ Pl.be4 a1) := by
  unfold seal_put.f
  simp only [Option.bind_some, List.length_cons, List.length_nil]
  rw [if_pos (by omega)]
  rfl
set_option maxHeartbeats 2000000 in
set_option maxRecDepth 100000 in
theorem seal_Frame.calls (A0 : Option Addr) (c0 : Nat) (l0 : List Int) (r1 : List Int) (r2 : Int) (w : World) (hr0 : Kd.C (Kd.int .u8) w A0 l0.length l0) (hc0 : l0.length ≤ c0) (h : seal_Frame.f l0 = some (r1, r2)) :
    Calls Try.prog 43 #[.slice A0 l0.length c0] w fun e w' => ∃ v0_ : Value, e = .returned (.tuple #[v0_, .int .i64 r2]) ∧ Kd.R (Kd.int .u8) 5 w' w.heap.size (fun _ => True) v0_ r1 ∧ Below w.heap.size w w' := by
  unfold seal_Frame.f at h
  by_cases hl : (l0.length : Int) > 65536
  · rw [if_pos hl] at h
    simp only [Option.some.injEq, Prod.mk.injEq] at h
    obtain ⟨rfl, rfl⟩ := h
    have hl' : 65536 < l0.length := by omega
    have hd : decide (65536 < l0.length) = true := decide_eq_true hl'
    clear hl hr0 hc0
    go_enter Try.func43, Try.ntmps43
    go_wp2
    go_ret2
    exact ⟨_, rfl, Kd.R_nil _ _ _ _ _, Below.refl _ _⟩
  · rw [if_neg hl] at h
    simp only [Option.some.injEq, Prod.mk.injEq] at h
    obtain ⟨rfl, rfl⟩ := h
    have hl' : l0.length ≤ 65536 := by omega
    have hd : decide (65536 < l0.length) = false := decide_eq_false (by omega)
    have HR := Aside0.mk hr0
    have HC := Aside0.mk hc0
    clear hl hr0 hc0
    obtain ⟨i0, hi, hz0, hz1, hz2⟩ := info_parts info5
    go_enter Try.func43, Try.ntmps43
    go_wp2_with (first
      | (refine wpList_make_own _ rfl _ _ 22 rfl w.heap.size 5 i0 (.int .u8 0) 1 Try.underlying22 hi hz0 hz1 .i64 .i64 _ (8 + l0.length) rfl rfl (by omega) (by rw [hz2]; omega) (by unfold maxLen; omega) (Nat.le_refl _) ?_; intro w1 hown1 hgrow1; have H1 := Aside0.mk (show Kd.R (Kd.int .u8) 5 w1 w.heap.size (fun _ => True) (.slice (some ⟨w.heap.size, 0, none⟩) 0 (8 + l0.length)) [] from Kd.R_of_own hown1 (fun _ _ => trivial)); have B1 := Aside0.mk (show Below w.heap.size w w1 from (Below.refl _ _).grown hgrow1 (Nat.le_refl _) (fun k e => by cases e)); clear hown1 hgrow1)
      | fail)
    clear hi hz0 hz1 hz2
    go_wp2_with fail
    refine (seal_put.calls (fun _ => True) _ [] (l0.length : Int) (Pl.be4 l0.length) w _ B1.out H1.out (seal_put_some [] _ (by simp))).mono ?_
    rintro e w2 ⟨v2, rfl, ho2, hb2, hk2⟩
    have H2 := Aside0.mk (Kd.R_mono ho2 (ok' := fun _ => True) (fun _ _ => trivial))
    have B2 := Aside0.mk hb2
    clear ho2 hb2 hk2 H1 B1
    go_wp2_with fail
    refine (seal_Sum.calls A0 c0 l0 (Pl.sumI l0) _ (Kd.C_below HR.out B2.out) HC.out rfl).mono ?_
    rintro e w3 ⟨rfl, hb3⟩
    have H3 := Aside0.mk (Kd.R_below H2.out hb3)
    have B3 := Aside0.mk (below_step B2.out hb3)
    clear hb3 H2 B2
    go_wp2_with fail
    refine (seal_put.calls (fun _ => True) _ (Pl.be4 l0.length) (Pl.sumI l0) (Pl.be4 l0.length ++ Pl.be4 (Pl.sumI l0)) w _ B3.out H3.out (seal_put_some _ _ (by simp [Pl.be4]))).mono ?_
    rintro e w4 ⟨v4, rfl, ho4, hb4, hk4⟩
    have H4 := Aside0.mk (Kd.R_mono ho4 (ok' := fun _ => True) (fun _ _ => trivial))
    have B4 := Aside0.mk hb4
    clear ho4 hb4 hk4 H3 B3
    have HL := Aside0.mk hl'
    clear hl' hd
    go_wp2_with (at_builtin; refine Kd.R_append_row (w0 := w) (Value.int .u8) (0 : Int) w.heap.size rfl _ _ 22 5 (.int .u8 0) 1 rfl Try.underlying22 info5 rfl (by omega) _ (Pl.be4 l0.length ++ Pl.be4 (Pl.sumI l0)) l0 A0 l0.length c0 (fun _ => True) rfl rfl (fun _ _ => trivial) H4.out (Kd.C_below HR.out B4.out) B4.out B4.out.size (by have := HL.out; simp [Pl.be4]; omega) ?_; intro v5 w5 ho5 hb5 hg5 hat5; have H5 := Aside0.mk ho5; have B5 := Aside0.mk hb5; clear ho5 hb5 hg5 hat5)
    go_ret2
    exact ⟨_, rfl, H5.out, B5.out⟩
end Go.Proofs.Ytfcdaifaocgjfaa.Pr
