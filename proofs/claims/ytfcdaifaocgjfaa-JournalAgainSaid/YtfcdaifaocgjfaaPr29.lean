/- A part of the proof of JournalAgain; no condition. -/
import Derived.Test.YtfcdaifaocgjfaaPr0
namespace Go.Proofs.Ytfcdaifaocgjfaa.Pr
open Go.RowKit Go.Proofs.YtfcdaifaocgjfaaW.PrintWords Go.Proofs.YtfcdaifaocgjfaaW.PrintLast Go.Proofs.YtfcdaifaocgjfaaW.PrintMore
attribute [local go_sem] max2_int min2_int max_two min_two max_three min_three max_four min_four   -- for this text's walks alone
set_option linter.unusedVariables false
set_option linter.unusedSimpArgs false
def chalklineref02_Copy.f (l0 : List Int) : Option (List Int) := if l0.length < 140737488355328 then some l0 else none
set_option maxHeartbeats 1000000 in
theorem chalklineref02_Copy.calls (A0 : Option Addr) (c0 : Nat) (l0 : List Int) (r : List Int) (w : World) (hr0 : Kd.C (Kd.int .u8) w A0 l0.length l0) (hc0 : l0.length ≤ c0) (h : chalklineref02_Copy.f l0 = some r) :
    Calls Try.prog 70 #[.slice A0 l0.length c0] w fun e w' => ∃ v0_ : Value, e = .returned (v0_) ∧ Kd.R (Kd.int .u8) 5 w' w.heap.size (fun _ => True) v0_ r ∧ Below w.heap.size w w' := by
  unfold chalklineref02_Copy.f at h
  split at h
  · rename_i hl
    obtain rfl := Option.some.inj h
    clear h
    have HL := Aside0.mk hl
    clear hl
    have HR := Aside0.mk hr0
    clear hr0 hc0
    go_enter Try.func70, Try.ntmps70
    go_wp2_with (at_builtin; refine print_append_row_of (w0 := w) (Value.int .u8) (0 : Int) w.heap.size rfl _ _ 22 5 (.int .u8 0) 1 rfl Try.underlying22 info5 rfl (by omega) (fun _ => rfl) (.slice none 0 0) [] l0 A0 l0.length c0 rfl rfl (own_nil _ _ _ _) (Kd.reads_of_C HR.out) (Below.refl _ _) (Nat.le_refl _) (by have := HL.out; simp; omega) ?_; intro v1 w1 hown hb hg hat)
    go_ret
    exact ⟨_, rfl, Kd.R_of_own (by simpa using hown) (fun _ _ => trivial), hb⟩
  · exact absurd h (by simp)
end Go.Proofs.Ytfcdaifaocgjfaa.Pr
