/- A part of the proof of JournalCrashes; no condition. -/
import Derived.Test.YtfcdaifaocgjfaaPr0
namespace Go.Proofs.Ytfcdaifaocgjfaa.Pr
open Go.RowKit Go.Proofs.YtfcdaifaocgjfaaW.PrintWords Go.Proofs.YtfcdaifaocgjfaaW.PrintLast Go.Proofs.YtfcdaifaocgjfaaW.PrintMore
attribute [local go_sem] max2_int min2_int max_two min_two max_three min_three max_four min_four   -- for this text's walks alone
set_option linter.unusedVariables false
set_option linter.unusedSimpArgs false
def chalklineref34_join.f (l0 : List Int) (l1 : List Int) : Option (List Int) := if l0.length + l1.length ≤ 100000000000000 then some (l0 ++ l1) else none
set_option maxHeartbeats 1000000 in
theorem chalklineref34_join.calls (A0 : Option Addr) (c0 : Nat) (l0 : List Int) (A1 : Option Addr) (c1 : Nat) (l1 : List Int) (r : List Int) (w : World) (hr0 : Kd.C (Kd.int .u8) w A0 l0.length l0) (hc0 : l0.length ≤ c0) (hr1 : Kd.C (Kd.int .u8) w A1 l1.length l1) (hc1 : l1.length ≤ c1) (h : chalklineref34_join.f l0 l1 = some r) :
    Calls Try.prog 41 #[.slice A0 l0.length c0, .slice A1 l1.length c1] w fun e w' => ∃ v0_ : Value, e = .returned (v0_) ∧ Kd.R (Kd.int .u8) 5 w' w.heap.size (fun _ => True) v0_ r ∧ Below w.heap.size w w' := by
  unfold chalklineref34_join.f at h
  split at h
  · rename_i hl
    obtain rfl := Option.some.inj h
    clear h
    have HL := Aside0.mk hl
    clear hl
    have HR := Aside0.mk hr0
    have HR1 := Aside0.mk hr1
    clear hr0 hc0 hr1 hc1
    go_enter Try.func41, Try.ntmps41
    go_wp2_with (first
      | (at_builtin; refine Kd.R_append_row (w0 := w) (Value.int .u8) (0 : Int) w.heap.size rfl (.const (.slice none 0 0)) _ 22 5 (.int .u8 0) 1 rfl Try.underlying22 info5 rfl (by omega) (.slice none 0 0) [] l0 A0 l0.length c0 (fun _ => True) rfl rfl (fun _ _ => trivial) (Kd.R_nil _ _ _ _ _) HR.out (Below.refl _ _) (Nat.le_refl _) (by have := HL.out; simp; omega) ?_; intro v5 w5 ho5 hb5 hg5 hat5; have H5 := Aside0.mk ho5; have B5 := Aside0.mk hb5; clear ho5 hb5 hg5 hat5)
      | (at_builtin; refine Kd.R_append_row (w0 := w) (Value.int .u8) (0 : Int) w.heap.size rfl (.tmp 6) (.tmp 7) 22 5 (.int .u8 0) 1 rfl Try.underlying22 info5 rfl (by omega) _ ([] ++ l0) l1 A1 l1.length c1 (fun _ => True) rfl rfl (fun _ _ => trivial) H5.out (Kd.C_below HR1.out B5.out) B5.out B5.out.size (by have := HL.out; simp; omega) ?_; intro v6 w6 ho6 hb6 hg6 hat6; have H6 := Aside0.mk ho6; have B6 := Aside0.mk hb6; clear ho6 hb6 hg6 hat6))
    go_ret
    exact ⟨_, rfl, H6.out, B6.out⟩
  · exact absurd h (by simp)
end Go.Proofs.Ytfcdaifaocgjfaa.Pr
