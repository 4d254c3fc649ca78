/- Parts of the proof of JournalWrites; no condition. -/
import Derived.Test.YtfcdaifaocgjfaaGa0
import Derived.Test.YtfcdaifaocgjfaaGa8
import Derived.Test.YtfcdaifaocgjfaaGa2
import Derived.OpenShut
section
namespace Go.Proofs.Ytfcdaifaocgjfaa.Pr
open Go.RowKit Go.Proofs.YtfcdaifaocgjfaaW.PrintWords Go.Proofs.YtfcdaifaocgjfaaW.PrintLast Go.Proofs.YtfcdaifaocgjfaaW.PrintMore
attribute [local go_sem] max2_int min2_int max_two min_two max_three min_three max_four min_four   -- for this text's walks alone
set_option linter.unusedVariables false
set_option linter.unusedSimpArgs false
mutual
def chalklineref01_PutInt.j0 : Nat → List Int → Int → Option (List Int)
  | 0, _, _ => none
  | k + 1, x0, x5 => (some (([] : List Int) : List Int)).bind fun y373 => (if y373.length + x0.length < 140737488355328 then (chalklineref01_PutInt.l0 k x5 (y373 ++ x0)) else (none))
def chalklineref01_PutInt.l0 : Nat → Int → List Int → Option (List Int)
  | 0, _, _ => none
  | k + 1, x5, x6 => if x5 ≥ 128 then (if x6.length < 140737488355328 then (chalklineref01_PutInt.l0 k (IntKind.u64.wrap (Int.tdiv x5 128)) (x6 ++ [(IntKind.u64.wrap ((Int.tmod x5 128) + 128)) % 256])) else (none)) else (if x6.length < 140737488355328 then (some (x6 ++ [(x5) % 256])) else (none))
end
def chalklineref01_PutInt.f (k : Nat) (l0 : List Int) (a1 : Int) : Option (List Int) := if a1 < 0 then (chalklineref01_PutInt.j0 k l0 (IntKind.u64.wrap ((IntKind.u64.wrap (2 * (IntKind.u64.wrap (wrap64 (-(wrap64 (a1 + 1))))))) + 1))) else (chalklineref01_PutInt.j0 k l0 (IntKind.u64.wrap (2 * (IntKind.u64.wrap (a1)))))
theorem chalklineref01_PutInt.mono_l : ∀ k, (∀ y0 y1, LeO (chalklineref01_PutInt.j0 k y0 y1) (chalklineref01_PutInt.j0 (k + 1) y0 y1)) ∧ (∀ y0 y1, LeO (chalklineref01_PutInt.l0 k y0 y1) (chalklineref01_PutInt.l0 (k + 1) y0 y1))
  | 0 => ⟨fun _ _ r h => by simp [chalklineref01_PutInt.j0] at h, fun _ _ r h => by simp [chalklineref01_PutInt.l0] at h⟩
  | k + 1 => by
    obtain ⟨ih0, ih1⟩ := chalklineref01_PutInt.mono_l k
    refine ⟨?_, ?_⟩
    · intro y0 y1
      unfold chalklineref01_PutInt.j0
      repeat' first
      | (with_reducible exact ih0 _ _)
      | (with_reducible exact ih1 _ _)
      | (with_reducible exact LeO.refl _)
      | (with_reducible exact LeO.none _)
      | (with_reducible refine LeO.ite ?_ ?_)
      | (with_reducible refine LeO.bind ?_ (fun _ => ?_))
      | exact ih0 _ _
      | exact ih1 _ _
      | exact LeO.none _
      | refine LeO.ite ?_ ?_
      | refine LeO.bind ?_ (fun _ => ?_)
    · intro y0 y1
      unfold chalklineref01_PutInt.l0
      repeat' first
      | (with_reducible exact ih0 _ _)
      | (with_reducible exact ih1 _ _)
      | (with_reducible exact LeO.refl _)
      | (with_reducible exact LeO.none _)
      | (with_reducible refine LeO.ite ?_ ?_)
      | (with_reducible refine LeO.bind ?_ (fun _ => ?_))
      | exact ih0 _ _
      | exact ih1 _ _
      | exact LeO.none _
      | refine LeO.ite ?_ ?_
      | refine LeO.bind ?_ (fun _ => ?_)
theorem chalklineref01_PutInt.mono : ∀ a0 a1 k, LeO (chalklineref01_PutInt.f k a0 a1) (chalklineref01_PutInt.f (k + 1) a0 a1) := by
  intro a0 a1 k
  obtain ⟨ih0, ih1⟩ := chalklineref01_PutInt.mono_l k
  unfold chalklineref01_PutInt.f
  repeat' first
      | (with_reducible exact ih0 _ _)
      | (with_reducible exact ih1 _ _)
      | (with_reducible exact LeO.refl _)
      | (with_reducible exact LeO.none _)
      | (with_reducible refine LeO.ite ?_ ?_)
      | (with_reducible refine LeO.bind ?_ (fun _ => ?_))
      | exact ih0 _ _
      | exact ih1 _ _
      | exact LeO.none _
      | refine LeO.ite ?_ ?_
      | refine LeO.bind ?_ (fun _ => ?_)
set_option maxHeartbeats 8000000 in
set_option maxRecDepth 100000 in
theorem chalklineref01_PutInt.calls (k : Nat) (A0 : Option Addr) (c0 : Nat) (l0 : List Int) (a1 : Int) (r : List Int) (w : World) (hr0 : Kd.C (Kd.int .u8) w A0 l0.length l0) (hc0 : l0.length ≤ c0) (h : chalklineref01_PutInt.f k l0 a1 = some r) :
    Calls Try.prog 62 #[.slice A0 l0.length c0, .int .i64 a1] w fun e w' => ∃ v0_ : Value, e = .returned (v0_) ∧ Kd.R (Kd.int .u8) 5 w' w.heap.size (fun _ => True) v0_ r ∧ Below w.heap.size w w' := by
  have HR0 := Aside0.mk hr0
  have HC0 := Aside0.mk hc0
  clear hr0 hc0
  have HB := Aside0.mk (Below.refl w.heap.size w)
  have H : (if a1 < 0 then (chalklineref01_PutInt.j0 k l0 (IntKind.u64.wrap ((IntKind.u64.wrap (2 * (IntKind.u64.wrap (wrap64 (-(wrap64 (a1 + 1))))))) + 1))) else (chalklineref01_PutInt.j0 k l0 (IntKind.u64.wrap (2 * (IntKind.u64.wrap (a1)))))) = some r := h
  clear h
  have HC3 := Aside0.mk H
  clear H
  go_enter Try.func62, Try.ntmps62
  go_upto_if 11 with (fail)
  go_cut [5] (fun v5 wc => ∃ (kq : Nat) (x5_2 : Int), v5 = .int .u64 x5_2 ∧ Aside0 (chalklineref01_PutInt.j0 kq l0 x5_2 = some r) ∧ Aside0 (kq ≤ k) ∧ Aside0 (Below w.heap.size w wc))
  case first =>
    have H := HC3.out
    clear HC3
    by_cases c4 : a1 < 0
    · rw [if_pos c4] at H
      have c4b0 : decide (a1 < 0) = true := decide_eq_true c4
      clear c4
      (first | rw [c4b0] | (simp only [i64_w, i32_w]; rw [c4b0]) | skip)
      have H' := Aside0.mk H
      clear H
      go_wp2
      go_meet
      case rel => exact ⟨_, (IntKind.u64.wrap ((IntKind.u64.wrap (2 * (IntKind.u64.wrap (wrap64 (-(wrap64 (a1 + 1))))))) + 1)), (by first | rfl | (simp; done) | (simp [*]; done)), H', ⟨by first | omega | exact Nat.le_refl _⟩, ⟨by repeat (first | (with_reducible first | exact HB.out | apply below_alloc | apply pw_below_drewN | apply below_drew1) | exact HB.out)⟩⟩
    · rw [if_neg c4] at H
      have c4b0 : decide (a1 < 0) = false := decide_eq_false c4
      clear c4
      (first | rw [c4b0] | (simp only [i64_w, i32_w]; rw [c4b0]) | skip)
      have H' := Aside0.mk H
      clear H
      go_wp2
      go_meet
      case rel => exact ⟨_, (IntKind.u64.wrap (2 * (IntKind.u64.wrap (a1)))), (by first | rfl | (simp; done) | (simp [*]; done)), H', ⟨by first | omega | exact Nat.le_refl _⟩, ⟨by repeat (first | (with_reducible first | exact HB.out | apply below_alloc | apply pw_below_drewN | apply below_drew1) | exact HB.out)⟩⟩
  case rest =>
    clear HC3
    try clear p2
    try clear c4
    try clear c4b0
    obtain ⟨kq, x5_2, rfl, HA, HJ2, HB⟩ := hcut
    cases kq with
    | zero => exact absurd HA.out (by simp [chalklineref01_PutInt.j0])
    | succ kj2 =>
      have H := HA.out
      clear HA
      simp only [chalklineref01_PutInt.j0] at H
      obtain ⟨y373, hy373⟩ : ∃ y_ : List Int, y_ = (([] : List Int)) := ⟨_, rfl⟩
      replace H : (if y373.length + l0.length < 140737488355328 then (chalklineref01_PutInt.l0 kj2 x5_2 (y373 ++ l0)) else (none)) = some r := by first | (rw [hy373]; with_reducible exact H) | (have H2_ := (Option.bind_some _ _).symm.trans H; rw [hy373]; with_reducible exact H2_) | (have H2_ := (Option.bind_some _ _).symm.trans H; with_reducible exact H2_) | with_reducible exact H | (rw [hy373]; exact H) | exact H
      have Ny373 := Aside0.mk hy373
      clear hy373
      by_cases c5 : y373.length + l0.length < 140737488355328
      · rw [if_pos c5] at H
        have LMc5 := Aside0.mk c5
        clear c5
        obtain ⟨y376, hy376⟩ : ∃ y_ : List Int, y_ = (y373 ++ l0) := ⟨_, rfl⟩
        replace H : (chalklineref01_PutInt.l0 kj2 x5_2 y376) = some r := by first | (rw [hy376]; with_reducible exact H) | (have H2_ := (Option.bind_some _ _).symm.trans H; rw [hy376]; with_reducible exact H2_) | (have H2_ := (Option.bind_some _ _).symm.trans H; with_reducible exact H2_) | with_reducible exact H | (rw [hy376]; exact H) | exact H
        have Ny376 := Aside0.mk hy376
        clear hy376
        have H' := Aside0.mk H
        clear H
        go_wp2_with (first | ((with_reducible refine gate_dst (N := 18) rfl ?_); refine Kd.R_lit (Kd.int .u8) _ 5 ?hg (N := 18) ?hd (xs := ([] : List Int)) (inner := []) (ok := fun _ => True) (okp := fun _ => True) ?hr ?hp (fun _ hk => hk) trivial (Below.refl _ _) (Nat.le_refl _) (by simp) ?_; (case hd => rfl); (case hg => rfl); (case hr => first | (go_simp; done) | (go_simp; rfl)); (case hp => exact (Reps.none _ _)); intro v374 w6 ho7 hb hg_ hnew_; clear hg_ hnew_; (first | rw [← Ny373.out] at ho7 | (simp only [Int.reduceToNat] at ho7; rw [← Ny373.out] at ho7)); have n0_ := Aside0.mk (Kd.R_lower ho7 (below_size (by repeat (first | (with_reducible first | exact HB.out | apply below_alloc | apply pw_below_drewN | apply below_drew1) | exact HB.out)))); have n1_ := Aside0.mk (below_step (by repeat (first | (with_reducible first | exact HB.out | apply below_alloc | apply pw_below_drewN | apply below_drew1) | exact HB.out)) hb); clear HB; have HO375 := n0_; have HB := n1_; clear n0_ n1_; clear hb ho7) | ((with_reducible refine gate_builtin (b := .append) (xs := #[.tmp 18, .tmp 19]) rfl ?_); at_builtin; refine Kd.R_append_rows (Kd.int .u8) (w0 := w) w.heap.size rfl (.tmp 18) (.tmp 19) 22 5 (.int .u8 0) 1 rfl Try.underlying22 info5 rfl (by decide) (by omega) v374 y373 l0 _ _ _ (fun _ => True) (fun _ => False) rfl rfl ?aO ?aR (fun _ _ h => h) (fun _ h => h.elim) ?aF ?aB ?aS ?aL ?_; (case aR => repeat (first | exact (Kd.C_below HR0.out HB.out) | (with_reducible refine Kd.C_alloc ?_ _) | (with_reducible refine Kd.C_drewN ?_ _) | (with_reducible refine Kd.C_drew ?_))); (case aB => exact (by repeat (first | (with_reducible first | exact HB.out | apply below_alloc | apply pw_below_drewN | apply below_drew1) | exact HB.out))); (case aF => exact (fun _ _ => trivial)); (case aO => exact (by (with_reducible repeat (first | apply Kd.R_alloc | apply Kd.R_drewN | apply Kd.R_drew)); exact HO375.out)); (case aS => exact (below_size (by repeat (first | (with_reducible first | exact HB.out | apply below_alloc | apply pw_below_drewN | apply below_drew1) | exact HB.out)))); (case aL => have := LMc5.out; omega); intro v377 w8 ho hb hg hat; rw [← Ny376.out] at ho; have n0_ := Aside0.mk (hb); have n1_ := Aside0.mk (ho); clear HB; clear HO375; have HB := n0_; have HO378 := n1_; clear n0_ n1_; clear ho hb hg hat))
        go_loopg [5, 6] kj2 (fun kq v5 v6 w' => ∃ (x5_2 : Int) (x6_2 : List Int), v5 = .int .u64 x5_2 ∧ Aside0 (chalklineref01_PutInt.l0 kq x5_2 x6_2 = some r) ∧ Aside0 (kq ≤ kj2) ∧ Aside0 (Kd.R (Kd.int .u8) 5 w' w.heap.size (fun _ => True) v6 x6_2) ∧ Aside0 (Below w.heap.size w w'))
        case atStart => exact ⟨(x5_2), (y376), (by first | rfl | (simp; done) | (simp [*]; done)), H', ⟨Nat.le_refl _⟩, ⟨by (with_reducible repeat (first | apply Kd.R_alloc | apply Kd.R_drewN | apply Kd.R_drew)); exact HO378.out⟩, ⟨by repeat (first | (with_reducible first | exact HB.out | apply below_alloc | apply pw_below_drewN | apply below_drew1) | exact HB.out)⟩⟩
        case round =>
          clear H'
          try clear p2
          try clear c4
          try clear c4b0
          try clear c5
          try clear c6
          try clear p6
          try clear p2
          obtain ⟨x5_2, x6_2, rfl, HA, HK2, HO_6, HB⟩ := hrel
          cases gk with
          | zero => exact absurd HA.out (by simp [chalklineref01_PutInt.l0])
          | succ k2 =>
            have H := HA.out
            clear HA
            simp only [chalklineref01_PutInt.l0] at H
            by_cases c9 : x5_2 ≥ 128
            · rw [if_pos c9] at H
              have c9b0 : decide (128 ≤ x5_2) = true := decide_eq_true c9
              clear c9
              by_cases c10 : x6_2.length < 140737488355328
              · rw [if_pos c10] at H
                have LMc10 := Aside0.mk c10
                clear c10
                obtain ⟨y379, hy379⟩ : ∃ y_ : List Int, y_ = (x6_2 ++ [(IntKind.u64.wrap ((Int.tmod x5_2 128) + 128)) % 256]) := ⟨_, rfl⟩
                replace H : (chalklineref01_PutInt.l0 k2 (IntKind.u64.wrap (Int.tdiv x5_2 128)) y379) = some r := by first | (rw [hy379]; with_reducible exact H) | (have H2_ := (Option.bind_some _ _).symm.trans H; rw [hy379]; with_reducible exact H2_) | (have H2_ := (Option.bind_some _ _).symm.trans H; with_reducible exact H2_) | with_reducible exact H | (rw [hy379]; exact H) | exact H
                have Ny379 := Aside0.mk hy379
                clear hy379
                have H' := Aside0.mk H
                clear H
                go_wp2_with (first | ((with_reducible refine gate_builtin (b := .append) (xs := #[.tmp 23, .tmp 28]) rfl ?_); at_builtin; refine Kd.R_append (Kd.int .u8) (w0 := w) w.heap.size rfl (.tmp 23) (.tmp 28) 22 5 (.int .u8 0) 1 rfl Try.underlying22 info5 rfl (by decide) (by omega) u6 x6_2 ((IntKind.u64.wrap ((Int.tmod x5_2 128) + 128)) % 256) [.int .u8 ((IntKind.u64.wrap ((Int.tmod x5_2 128) + 128)) % 256)] (fun _ => True) (fun _ => False) rfl rfl ?aP (fun _ hk => hk.elim) ?aF ?aO ?aB ?aS ?aL ?_; (case aP => exact rfl); (case aB => exact (by repeat (first | (with_reducible first | exact HB.out | apply below_alloc | apply pw_below_drewN | apply below_drew1) | exact HB.out))); (case aF => exact (fun _ _ => trivial)); (case aO => exact (by (with_reducible repeat (first | apply Kd.R_alloc | apply Kd.R_drewN | apply Kd.R_drew)); exact HO_6.out)); (case aS => exact (below_size (by repeat (first | (with_reducible first | exact HB.out | apply below_alloc | apply pw_below_drewN | apply below_drew1) | exact HB.out)))); (case aL => have := LMc10.out; omega); intro v380 w11 ho hb hg hat; rw [← Ny379.out] at ho; have n0_ := Aside0.mk (hb); have n1_ := Aside0.mk (ho); clear HB; clear HO_6; have HB := n0_; have HO381 := n1_; clear n0_ n1_; clear ho hb hg hat))
                go_roundg k2
                case measure => have := HJ2.out; have := HK2.out; omega
                case rel => exact ⟨(IntKind.u64.wrap (Int.tdiv x5_2 128)), (y379), (by first | rfl | (simp; done) | (simp [*]; done)), H', ⟨by have := HJ2.out; have := HK2.out; omega⟩, ⟨by (with_reducible repeat (first | apply Kd.R_alloc | apply Kd.R_drewN | apply Kd.R_drew)); exact HO381.out⟩, ⟨by repeat (first | (with_reducible first | exact HB.out | apply below_alloc | apply pw_below_drewN | apply below_drew1) | exact HB.out)⟩⟩
              · rw [if_neg c10] at H
                exact absurd H (by simp)
            · rw [if_neg c9] at H
              have c9b0 : decide (128 ≤ x5_2) = false := decide_eq_false c9
              clear c9
              by_cases c12 : x6_2.length < 140737488355328
              · rw [if_pos c12] at H
                have LMc12 := Aside0.mk c12
                clear c12
                obtain ⟨y382, hy382⟩ : ∃ y_ : List Int, y_ = (x6_2 ++ [(x5_2) % 256]) := ⟨_, rfl⟩
                replace H : (some y382) = some r := by first | (rw [hy382]; with_reducible exact H) | (have H2_ := (Option.bind_some _ _).symm.trans H; rw [hy382]; with_reducible exact H2_) | (have H2_ := (Option.bind_some _ _).symm.trans H; with_reducible exact H2_) | with_reducible exact H | (rw [hy382]; exact H) | exact H
                have Ny382 := Aside0.mk hy382
                clear hy382
                obtain rfl := Option.some.inj H
                go_wp2_with (first | ((with_reducible refine gate_builtin (b := .append) (xs := #[.tmp 32, .tmp 35]) rfl ?_); at_builtin; refine Kd.R_append (Kd.int .u8) (w0 := w) w.heap.size rfl (.tmp 32) (.tmp 35) 22 5 (.int .u8 0) 1 rfl Try.underlying22 info5 rfl (by decide) (by omega) u6 x6_2 ((x5_2) % 256) [.int .u8 ((x5_2) % 256)] (fun _ => True) (fun _ => False) rfl rfl ?aP (fun _ hk => hk.elim) ?aF ?aO ?aB ?aS ?aL ?_; (case aP => exact rfl); (case aB => exact (by repeat (first | (with_reducible first | exact HB.out | apply below_alloc | apply pw_below_drewN | apply below_drew1) | exact HB.out))); (case aF => exact (fun _ _ => trivial)); (case aO => exact (by (with_reducible repeat (first | apply Kd.R_alloc | apply Kd.R_drewN | apply Kd.R_drew)); exact HO_6.out)); (case aS => exact (below_size (by repeat (first | (with_reducible first | exact HB.out | apply below_alloc | apply pw_below_drewN | apply below_drew1) | exact HB.out)))); (case aL => have := LMc12.out; omega); intro v383 w13 ho hb hg hat; rw [← Ny382.out] at ho; have n0_ := Aside0.mk (hb); have n1_ := Aside0.mk (ho); clear HB; clear HO_6; have HB := n0_; have HO384 := n1_; clear n0_ n1_; clear ho hb hg hat))
                go_ret
                exact ⟨_, by first | rfl | (simp [errW_none, errW_some] <;> rfl) | (simp [*, errW_none, errW_some] <;> rfl), by (with_reducible repeat (first | apply Kd.R_alloc | apply Kd.R_drewN | apply Kd.R_drew)); exact HO384.out, by repeat (first | (with_reducible first | exact HB.out | apply below_alloc | apply pw_below_drewN | apply below_drew1) | exact HB.out)⟩
              · rw [if_neg c12] at H
                exact absurd H (by simp)
      · rw [if_neg c5] at H
        exact absurd H (by simp)
end Go.Proofs.Ytfcdaifaocgjfaa.Pr
end
section
namespace Go.Proofs.Ytfcdaifaocgjfaa.Pure
open Go.RowKit Go.Proofs.Ytfcdaifaocgjfaa.Pr Go.Proofs.YtfcdaifaocgjfaaW.PrintWords Go.Proofs.YtfcdaifaocgjfaaW.PrintLast
theorem up {α : Type} {f : Nat → Option α} (h : ∀ k, LeO (f k) (f (k + 1))) {k : Nat} {r : α} (hk : f k = some r) : ∀ k', k ≤ k' → f k' = some r := by
  intro k' hle
  obtain ⟨e, rfl⟩ : ∃ e, k' = k + e := ⟨k' - k, by omega⟩
  clear hle
  induction e with
  | zero => exact hk
  | succ e ih => exact h _ _ ih
theorem w64 {n : Int} (h0 : -9223372036854775808 ≤ n) (h1 : n < 9223372036854775808) : wrap64 n = n := by unfold wrap64; omega
theorem ru64 (n : Nat) (h : n < 18446744073709551616) : IntKind.u64.wrap (n : Int) = n := by rw [IntKind.wrap_u64]; omega
theorem rd_get (l : List Int) (i : Nat) (h : i < l.length) : rd l (i : Int) = l[i] := by simp [rd, List.getD_eq_getElem?_getD, List.getElem?_eq_getElem h]
theorem wf_u8 {x : Int} (h : (Lit.int .u8 x).wf = true) : 0 ≤ x ∧ x < 256 := by
  have := bounds_u8 h
  omega
theorem ok64_of {n : Int} (h : (Lit.int .i64 n).wf = true) : Oc.ok64 n = true := by
  have := bounds_i64 h
  simp only [Oc.ok64, Bool.and_eq_true, decide_eq_true_eq]
  omega
theorem tdiv_nat (a b : Nat) : Int.tdiv (a : Int) (b : Int) = ((a / b : Nat) : Int) := rfl
theorem tmod_nat (a b : Nat) : Int.tmod (a : Int) (b : Int) = ((a % b : Nat) : Int) := rfl
theorem put_loop : ∀ (k u : Nat) (out : List Int), (Oc.grp u).length ≤ k → out.length + k ≤ 100000000000000 → u < 18446744073709551616 → chalklineref01_PutInt.l0 k (u : Int) out = some (out ++ Oc.grp u) := by
  intro k
  induction k with
  | zero => intro u out h; have := Oc.grp_ne u; exact absurd (List.eq_nil_of_length_eq_zero (by omega)) this
  | succ k ih =>
    intro u out h h2 hu
    rw [chalklineref01_PutInt.l0]
    by_cases c : 127 < u
    · rw [Oc.grp_big u c, List.length_cons] at h
      rw [if_pos (by omega), if_pos (by omega), show (128 : Int) = ((128 : Nat) : Int) from rfl, tdiv_nat, tmod_nat, ru64 _ (by omega)]
      have e : IntKind.u64.wrap (((u % 128 : Nat) : Int) + ((128 : Nat) : Int)) % 256 = ((u % 128 + 128 : Nat) : Int) := by rw [IntKind.wrap_u64]; omega
      rw [e, ih (u / 128) _ (by omega) (by rw [List.length_append, List.length_singleton]; omega) (by omega), Oc.grp_big u c, List.append_assoc]
      rfl
    · rw [if_neg (by omega), if_pos (by omega), Oc.grp_small u (by omega)]
      congr 3
      omega
theorem refPut (l : List Int) (n : Int) (hn : Oc.ok64 n = true) (hl : l.length ≤ 10000000000000) : ∀ k, 11 ≤ k → chalklineref01_PutInt.f k l n = some (Oc.putI l n) := by
  have h64 := Oc.zz_lt n hn
  have h10 := Oc.grp_ten _ h64
  have hj : ∀ m : Int, m = ((Oc.zz n : Nat) : Int) → chalklineref01_PutInt.j0 11 l m = some (Oc.putI l n) := by
    rintro m rfl
    rw [chalklineref01_PutInt.j0, Option.bind_some, if_pos (by simp; omega), List.nil_append]
    exact put_loop 10 _ l h10 (by omega) h64
  refine up (f := fun k => chalklineref01_PutInt.f k l n) (chalklineref01_PutInt.mono l n) (k := 11) ?_
  simp only [Oc.ok64, Bool.and_eq_true, decide_eq_true_eq] at hn
  show chalklineref01_PutInt.f 11 l n = _
  unfold chalklineref01_PutInt.f
  by_cases c : n < 0
  · rw [if_pos c]
    refine hj _ ?_
    unfold Oc.zz
    rw [if_neg (by omega)]
    simp only [IntKind.wrap_u64]
    unfold wrap64
    omega
  · rw [if_neg c]
    refine hj _ ?_
    unfold Oc.zz
    rw [if_pos (by omega)]
    simp only [IntKind.wrap_u64]
    omega
theorem unzz_ref (U : Nat) (h : U < 18446744073709551616) :
    (if Int.tmod (U : Int) 2 = 1 then wrap64 ((wrap64 (-(wrap64 (IntKind.u64.wrap (Int.tdiv (U : Int) 2))))) - 1) else wrap64 (IntKind.u64.wrap (Int.tdiv (U : Int) 2))) = Oc.unzz U := by
  rw [show (2 : Int) = ((2 : Nat) : Int) from rfl, tdiv_nat, tmod_nat, ru64 _ (by omega)]
  unfold Oc.unzz
  by_cases c : U % 2 = 0
  · rw [if_neg (by omega), if_pos c, w64 (by omega) (by omega)]
  · rw [if_pos (by omega), if_neg c, w64 (n := ((U / 2 : Nat) : Int)) (by omega) (by omega), w64 (n := -((U / 2 : Nat) : Int)) (by omega) (by omega), w64 (by omega) (by omega)]
theorem get_loop (l : List Int) (a : Nat) (hb : Oc.okB l = true) (hl : l.length ≤ 1000000000000) : ∀ (n i un : Nat), i ≤ 9 → 10 - i ≤ n → a + i ≤ l.length → un < 128 ^ i →
    ∀ e, chalklineref01_GetInt.l0 (2 * n + e) l (a : Int) (un : Int) ((128 ^ i : Nat) : Int) (i : Int) = some (Oc.getL (l.drop (a + i)) (a : Int) i un) := by
  intro n
  induction n with
  | zero => intro i un h1 h2; omega
  | succ n ih =>
    intro i un h9 hn hi hu e
    rw [show 2 * (n + 1) + e = (2 * n + e + 1) + 1 by omega, chalklineref01_GetInt.l0, if_pos (by omega), w64 (by omega) (by omega)]
    by_cases c : a + i = l.length
    · rw [if_pos (by omega), c, List.drop_length]
      rfl
    rw [if_neg (by omega), if_pos (by omega), if_pos (by omega)]
    have hlt : a + i < l.length := by omega
    rw [show ((a : Int) + (i : Int)) = ((a + i : Nat) : Int) by omega, rd_get l (a + i) hlt, List.drop_eq_getElem_cons hlt]
    have hc := (Oc.okB_iff l).1 hb l[a + i] (List.getElem_mem hlt)
    generalize l[a + i] = c at hc
    rw [Oc.getL]
    have j11 : ∀ k, chalklineref01_GetInt.j2 (k + 1) l (a : Int) (un : Int) ((128 ^ i : Nat) : Int) (i : Int) c true = some (0, 0, 11) := fun k => by rw [chalklineref01_GetInt.j2, if_pos rfl]
    by_cases h1 : i = 9 ∧ 1 < c
    · rw [if_pos h1, if_pos (by omega), if_pos (by omega), j11]
    rw [if_neg h1]
    by_cases h2 : 0 < i ∧ c = 0
    · rw [if_pos h2]
      by_cases h3 : (i : Int) = 9
      · rw [if_pos h3, if_neg (by omega), if_pos h2.2, decide_eq_true (show (i : Int) > 0 by omega), j11]
      · rw [if_neg h3, if_pos h2.2, decide_eq_true (show (i : Int) > 0 by omega), j11]
    rw [if_neg h2]
    have hgl := Oc.group_lt un i c hu hc.1 hc.2 h9 h1
    have hU : IntKind.u64.wrap ((un : Int) + (IntKind.u64.wrap ((IntKind.u64.wrap (Int.tmod c 128)) * ((128 ^ i : Nat) : Int)))) = ((un + c.toNat % 128 * 128 ^ i : Nat) : Int) := by
      obtain ⟨m, rfl⟩ := Int.eq_ofNat_of_zero_le hc.1
      rw [show (128 : Int) = ((128 : Nat) : Int) from rfl, tmod_nat, ru64 _ (by omega), ← Int.natCast_mul, Int.toNat_natCast, ru64 _ (by have := hgl.1; rw [Int.toNat_natCast] at this; exact this), ← Int.natCast_add, ru64 _ (by have := hgl.2.1; rw [Int.toNat_natCast] at this; exact this)]
    have key : chalklineref01_GetInt.j2 (2 * n + e + 1) l (a : Int) (un : Int) ((128 ^ i : Nat) : Int) (i : Int) c false = some (if c < 128 then (Oc.unzz (un + c.toNat % 128 * 128 ^ i), (a : Int) + i + 1, 0) else Oc.getL (l.drop (a + i + 1)) (a : Int) (i + 1) (un + c.toNat % 128 * 128 ^ i)) := by
      rw [chalklineref01_GetInt.j2, if_neg (by simp), hU]
      by_cases h3 : c < 128
      · rw [if_pos h3, if_pos h3, ← unzz_ref _ hgl.2.1, w64 (n := (a : Int) + (i : Int)) (by omega) (by omega), w64 (n := (a : Int) + (i : Int) + 1) (by omega) (by omega)]
        split <;> rfl
      · rw [if_neg h3, if_neg h3]
        have hi8 : i ≤ 8 := by
          rcases Nat.lt_or_ge i 9 with h | h
          · omega
          · exact absurd ⟨show i = 9 by omega, show 1 < c by omega⟩ h1
        have hp := Oc.pow_le i hi8
        have ht : IntKind.u64.wrap (((128 ^ i : Nat) : Int) * 128) = ((128 ^ (i + 1) : Nat) : Int) := by
          rw [show (128 : Int) = ((128 : Nat) : Int) from rfl, ← Int.natCast_mul, ← Nat.pow_succ, ru64 _ (by omega)]
        rw [ht, w64 (n := (i : Int) + 1) (by omega) (by omega)]
        exact ih (i + 1) _ (by omega) (by omega) (by omega) (hgl.2.2 hi8) e
    by_cases h3 : (i : Int) = 9
    · rw [if_pos h3, if_neg (by omega)]
      by_cases h4 : c = 0
      · exact absurd ⟨by omega, h4⟩ h2
      · rw [if_neg h4]; exact key
    · rw [if_neg h3]
      by_cases h4 : c = 0
      · rw [if_pos h4, decide_eq_false (show ¬ (i : Int) > 0 by omega)]; exact key
      · rw [if_neg h4]; exact key
theorem refGet (l : List Int) (a : Int) (hb : Oc.okB l = true) (hl : l.length ≤ 1000000000000) : ∀ k, 21 ≤ k → chalklineref01_GetInt.f k l a = some (Oc.getI l a) := by
  refine up (f := fun k => chalklineref01_GetInt.f k l a) (chalklineref01_GetInt.mono l a) (k := 21) ?_
  show chalklineref01_GetInt.f 21 l a = _
  unfold chalklineref01_GetInt.f Oc.getI
  by_cases c : a < 0
  · rw [if_pos c, if_pos c, chalklineref01_GetInt.j0, if_pos rfl]
  rw [if_neg c, if_neg c]
  by_cases c1 : (l.length : Int) < a
  · rw [if_pos c1, decide_eq_true (show a > (l.length : Int) from c1), chalklineref01_GetInt.j0, if_pos rfl]
  rw [if_neg c1, decide_eq_false (show ¬ a > (l.length : Int) by omega), chalklineref01_GetInt.j0, if_neg (by simp)]
  obtain ⟨n, rfl⟩ := Int.eq_ofNat_of_zero_le (show 0 ≤ a by omega)
  exact get_loop l n hb hl 10 0 0 (by omega) (by omega) (by omega) (by simp) 0
end Go.Proofs.Ytfcdaifaocgjfaa.Pure
end
section
namespace Go.Proofs.Ytfcdaifaocgjfaa.Pr
open Go.RowKit Go.Proofs.YtfcdaifaocgjfaaW.PrintWords Go.Proofs.YtfcdaifaocgjfaaW.PrintLast Go.Proofs.YtfcdaifaocgjfaaW.PrintMore
attribute [local go_sem] max2_int min2_int max_two min_two max_three min_three max_four min_four   -- for this text's walks alone
set_option linter.unusedVariables false
set_option linter.unusedSimpArgs false
def chalklineref02_step.f (a0 : Int) : Option (Int) := if (Int.tmod a0 2) = 1 then (some (Go.bits .xor .u32 ((Int.tdiv a0 2) % 4294967296) 3988292384)) else (some ((Int.tdiv a0 2) % 4294967296))
set_option maxHeartbeats 8000000 in
set_option maxRecDepth 100000 in
theorem chalklineref02_step.calls (a0 : Int) (r : Int) (w : World) (h : chalklineref02_step.f a0 = some r) :
    Calls Try.prog 72 #[.int .u32 a0] w fun e w' => e = .returned (.int .u32 r) ∧ Drawn0 w w' := by
  have H : (if (Int.tmod a0 2) = 1 then (some (Go.bits .xor .u32 ((Int.tdiv a0 2) % 4294967296) 3988292384)) else (some ((Int.tdiv a0 2) % 4294967296))) = some r := h
  clear h
  by_cases c2 : (Int.tmod a0 2) = 1
  · rw [if_pos c2] at H
    have c2b0 : ((Int.tmod a0 2) == 1) = true := beq_iff_eq.mpr c2
    have c2b1 : ((Int.tmod a0 2) != 1) = false := bne_eq_false_iff_eq.mpr c2
    clear c2
    obtain rfl := Option.some.inj H
    go_enter Try.func72, Try.ntmps72
    go_wp2
    go_ret
    exact ⟨by first | rfl | (simp; done) | (simp [*]; done), by repeat (first | exact Drawn0.refl _ | apply Drawn0.step)⟩
  · rw [if_neg c2] at H
    have c2b0 : ((Int.tmod a0 2) == 1) = false := beq_eq_false_iff_ne.mpr c2
    have c2b1 : ((Int.tmod a0 2) != 1) = true := bne_iff_ne.mpr c2
    obtain rfl := Option.some.inj H
    go_enter Try.func72, Try.ntmps72
    go_wp2
    go_ret
    exact ⟨by first | rfl | (simp; done) | (simp [*]; done), by repeat (first | exact Drawn0.refl _ | apply Drawn0.step)⟩
mutual
def chalklineref02_Sum.l0 : Nat → Int → List Int → Int → Int → Option (Int)
  | 0, _, _, _, _ => none
  | k + 1, x3, x6, x7, x8 => if x8 < x7 then (if 0 ≤ x8 then (if x8 < (x6.length : Int) then (chalklineref02_Sum.l1 k (Go.bits .xor .u32 x3 ((rd x6 x8) % 4294967296)) x6 x7 x8 0) else (none)) else (none)) else (some (Go.bits .xor .u32 x3 4294967295))
def chalklineref02_Sum.l1 : Nat → Int → List Int → Int → Int → Int → Option (Int)
  | 0, _, _, _, _, _ => none
  | k + 1, x3, x6, x7, x8, x16 => if x16 < 8 then ((chalklineref02_step.f x3).bind fun t260 => (chalklineref02_Sum.l1 k t260 x6 x7 x8 (wrap64 (x16 + 1)))) else (chalklineref02_Sum.l0 k x3 x6 x7 (wrap64 (x8 + 1)))
end
def chalklineref02_Sum.f (k : Nat) (l0 : List Int) : Option (Int) := chalklineref02_Sum.l0 k 4294967295 l0 (l0.length : Int) 0
set_option maxHeartbeats 8000000 in
set_option maxRecDepth 100000 in
theorem chalklineref02_Sum.calls (k : Nat) (A0 : Option Addr) (c0 : Nat) (l0 : List Int) (r : Int) (w : World) (hr0 : Kd.C (Kd.int .u8) w A0 l0.length l0) (hc0 : l0.length ≤ c0) (h : chalklineref02_Sum.f k l0 = some r) :
    Calls Try.prog 61 #[.slice A0 l0.length c0] w fun e w' => e = .returned (.int .u32 r) ∧ Drawn0 w w' := by
  have HR0 := Aside0.mk hr0
  have HC0 := Aside0.mk hc0
  clear hr0 hc0
  have H : (chalklineref02_Sum.l0 k 4294967295 l0 (l0.length : Int) 0) = some r := h
  clear h
  have H' := Aside0.mk H
  clear H
  go_enter Try.func61, Try.ntmps61
  go_wp2
  go_loopg [3, 8] k (fun kq v3 v8 w' => ∃ (x3_1 : Int) (x8_1 : Int), v3 = .int .u32 x3_1 ∧ v8 = .int .i64 x8_1 ∧ Aside0 (chalklineref02_Sum.l0 kq x3_1 l0 (l0.length : Int) x8_1 = some r) ∧ Aside0 (kq ≤ k) ∧ Drawn0 w w')
  case atStart => exact ⟨(4294967295), (0), (by first | rfl | (simp; done) | (simp [*]; done)), (by first | rfl | (simp; done) | (simp [*]; done)), H', ⟨Nat.le_refl _⟩, by repeat (first | exact Drawn0.refl _ | apply Drawn0.step)⟩
  case round =>
    clear H'
    obtain ⟨x3_1, x8_1, rfl, rfl, HA, HK1, ⟨m1, rfl⟩⟩ := hrel
    cases gk with
    | zero => exact absurd HA.out (by simp [chalklineref02_Sum.l0])
    | succ k1 =>
      have H := HA.out
      clear HA
      simp only [chalklineref02_Sum.l0] at H
      by_cases c2 : x8_1 < (l0.length : Int)
      · rw [if_pos c2] at H
        have c2b0 : decide (x8_1 < (l0.length : Int)) = true := decide_eq_true c2
        clear c2
        by_cases c3 : 0 ≤ x8_1
        · rw [if_pos c3] at H
          have c3b0 : decide (0 ≤ x8_1) = true := decide_eq_true c3
          clear c3
          by_cases c4 : x8_1 < (l0.length : Int)
          · rw [if_pos c4] at H
            have c4b0 : decide (x8_1 < (l0.length : Int)) = true := decide_eq_true c4
            clear c4
            have H' := Aside0.mk H
            clear H
            have p259 : 0 ≤ (x8_1 : Int) := of_decide_eq_true (by first | (with_reducible assumption) | assumption)
            have q259 : x8_1 < (l0.length : Int) := of_decide_eq_true (by first | (with_reducible assumption) | assumption)
            obtain ⟨ad259, e259, hx259_0⟩ := Kd.at_int HR0.out x8_1 p259 q259
            cases e259
            replace p259 := eq_true p259
            replace q259 := eq_true q259
            go_wp2
            go_loopg [3, 16] k1 (fun kq v3 v16 w' => ∃ (x3_2 : Int) (x16_2 : Int), v3 = .int .u32 x3_2 ∧ v16 = .int .i64 x16_2 ∧ Aside0 (chalklineref02_Sum.l1 kq x3_2 l0 (l0.length : Int) x8_1 x16_2 = some r) ∧ Aside0 (kq ≤ k1) ∧ Drawn0 w w')
            case atStart => exact ⟨(Go.bits .xor .u32 x3_1 ((rd l0 x8_1) % 4294967296)), (0), (by first | rfl | (simp; done) | (simp [*]; done)), (by first | rfl | (simp; done) | (simp [*]; done)), H', ⟨Nat.le_refl _⟩, by repeat (first | exact Drawn0.refl _ | apply Drawn0.step)⟩
            case round =>
              clear H'
              try clear c2
              try clear c2b0
              try clear p2
              try clear q2
              try clear hx2
              try clear c3
              try clear c3b0
              try clear c4
              try clear c4b0
              try clear hx259_0
              try clear p259
              try clear q259
              obtain ⟨x3_2, x16_2, rfl, rfl, HA, HK2, ⟨m2, rfl⟩⟩ := hrel
              cases gk with
              | zero => exact absurd HA.out (by simp [chalklineref02_Sum.l1])
              | succ k2 =>
                have H := HA.out
                clear HA
                simp only [chalklineref02_Sum.l1] at H
                by_cases c5 : x16_2 < 8
                · rw [if_pos c5] at H
                  have c5b0 : decide (x16_2 < 8) = true := decide_eq_true c5
                  clear c5
                  replace H := Option.bind_eq_some_iff.mp H
                  obtain ⟨t260, A60, H⟩ := H
                  replace H : (chalklineref02_Sum.l1 k2 t260 l0 (l0.length : Int) x8_1 (wrap64 (x16_2 + 1))) = some r := H
                  have A6 := Aside0.mk A60
                  clear A60
                  have H' := Aside0.mk H
                  clear H
                  go_wp2_with (first | ((with_reducible refine gate_callee (f := 72) rfl ?_); refine goesL_ (some 19) rfl rfl Try.func72 (by kernel_rfl) rfl #[.int .u32 x3_2] rfl (by (try simp only [List.map_toArray, List.map_cons, List.map_nil]); first | done | rfl | (simp only [List.length_drop, List.length_take]; rfl)) ?_; (with_reducible refine (chalklineref02_step.calls x3_2 t260 _ A6.out).mono ?_); rintro e w' ⟨rfl, ⟨nd, rfl⟩⟩; refine ⟨_, rfl, ?_⟩))
                  go_roundg k2
                  case measure => have := HK1.out; have := HK2.out; omega
                  case rel => exact ⟨(t260), (wrap64 (x16_2 + 1)), (by first | rfl | (simp; done) | (simp [*]; done)), (by first | rfl | (simp; done) | (simp [*]; done)), H', ⟨by have := HK1.out; have := HK2.out; omega⟩, by repeat (first | exact Drawn0.refl _ | apply Drawn0.step)⟩
                · rw [if_neg c5] at H
                  have c5b0 : decide (x16_2 < 8) = false := decide_eq_false c5
                  clear c5
                  have H' := Aside0.mk H
                  clear H
                  go_wp2
                  go_roundg k2
                  case measure => have := HK1.out; have := HK2.out; omega
                  case rel => exact ⟨(x3_2), (wrap64 (x8_1 + 1)), (by first | rfl | (simp; done) | (simp [*]; done)), (by first | rfl | (simp; done) | (simp [*]; done)), H', ⟨by have := HK1.out; have := HK2.out; omega⟩, by repeat (first | exact Drawn0.refl _ | apply Drawn0.step)⟩
          · rw [if_neg c4] at H
            exact absurd H (by simp)
        · rw [if_neg c3] at H
          exact absurd H (by simp)
      · rw [if_neg c2] at H
        have c2b0 : decide (x8_1 < (l0.length : Int)) = false := decide_eq_false c2
        clear c2
        obtain rfl := Option.some.inj H
        go_wp2
        go_ret
        exact ⟨by first | rfl | (simp; done) | (simp [*]; done), by repeat (first | exact Drawn0.refl _ | apply Drawn0.step)⟩
def chalklineref02_number.f (l0 : List Int) : Option (Int) := if 0 < (l0.length : Int) then (if 1 < (l0.length : Int) then (if 2 < (l0.length : Int) then (if 3 < (l0.length : Int) then (some ((((((((((((((rd l0 0) % 4294967296) * 256) % 4294967296) + ((rd l0 1) % 4294967296)) % 4294967296) * 256) % 4294967296) + ((rd l0 2) % 4294967296)) % 4294967296) * 256) % 4294967296) + ((rd l0 3) % 4294967296)) % 4294967296)) else (none)) else (none)) else (none)) else (none)
set_option maxHeartbeats 8000000 in
set_option maxRecDepth 100000 in
theorem chalklineref02_number.calls (A0 : Option Addr) (c0 : Nat) (l0 : List Int) (r : Int) (w : World) (hr0 : Kd.C (Kd.int .u8) w A0 l0.length l0) (hc0 : l0.length ≤ c0) (h : chalklineref02_number.f l0 = some r) :
    Calls Try.prog 69 #[.slice A0 l0.length c0] w fun e w' => e = .returned (.int .u32 r) ∧ Drawn0 w w' := by
  have HR0 := Aside0.mk hr0
  have HC0 := Aside0.mk hc0
  clear hr0 hc0
  have H : (if 0 < (l0.length : Int) then (if 1 < (l0.length : Int) then (if 2 < (l0.length : Int) then (if 3 < (l0.length : Int) then (some ((((((((((((((rd l0 0) % 4294967296) * 256) % 4294967296) + ((rd l0 1) % 4294967296)) % 4294967296) * 256) % 4294967296) + ((rd l0 2) % 4294967296)) % 4294967296) * 256) % 4294967296) + ((rd l0 3) % 4294967296)) % 4294967296)) else (none)) else (none)) else (none)) else (none)) = some r := h
  clear h
  by_cases c2 : 0 < (l0.length : Int)
  · rw [if_pos c2] at H
    have c2b0 : decide (0 < (l0.length : Int)) = true := decide_eq_true c2
    have c2b1 : decide (0 < l0.length) = true := decide_eq_true (by omega)
    clear c2
    by_cases c3 : 1 < (l0.length : Int)
    · rw [if_pos c3] at H
      have c3b0 : decide (1 < (l0.length : Int)) = true := decide_eq_true c3
      have c3b1 : decide (1 < l0.length) = true := decide_eq_true (by omega)
      clear c3
      by_cases c4 : 2 < (l0.length : Int)
      · rw [if_pos c4] at H
        have c4b0 : decide (2 < (l0.length : Int)) = true := decide_eq_true c4
        have c4b1 : decide (2 < l0.length) = true := decide_eq_true (by omega)
        clear c4
        by_cases c5 : 3 < (l0.length : Int)
        · rw [if_pos c5] at H
          have c5b0 : decide (3 < (l0.length : Int)) = true := decide_eq_true c5
          have c5b1 : decide (3 < l0.length) = true := decide_eq_true (by omega)
          clear c5
          obtain rfl := Option.some.inj H
          have p261 : 0 ≤ (0 : Int) := (by omega)
          have q261 : 0 < (l0.length : Int) := of_decide_eq_true (by first | (with_reducible assumption) | assumption)
          obtain ⟨ad261, e261, hx261_0⟩ := Kd.at_int HR0.out 0 p261 q261
          cases e261
          have qi261 : (0 < l0.length) = True := eq_true (by omega)
          (try rw [show ((0 : Int)).toNat = 0 from rfl] at hx261_0)
          (try rw [Addr.add_zero'] at hx261_0)
          replace p261 := eq_true p261
          replace q261 := eq_true q261
          have p262 : 0 ≤ (1 : Int) := (by omega)
          have q262 : 1 < (l0.length : Int) := of_decide_eq_true (by first | (with_reducible assumption) | assumption)
          obtain ⟨ad262, e262, hx262_0⟩ := Kd.at_int HR0.out 1 p262 q262
          obtain rfl : ad261 = ad262 := (by injection e262)
          (try simp only [show (1 : Int).toNat = 1 from rfl, Nat.reduceMul, Nat.reduceEqDiff, Go.Addr.add, ↓reduceIte] at hx262_0)
          have qi262 : (1 < l0.length) = True := eq_true (by omega)
          (try rw [show ((1 : Int)).toNat = 1 from rfl] at hx262_0)
          replace p262 := eq_true p262
          replace q262 := eq_true q262
          have p263 : 0 ≤ (2 : Int) := (by omega)
          have q263 : 2 < (l0.length : Int) := of_decide_eq_true (by first | (with_reducible assumption) | assumption)
          obtain ⟨ad263, e263, hx263_0⟩ := Kd.at_int HR0.out 2 p263 q263
          obtain rfl : ad261 = ad263 := (by injection e263)
          (try simp only [show (2 : Int).toNat = 2 from rfl, Nat.reduceMul, Nat.reduceEqDiff, Go.Addr.add, ↓reduceIte] at hx263_0)
          have qi263 : (2 < l0.length) = True := eq_true (by omega)
          (try rw [show ((2 : Int)).toNat = 2 from rfl] at hx263_0)
          replace p263 := eq_true p263
          replace q263 := eq_true q263
          have p264 : 0 ≤ (3 : Int) := (by omega)
          have q264 : 3 < (l0.length : Int) := of_decide_eq_true (by first | (with_reducible assumption) | assumption)
          obtain ⟨ad264, e264, hx264_0⟩ := Kd.at_int HR0.out 3 p264 q264
          obtain rfl : ad261 = ad264 := (by injection e264)
          (try simp only [show (3 : Int).toNat = 3 from rfl, Nat.reduceMul, Nat.reduceEqDiff, Go.Addr.add, ↓reduceIte] at hx264_0)
          have qi264 : (3 < l0.length) = True := eq_true (by omega)
          (try rw [show ((3 : Int)).toNat = 3 from rfl] at hx264_0)
          replace p264 := eq_true p264
          replace q264 := eq_true q264
          go_enter Try.func69, Try.ntmps69
          go_wp2
          repeat (go_quiet (fail); try go_wp2)
          go_ret
          exact ⟨by first | rfl | (simp; done) | (simp [*]; done), by repeat (first | exact Drawn0.refl _ | apply Drawn0.step)⟩
        · rw [if_neg c5] at H
          exact absurd H (by simp)
      · rw [if_neg c4] at H
        exact absurd H (by simp)
    · rw [if_neg c3] at H
      exact absurd H (by simp)
  · rw [if_neg c2] at H
    exact absurd H (by simp)
end Go.Proofs.Ytfcdaifaocgjfaa.Pr
end
section
namespace Go.Proofs.Ytfcdaifaocgjfaa.Pr
open Go.RowKit Go.Proofs.YtfcdaifaocgjfaaW.PrintWords Go.Proofs.YtfcdaifaocgjfaaW.PrintLast Go.Proofs.YtfcdaifaocgjfaaW.PrintMore
attribute [local go_sem] max2_int min2_int max_two min_two max_three min_three max_four min_four   -- for this text's walks alone
set_option linter.unusedVariables false
set_option linter.unusedSimpArgs false
def chalklineref02_Copy.f (l0 : List Int) : Option (List Int) := if l0.length < 140737488355328 then some l0 else none
set_option maxHeartbeats 1000000 in
theorem chalklineref02_Copy.calls (A0 : Option Addr) (c0 : Nat) (l0 : List Int) (r : List Int) (w : World) (hr0 : Kd.C (Kd.int .u8) w A0 l0.length l0) (hc0 : l0.length ≤ c0) (h : chalklineref02_Copy.f l0 = some r) :
    Calls Try.prog 70 #[.slice A0 l0.length c0] w fun e w' => ∃ v0_ : Value, e = .returned (v0_) ∧ Kd.R (Kd.int .u8) 5 w' w.heap.size (fun _ => True) v0_ r ∧ Below w.heap.size w w' := by
  unfold chalklineref02_Copy.f at h
  split at h
  · rename_i hl
    obtain rfl := Option.some.inj h
    clear h
    have HL := Aside0.mk hl
    clear hl
    have HR := Aside0.mk hr0
    clear hr0 hc0
    go_enter Try.func70, Try.ntmps70
    go_wp2_with (at_builtin; refine print_append_row_of (w0 := w) (Value.int .u8) (0 : Int) w.heap.size rfl _ _ 22 5 (.int .u8 0) 1 rfl Try.underlying22 info5 rfl (by omega) (fun _ => rfl) (.slice none 0 0) [] l0 A0 l0.length c0 rfl rfl (own_nil _ _ _ _) (Kd.reads_of_C HR.out) (Below.refl _ _) (Nat.le_refl _) (by have := HL.out; simp; omega) ?_; intro v1 w1 hown hb hg hat)
    go_ret
    exact ⟨_, rfl, Kd.R_of_own (by simpa using hown) (fun _ _ => trivial), hb⟩
  · exact absurd h (by simp)
end Go.Proofs.Ytfcdaifaocgjfaa.Pr
end
