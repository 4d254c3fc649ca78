/- Parts of the proof of JournalNext; no condition. -/
import Derived.Test.YtfcdaifaocgjfaaGa0
import Derived.OpenShut
import Derived.Test.YtfcdaifaocgjfaaPla
section
namespace Go.Proofs.Ytfcdaifaocgjfaa.Pr
open Go.RowKit Go.Proofs.YtfcdaifaocgjfaaW.PrintWords Go.Proofs.YtfcdaifaocgjfaaW.PrintLast Go.Proofs.YtfcdaifaocgjfaaW.PrintMore
attribute [local go_sem] max2_int min2_int max_two min_two max_three min_three max_four min_four   -- for this text's walks alone
set_option linter.unusedVariables false
set_option linter.unusedSimpArgs false
def chalklineref02_step.f (a0 : Int) : Option (Int) := if (Int.tmod a0 2) = 1 then (some (Go.bits .xor .u32 ((Int.tdiv a0 2) % 4294967296) 3988292384)) else (some ((Int.tdiv a0 2) % 4294967296))
set_option maxHeartbeats 8000000 in
set_option maxRecDepth 100000 in
theorem chalklineref02_step.calls (a0 : Int) (r : Int) (w : World) (h : chalklineref02_step.f a0 = some r) :
    Calls Try.prog 72 #[.int .u32 a0] w fun e w' => e = .returned (.int .u32 r) ∧ Drawn0 w w' := by
  have H : (if (Int.tmod a0 2) = 1 then (some (Go.bits .xor .u32 ((Int.tdiv a0 2) % 4294967296) 3988292384)) else (some ((Int.tdiv a0 2) % 4294967296))) = some r := h
  clear h
  by_cases c2 : (Int.tmod a0 2) = 1
  · rw [if_pos c2] at H
    have c2b0 : ((Int.tmod a0 2) == 1) = true := beq_iff_eq.mpr c2
    have c2b1 : ((Int.tmod a0 2) != 1) = false := bne_eq_false_iff_eq.mpr c2
    clear c2
    obtain rfl := Option.some.inj H
    go_enter Try.func72, Try.ntmps72
    go_wp2
    go_ret
    exact ⟨by first | rfl | (simp; done) | (simp [*]; done), by repeat (first | exact Drawn0.refl _ | apply Drawn0.step)⟩
  · rw [if_neg c2] at H
    have c2b0 : ((Int.tmod a0 2) == 1) = false := beq_eq_false_iff_ne.mpr c2
    have c2b1 : ((Int.tmod a0 2) != 1) = true := bne_iff_ne.mpr c2
    obtain rfl := Option.some.inj H
    go_enter Try.func72, Try.ntmps72
    go_wp2
    go_ret
    exact ⟨by first | rfl | (simp; done) | (simp [*]; done), by repeat (first | exact Drawn0.refl _ | apply Drawn0.step)⟩
mutual
def chalklineref02_Sum.l0 : Nat → Int → List Int → Int → Int → Option (Int)
  | 0, _, _, _, _ => none
  | k + 1, x3, x6, x7, x8 => if x8 < x7 then (if 0 ≤ x8 then (if x8 < (x6.length : Int) then (chalklineref02_Sum.l1 k (Go.bits .xor .u32 x3 ((rd x6 x8) % 4294967296)) x6 x7 x8 0) else (none)) else (none)) else (some (Go.bits .xor .u32 x3 4294967295))
def chalklineref02_Sum.l1 : Nat → Int → List Int → Int → Int → Int → Option (Int)
  | 0, _, _, _, _, _ => none
  | k + 1, x3, x6, x7, x8, x16 => if x16 < 8 then ((chalklineref02_step.f x3).bind fun t260 => (chalklineref02_Sum.l1 k t260 x6 x7 x8 (wrap64 (x16 + 1)))) else (chalklineref02_Sum.l0 k x3 x6 x7 (wrap64 (x8 + 1)))
end
def chalklineref02_Sum.f (k : Nat) (l0 : List Int) : Option (Int) := chalklineref02_Sum.l0 k 4294967295 l0 (l0.length : Int) 0
set_option maxHeartbeats 8000000 in
set_option maxRecDepth 100000 in
theorem chalklineref02_Sum.calls (k : Nat) (A0 : Option Addr) (c0 : Nat) (l0 : List Int) (r : Int) (w : World) (hr0 : Kd.C (Kd.int .u8) w A0 l0.length l0) (hc0 : l0.length ≤ c0) (h : chalklineref02_Sum.f k l0 = some r) :
    Calls Try.prog 61 #[.slice A0 l0.length c0] w fun e w' => e = .returned (.int .u32 r) ∧ Drawn0 w w' := by
  have HR0 := Aside0.mk hr0
  have HC0 := Aside0.mk hc0
  clear hr0 hc0
  have H : (chalklineref02_Sum.l0 k 4294967295 l0 (l0.length : Int) 0) = some r := h
  clear h
  have H' := Aside0.mk H
  clear H
  go_enter Try.func61, Try.ntmps61
  go_wp2
  go_loopg [3, 8] k (fun kq v3 v8 w' => ∃ (x3_1 : Int) (x8_1 : Int), v3 = .int .u32 x3_1 ∧ v8 = .int .i64 x8_1 ∧ Aside0 (chalklineref02_Sum.l0 kq x3_1 l0 (l0.length : Int) x8_1 = some r) ∧ Aside0 (kq ≤ k) ∧ Drawn0 w w')
  case atStart => exact ⟨(4294967295), (0), (by first | rfl | (simp; done) | (simp [*]; done)), (by first | rfl | (simp; done) | (simp [*]; done)), H', ⟨Nat.le_refl _⟩, by repeat (first | exact Drawn0.refl _ | apply Drawn0.step)⟩
  case round =>
    clear H'
    obtain ⟨x3_1, x8_1, rfl, rfl, HA, HK1, ⟨m1, rfl⟩⟩ := hrel
    cases gk with
    | zero => exact absurd HA.out (by simp [chalklineref02_Sum.l0])
    | succ k1 =>
      have H := HA.out
      clear HA
      simp only [chalklineref02_Sum.l0] at H
      by_cases c2 : x8_1 < (l0.length : Int)
      · rw [if_pos c2] at H
        have c2b0 : decide (x8_1 < (l0.length : Int)) = true := decide_eq_true c2
        clear c2
        by_cases c3 : 0 ≤ x8_1
        · rw [if_pos c3] at H
          have c3b0 : decide (0 ≤ x8_1) = true := decide_eq_true c3
          clear c3
          by_cases c4 : x8_1 < (l0.length : Int)
          · rw [if_pos c4] at H
            have c4b0 : decide (x8_1 < (l0.length : Int)) = true := decide_eq_true c4
            clear c4
            have H' := Aside0.mk H
            clear H
            have p259 : 0 ≤ (x8_1 : Int) := of_decide_eq_true (by first | (with_reducible assumption) | assumption)
            have q259 : x8_1 < (l0.length : Int) := of_decide_eq_true (by first | (with_reducible assumption) | assumption)
            obtain ⟨ad259, e259, hx259_0⟩ := Kd.at_int HR0.out x8_1 p259 q259
            cases e259
            replace p259 := eq_true p259
            replace q259 := eq_true q259
            go_wp2
            go_loopg [3, 16] k1 (fun kq v3 v16 w' => ∃ (x3_2 : Int) (x16_2 : Int), v3 = .int .u32 x3_2 ∧ v16 = .int .i64 x16_2 ∧ Aside0 (chalklineref02_Sum.l1 kq x3_2 l0 (l0.length : Int) x8_1 x16_2 = some r) ∧ Aside0 (kq ≤ k1) ∧ Drawn0 w w')
            case atStart => exact ⟨(Go.bits .xor .u32 x3_1 ((rd l0 x8_1) % 4294967296)), (0), (by first | rfl | (simp; done) | (simp [*]; done)), (by first | rfl | (simp; done) | (simp [*]; done)), H', ⟨Nat.le_refl _⟩, by repeat (first | exact Drawn0.refl _ | apply Drawn0.step)⟩
            case round =>
              clear H'
              try clear c2
              try clear c2b0
              try clear p2
              try clear q2
              try clear hx2
              try clear c3
              try clear c3b0
              try clear c4
              try clear c4b0
              try clear hx259_0
              try clear p259
              try clear q259
              obtain ⟨x3_2, x16_2, rfl, rfl, HA, HK2, ⟨m2, rfl⟩⟩ := hrel
              cases gk with
              | zero => exact absurd HA.out (by simp [chalklineref02_Sum.l1])
              | succ k2 =>
                have H := HA.out
                clear HA
                simp only [chalklineref02_Sum.l1] at H
                by_cases c5 : x16_2 < 8
                · rw [if_pos c5] at H
                  have c5b0 : decide (x16_2 < 8) = true := decide_eq_true c5
                  clear c5
                  replace H := Option.bind_eq_some_iff.mp H
                  obtain ⟨t260, A60, H⟩ := H
                  replace H : (chalklineref02_Sum.l1 k2 t260 l0 (l0.length : Int) x8_1 (wrap64 (x16_2 + 1))) = some r := H
                  have A6 := Aside0.mk A60
                  clear A60
                  have H' := Aside0.mk H
                  clear H
                  go_wp2_with (first | ((with_reducible refine gate_callee (f := 72) rfl ?_); refine goesL_ (some 19) rfl rfl Try.func72 (by kernel_rfl) rfl #[.int .u32 x3_2] rfl (by (try simp only [List.map_toArray, List.map_cons, List.map_nil]); first | done | rfl | (simp only [List.length_drop, List.length_take]; rfl)) ?_; (with_reducible refine (chalklineref02_step.calls x3_2 t260 _ A6.out).mono ?_); rintro e w' ⟨rfl, ⟨nd, rfl⟩⟩; refine ⟨_, rfl, ?_⟩))
                  go_roundg k2
                  case measure => have := HK1.out; have := HK2.out; omega
                  case rel => exact ⟨(t260), (wrap64 (x16_2 + 1)), (by first | rfl | (simp; done) | (simp [*]; done)), (by first | rfl | (simp; done) | (simp [*]; done)), H', ⟨by have := HK1.out; have := HK2.out; omega⟩, by repeat (first | exact Drawn0.refl _ | apply Drawn0.step)⟩
                · rw [if_neg c5] at H
                  have c5b0 : decide (x16_2 < 8) = false := decide_eq_false c5
                  clear c5
                  have H' := Aside0.mk H
                  clear H
                  go_wp2
                  go_roundg k2
                  case measure => have := HK1.out; have := HK2.out; omega
                  case rel => exact ⟨(x3_2), (wrap64 (x8_1 + 1)), (by first | rfl | (simp; done) | (simp [*]; done)), (by first | rfl | (simp; done) | (simp [*]; done)), H', ⟨by have := HK1.out; have := HK2.out; omega⟩, by repeat (first | exact Drawn0.refl _ | apply Drawn0.step)⟩
          · rw [if_neg c4] at H
            exact absurd H (by simp)
        · rw [if_neg c3] at H
          exact absurd H (by simp)
      · rw [if_neg c2] at H
        have c2b0 : decide (x8_1 < (l0.length : Int)) = false := decide_eq_false c2
        clear c2
        obtain rfl := Option.some.inj H
        go_wp2
        go_ret
        exact ⟨by first | rfl | (simp; done) | (simp [*]; done), by repeat (first | exact Drawn0.refl _ | apply Drawn0.step)⟩
def chalklineref02_number.f (l0 : List Int) : Option (Int) := if 0 < (l0.length : Int) then (if 1 < (l0.length : Int) then (if 2 < (l0.length : Int) then (if 3 < (l0.length : Int) then (some ((((((((((((((rd l0 0) % 4294967296) * 256) % 4294967296) + ((rd l0 1) % 4294967296)) % 4294967296) * 256) % 4294967296) + ((rd l0 2) % 4294967296)) % 4294967296) * 256) % 4294967296) + ((rd l0 3) % 4294967296)) % 4294967296)) else (none)) else (none)) else (none)) else (none)
set_option maxHeartbeats 8000000 in
set_option maxRecDepth 100000 in
theorem chalklineref02_number.calls (A0 : Option Addr) (c0 : Nat) (l0 : List Int) (r : Int) (w : World) (hr0 : Kd.C (Kd.int .u8) w A0 l0.length l0) (hc0 : l0.length ≤ c0) (h : chalklineref02_number.f l0 = some r) :
    Calls Try.prog 69 #[.slice A0 l0.length c0] w fun e w' => e = .returned (.int .u32 r) ∧ Drawn0 w w' := by
  have HR0 := Aside0.mk hr0
  have HC0 := Aside0.mk hc0
  clear hr0 hc0
  have H : (if 0 < (l0.length : Int) then (if 1 < (l0.length : Int) then (if 2 < (l0.length : Int) then (if 3 < (l0.length : Int) then (some ((((((((((((((rd l0 0) % 4294967296) * 256) % 4294967296) + ((rd l0 1) % 4294967296)) % 4294967296) * 256) % 4294967296) + ((rd l0 2) % 4294967296)) % 4294967296) * 256) % 4294967296) + ((rd l0 3) % 4294967296)) % 4294967296)) else (none)) else (none)) else (none)) else (none)) = some r := h
  clear h
  by_cases c2 : 0 < (l0.length : Int)
  · rw [if_pos c2] at H
    have c2b0 : decide (0 < (l0.length : Int)) = true := decide_eq_true c2
    have c2b1 : decide (0 < l0.length) = true := decide_eq_true (by omega)
    clear c2
    by_cases c3 : 1 < (l0.length : Int)
    · rw [if_pos c3] at H
      have c3b0 : decide (1 < (l0.length : Int)) = true := decide_eq_true c3
      have c3b1 : decide (1 < l0.length) = true := decide_eq_true (by omega)
      clear c3
      by_cases c4 : 2 < (l0.length : Int)
      · rw [if_pos c4] at H
        have c4b0 : decide (2 < (l0.length : Int)) = true := decide_eq_true c4
        have c4b1 : decide (2 < l0.length) = true := decide_eq_true (by omega)
        clear c4
        by_cases c5 : 3 < (l0.length : Int)
        · rw [if_pos c5] at H
          have c5b0 : decide (3 < (l0.length : Int)) = true := decide_eq_true c5
          have c5b1 : decide (3 < l0.length) = true := decide_eq_true (by omega)
          clear c5
          obtain rfl := Option.some.inj H
          have p261 : 0 ≤ (0 : Int) := (by omega)
          have q261 : 0 < (l0.length : Int) := of_decide_eq_true (by first | (with_reducible assumption) | assumption)
          obtain ⟨ad261, e261, hx261_0⟩ := Kd.at_int HR0.out 0 p261 q261
          cases e261
          have qi261 : (0 < l0.length) = True := eq_true (by omega)
          (try rw [show ((0 : Int)).toNat = 0 from rfl] at hx261_0)
          (try rw [Addr.add_zero'] at hx261_0)
          replace p261 := eq_true p261
          replace q261 := eq_true q261
          have p262 : 0 ≤ (1 : Int) := (by omega)
          have q262 : 1 < (l0.length : Int) := of_decide_eq_true (by first | (with_reducible assumption) | assumption)
          obtain ⟨ad262, e262, hx262_0⟩ := Kd.at_int HR0.out 1 p262 q262
          obtain rfl : ad261 = ad262 := (by injection e262)
          (try simp only [show (1 : Int).toNat = 1 from rfl, Nat.reduceMul, Nat.reduceEqDiff, Go.Addr.add, ↓reduceIte] at hx262_0)
          have qi262 : (1 < l0.length) = True := eq_true (by omega)
          (try rw [show ((1 : Int)).toNat = 1 from rfl] at hx262_0)
          replace p262 := eq_true p262
          replace q262 := eq_true q262
          have p263 : 0 ≤ (2 : Int) := (by omega)
          have q263 : 2 < (l0.length : Int) := of_decide_eq_true (by first | (with_reducible assumption) | assumption)
          obtain ⟨ad263, e263, hx263_0⟩ := Kd.at_int HR0.out 2 p263 q263
          obtain rfl : ad261 = ad263 := (by injection e263)
          (try simp only [show (2 : Int).toNat = 2 from rfl, Nat.reduceMul, Nat.reduceEqDiff, Go.Addr.add, ↓reduceIte] at hx263_0)
          have qi263 : (2 < l0.length) = True := eq_true (by omega)
          (try rw [show ((2 : Int)).toNat = 2 from rfl] at hx263_0)
          replace p263 := eq_true p263
          replace q263 := eq_true q263
          have p264 : 0 ≤ (3 : Int) := (by omega)
          have q264 : 3 < (l0.length : Int) := of_decide_eq_true (by first | (with_reducible assumption) | assumption)
          obtain ⟨ad264, e264, hx264_0⟩ := Kd.at_int HR0.out 3 p264 q264
          obtain rfl : ad261 = ad264 := (by injection e264)
          (try simp only [show (3 : Int).toNat = 3 from rfl, Nat.reduceMul, Nat.reduceEqDiff, Go.Addr.add, ↓reduceIte] at hx264_0)
          have qi264 : (3 < l0.length) = True := eq_true (by omega)
          (try rw [show ((3 : Int)).toNat = 3 from rfl] at hx264_0)
          replace p264 := eq_true p264
          replace q264 := eq_true q264
          go_enter Try.func69, Try.ntmps69
          go_wp2
          repeat (go_quiet (fail); try go_wp2)
          go_ret
          exact ⟨by first | rfl | (simp; done) | (simp [*]; done), by repeat (first | exact Drawn0.refl _ | apply Drawn0.step)⟩
        · rw [if_neg c5] at H
          exact absurd H (by simp)
      · rw [if_neg c4] at H
        exact absurd H (by simp)
    · rw [if_neg c3] at H
      exact absurd H (by simp)
  · rw [if_neg c2] at H
    exact absurd H (by simp)
end Go.Proofs.Ytfcdaifaocgjfaa.Pr
end
section
namespace Go.Proofs.Ytfcdaifaocgjfaa.Pr
open Go.RowKit Go.Proofs.YtfcdaifaocgjfaaW.PrintWords Go.Proofs.YtfcdaifaocgjfaaW.PrintLast Go.Proofs.YtfcdaifaocgjfaaW.PrintMore
attribute [local go_sem] max2_int min2_int max_two min_two max_three min_three max_four min_four   -- for this text's walks alone
set_option linter.unusedVariables false
set_option linter.unusedSimpArgs false
def chalklineref02_Copy.f (l0 : List Int) : Option (List Int) := if l0.length < 140737488355328 then some l0 else none
set_option maxHeartbeats 1000000 in
theorem chalklineref02_Copy.calls (A0 : Option Addr) (c0 : Nat) (l0 : List Int) (r : List Int) (w : World) (hr0 : Kd.C (Kd.int .u8) w A0 l0.length l0) (hc0 : l0.length ≤ c0) (h : chalklineref02_Copy.f l0 = some r) :
    Calls Try.prog 70 #[.slice A0 l0.length c0] w fun e w' => ∃ v0_ : Value, e = .returned (v0_) ∧ Kd.R (Kd.int .u8) 5 w' w.heap.size (fun _ => True) v0_ r ∧ Below w.heap.size w w' := by
  unfold chalklineref02_Copy.f at h
  split at h
  · rename_i hl
    obtain rfl := Option.some.inj h
    clear h
    have HL := Aside0.mk hl
    clear hl
    have HR := Aside0.mk hr0
    clear hr0 hc0
    go_enter Try.func70, Try.ntmps70
    go_wp2_with (at_builtin; refine print_append_row_of (w0 := w) (Value.int .u8) (0 : Int) w.heap.size rfl _ _ 22 5 (.int .u8 0) 1 rfl Try.underlying22 info5 rfl (by omega) (fun _ => rfl) (.slice none 0 0) [] l0 A0 l0.length c0 rfl rfl (own_nil _ _ _ _) (Kd.reads_of_C HR.out) (Below.refl _ _) (Nat.le_refl _) (by have := HL.out; simp; omega) ?_; intro v1 w1 hown hb hg hat)
    go_ret
    exact ⟨_, rfl, Kd.R_of_own (by simpa using hown) (fun _ _ => trivial), hb⟩
  · exact absurd h (by simp)
end Go.Proofs.Ytfcdaifaocgjfaa.Pr
end
section
namespace Go.Proofs.Ytfcdaifaocgjfaa.Pure
open Go.RowKit Go.Proofs.Ytfcdaifaocgjfaa.Pr Go.Proofs.YtfcdaifaocgjfaaW.PrintWords Go.Proofs.YtfcdaifaocgjfaaW.PrintLast
theorem wf_u8 {x : Int} (h : (Lit.int .u8 x).wf = true) : 0 ≤ x ∧ x < 256 := by
  have := bounds_u8 h
  omega
theorem wrap_one {i : Nat} (h : i < 9223372036854775807) : wrap64 ((i : Int) + 1) = ((i + 1 : Nat) : Int) := by unfold wrap64; omega
theorem refStep (n : Nat) (h : n < 4294967296) : chalklineref02_step.f (n : Int) = some ((Pl.step n : Nat) : Int) := by
  unfold chalklineref02_step.f Pl.step
  have e1 : Int.tmod (n : Int) 2 = ((n % 2 : Nat) : Int) := by rw [Int.tmod_eq_emod_of_nonneg (by omega)]; omega
  have e2 : Int.tdiv (n : Int) 2 % 4294967296 = ((n / 2 : Nat) : Int) := by rw [Int.tdiv_eq_ediv_of_nonneg (by omega)]; omega
  rw [e1, e2]
  rcases Nat.mod_two_eq_zero_or_one n with h2 | h2
  · rw [h2, if_neg (by omega), if_neg (by omega)]
  · rw [h2, if_pos (show ((1 : Nat) : Int) = 1 from rfl), if_pos rfl]
    rw [show (3988292384 : Int) = ((3988292384 : Nat) : Int) from rfl, Pr.u32_xor _ _ (by omega) (by omega)]
theorem refEight (l : List Int) (m i : Int) (j : Nat) : ∀ (d : Nat), j + d = 8 → ∀ (e n : Nat), n < 4294967296 →
    chalklineref02_Sum.l1 (e + d + 1) ((stepK j n : Nat) : Int) l m i (j : Int) = chalklineref02_Sum.l0 e ((stepK 8 n : Nat) : Int) l m (wrap64 (i + 1)) := by
  intro d
  induction d generalizing j with
  | zero =>
    intro hj e n hn
    obtain rfl : j = 8 := by omega
    simp only [chalklineref02_Sum.l1]
    rw [if_neg (by omega)]
  | succ d ih =>
    intro hj e n hn
    simp only [chalklineref02_Sum.l1]
    rw [if_pos (by omega), refStep _ (stepK_lt j n hn), Option.bind_some, wrap_one (by omega)]
    exact ih (j + 1) (by omega) e n hn
theorem refLoop (l : List Int) (hl : l.length < 9223372036854775807) (hb : ∀ x ∈ l, 0 ≤ x ∧ x < 256) : ∀ (d i : Nat), i + d = l.length → ∀ e,
    chalklineref02_Sum.l0 (10 * d + 1 + e) ((Pl.crc 4294967295 (l.take i) : Nat) : Int) l (l.length : Int) (i : Int) = some (Pl.sumI l) := by
  intro d
  induction d with
  | zero =>
    intro i hi e
    rw [show 10 * 0 + 1 + e = e + 1 by omega]
    simp only [chalklineref02_Sum.l0]
    rw [if_neg (by omega), List.take_of_length_le (by omega)]
    rw [show (4294967295 : Int) = ((4294967295 : Nat) : Int) from rfl, Pr.u32_xor _ _ (Pl.crc_lt _ _ (by omega)) (by omega)]
    rfl
  | succ d ih =>
    intro i hi e
    have hlt : i < l.length := by omega
    have hx := hb l[i] (List.getElem_mem hlt)
    rw [show 10 * (d + 1) + 1 + e = (10 * d + 1 + e + 8 + 1) + 1 by omega]
    simp only [chalklineref02_Sum.l0]
    have hrd : rd l (i : Int) = l[i] := by simp [rd, List.getD_eq_getElem?_getD, List.getElem?_eq_getElem hlt]
    have hc := Pl.crc_lt (l.take i) 4294967295 (by omega)
    rw [if_pos (by omega), if_pos (by omega), if_pos (by omega), hrd]
    rw [show l[i] % 4294967296 = (((l[i] % 256).toNat : Nat) : Int) by omega, Pr.u32_xor _ _ hc (by omega)]
    have h0 := refEight l (l.length : Int) (i : Int) 0 8 rfl (10 * d + 1 + e) (Pl.crc 4294967295 (l.take i) ^^^ (l[i] % 256).toNat) (Pl.xor_lt _ _ hc (by omega))
    rw [show (stepK 0 (Pl.crc 4294967295 (l.take i) ^^^ (l[i] % 256).toNat)) = (Pl.crc 4294967295 (l.take i) ^^^ (l[i] % 256).toNat) from rfl] at h0
    rw [show ((0 : Nat) : Int) = 0 from rfl] at h0
    rw [h0, stepK_8, wrap_one (by omega)]
    have := ih (i + 1) (by omega) e
    rw [List.take_succ_eq_append_getElem hlt, Pl.crc_append, Pl.crc_cons, Pl.crc_nil] at this
    exact this
theorem refSum (l : List Int) (hl : l.length < 9223372036854775807) (hb : ∀ x ∈ l, 0 ≤ x ∧ x < 256) (e : Nat) : chalklineref02_Sum.f (10 * l.length + 1 + e) l = some (Pl.sumI l) := by
  have := refLoop l hl hb l.length 0 (by omega) e
  rw [List.take_zero, Pl.crc_nil] at this
  exact this
theorem refSum_of (l : List Int) (hl : l.length < 9223372036854775807) (hb : ∀ x ∈ l, 0 ≤ x ∧ x < 256) (k : Nat) (hk : 10 * l.length + 1 ≤ k) : chalklineref02_Sum.f k l = some (Pl.sumI l) := by
  have := refSum l hl hb (k - (10 * l.length + 1))
  rwa [show 10 * l.length + 1 + (k - (10 * l.length + 1)) = k by omega] at this
end Go.Proofs.Ytfcdaifaocgjfaa.Pure
end
section
namespace Go.Proofs.Ytfcdaifaocgjfaa.Pure
open Go.RowKit Go.Proofs.Ytfcdaifaocgjfaa.Pr Go.Proofs.YtfcdaifaocgjfaaW.PrintWords Go.Proofs.YtfcdaifaocgjfaaW.PrintLast
theorem numberOf (l : List Int) (hb : Pl.bytes l) (h : 4 ≤ l.length) : chalklineref02_number.f (l.take 4) = some ((Pl.get4 l : Nat) : Int) := by
  obtain ⟨a, b, c, d, t, rfl⟩ := Pl.four_of_length l h
  have ha := hb a (by simp)
  have hb' := hb b (by simp)
  have hc := hb c (by simp)
  have hd := hb d (by simp)
  rw [Pl.get4_cons a b c d t ha hb' hc hd]
  unfold chalklineref02_number.f
  simp [rd]
  omega
end Go.Proofs.Ytfcdaifaocgjfaa.Pure
end
