/- A part of the proof of JournalNext; no condition. -/
import Derived.Test.YtfcdaifaocgjfaaGa0
import Derived.Test.YtfcdaifaocgjfaaGa9
namespace Go.Proofs.Ytfcdaifaocgjfaa.Pr
open Go.RowKit Go.Proofs.YtfcdaifaocgjfaaW.PrintWords Go.Proofs.YtfcdaifaocgjfaaW.PrintLast Go.Proofs.YtfcdaifaocgjfaaW.PrintMore
attribute [local go_sem] max2_int min2_int max_two min_two max_three min_three max_four min_four   -- for this text's walks alone
set_option linter.unusedVariables false
set_option linter.unusedSimpArgs false
def chalklineref02_Open.f (l0 : List Int) (a1 : Int) : Option (List Int × Int × Int) := if l0.all (fun x => decide (0 ≤ x) && decide (x < 256)) = true then some (Pl.openI l0 a1) else none
theorem quiet_of_drawn {P : Program} {f : FuncId} {args : Array Value} {w : World} {n : Nat} {v : Value}
    (h : Calls P f args (w.drewN n) fun e w' => e = .returned v ∧ Drawn0 (w.drewN n) w') : Calls P f args (w.drewN n) fun e w'' => e = .returned v ∧ ∃ m, w'' = w.drewN m :=
  h.mono fun _ _ ⟨he, hm⟩ => by
    obtain ⟨⟨m, rfl⟩⟩ := hm
    exact ⟨he, n + m, World.drewN_drewN ..⟩
set_option maxHeartbeats 4000000 in
set_option maxRecDepth 100000 in
theorem chalklineref02_Open.calls (A0 : Option Addr) (c0 : Nat) (l0 : List Int) (a1 : Int) (r1 : List Int) (r2 : Int) (r3 : Int) (w : World) (hr0 : Kd.C (Kd.int .u8) w A0 l0.length l0) (hc0 : l0.length ≤ c0) (h : chalklineref02_Open.f l0 a1 = some (r1, r2, r3)) :
    Calls Try.prog 55 #[.slice A0 l0.length c0, .int .i64 a1] w fun e w' => ∃ v0_ : Value, e = .returned (.tuple #[v0_, .int .i64 r2, .int .i64 r3]) ∧ Kd.R (Kd.int .u8) 5 w' w.heap.size (fun _ => True) v0_ r1 ∧ Below w.heap.size w w' := by
  unfold chalklineref02_Open.f at h
  split at h
  case isFalse => exact absurd h (by simp)
  rename_i hby
  have HB := Aside0.mk (show Pl.bytes l0 from fun x hx => by have := List.all_eq_true.1 hby x hx; simpa using this)
  clear hby
  have h := Option.some.inj h
  unfold Pl.openI at h
  have hm : l0.length ≤ 9223372036854775807 := hr0.2.1
  by_cases h0 : a1 < 0
  · rw [if_pos h0] at h
    simp only [Prod.mk.injEq] at h
    obtain ⟨rfl, rfl, rfl⟩ := h
    have hd : decide (a1 < 0) = true := decide_eq_true h0
    clear hr0 hc0
    go_enter Try.func55, Try.ntmps55
    go_wp2
    go_ret3
    exact ⟨_, rfl, Kd.R_nil _ _ _ _ _, Below.refl _ _⟩
  rw [if_neg h0] at h
  have hd0 : decide (a1 < 0) = false := decide_eq_false h0
  by_cases h1 : (l0.length : Int) < a1
  · rw [if_pos h1] at h
    simp only [Prod.mk.injEq] at h
    obtain ⟨rfl, rfl, rfl⟩ := h
    have hd : decide ((l0.length : Int) < a1) = true := decide_eq_true h1
    clear hr0 hc0
    go_enter Try.func55, Try.ntmps55
    go_wp2
    go_ret3
    exact ⟨_, rfl, Kd.R_nil _ _ _ _ _, Below.refl _ _⟩
  rw [if_neg h1] at h
  have hd1 : decide ((l0.length : Int) < a1) = false := decide_eq_false h1
  obtain ⟨i0, hi, hz0, hz1, hz2⟩ := info_parts info5
  obtain ⟨at_, rfl⟩ := Int.eq_ofNat_of_zero_le (show 0 ≤ a1 by omega)
  rw [Int.toNat_natCast] at h
  have hle : at_ ≤ l0.length := by omega
  have hlr : (l0.drop at_).length = l0.length - at_ := List.length_drop
  rw [hlr] at h
  clear h0 h1
  by_cases h8 : l0.length - at_ < 8
  · rw [if_pos h8] at h
    simp only [Prod.mk.injEq] at h
    obtain ⟨rfl, rfl, rfl⟩ := h
    have hd8 : decide ((l0.length : Int) - (at_ : Int) < 8) = true := decide_eq_true (by omega)
    clear hi hz0 hz1 hz2 hr0 hc0
    go_enter Try.func55, Try.ntmps55
    go_wp2
    go_ret3
    exact ⟨_, rfl, Kd.R_nil _ _ _ _ _, Below.refl _ _⟩
  rw [if_neg h8] at h
  have hd8 : decide ((l0.length : Int) - (at_ : Int) < 8) = false := decide_eq_false (by omega)
  have h8' : at_ + 8 ≤ l0.length := by omega
  have hRd := Kd.reads_of_C (d := (0 : Int)) hr0
  obtain ⟨A1, hcut1, hA1, hC1⟩ := print_mid_int (P := Try.prog) (k := .u8) 22 5 Try.underlying22 hi hz1 A0 c0 l0 (at_ : Int) ((at_ : Int) + 4) (by omega) (by omega) (by omega) hc0
  obtain ⟨A2, hcut2, hA2, hC2⟩ := print_mid_int (P := Try.prog) (k := .u8) 22 5 Try.underlying22 hi hz1 A0 c0 l0 ((at_ : Int) + 4) ((at_ : Int) + 8) (by omega) (by omega) (by omega) hc0
  have e1 : (l0.take ((at_ : Int) + 4).toNat).drop (at_ : Int).toNat = (l0.drop at_).take 4 := by
    rw [show ((at_ : Int) + 4).toNat = at_ + 4 by omega, Int.toNat_natCast, List.drop_take, Nat.add_sub_cancel_left]
  have e2 : (l0.take ((at_ : Int) + 8).toNat).drop ((at_ : Int) + 4).toNat = ((l0.drop at_).drop 4).take 4 := by
    rw [show ((at_ : Int) + 8).toNat = at_ + 8 by omega, show ((at_ : Int) + 4).toNat = at_ + 4 by omega, List.drop_take, List.drop_drop, show at_ + 8 - (at_ + 4) = 4 by omega]
  have hR1 := hA1 w hRd
  have hR2 := hA2 w hRd
  rw [e1] at hcut1 hR1 hC1
  rw [e2] at hcut2 hR2 hC2
  clear e1 e2 hA1 hA2
  have n1 := Pure.numberOf (l0.drop at_) (Pl.bytes_drop HB.out _) (by rw [hlr]; omega)
  have n2 := Pure.numberOf ((l0.drop at_).drop 4) (Pl.bytes_drop (Pl.bytes_drop HB.out _) _) (by rw [List.length_drop, hlr]; omega)
  have N1 := Aside0.mk (fun m => quiet_of_drawn (chalklineref02_number.calls A1 _ _ _ (w.drewN m) (Kd.C_of_reads (hR1.drewN m)) hC1 n1))
  have HR2 := Aside0.mk hR2
  have HC2 := Aside0.mk hC2
  have N2 := Aside0.mk n2
  clear n1 n2 hR1 hR2 hC1 hC2
  have hl1 : ((l0.drop at_).take 4).length = 4 := by rw [List.length_take, hlr]; omega
  have hl2 : (((l0.drop at_).drop 4).take 4).length = 4 := by rw [List.length_take, List.length_drop, hlr]; omega
  rw [hl1] at hcut1 N1
  rw [hl2] at hcut2
  have HL2 := Aside0.mk hl2
  clear hl1 hl2
  have hg1 : Pl.get4 (l0.drop at_) < 4294967296 := Pl.get4_lt _
  have hg2 : Pl.get4 ((l0.drop at_).drop 4) < 4294967296 := Pl.get4_lt _
  have HRD := Aside0.mk hRd
  have HC0 := Aside0.mk hc0
  clear hRd hr0 hc0
  generalize hn : Pl.get4 (l0.drop at_) = n at h hg1 N1
  generalize hs : Pl.get4 ((l0.drop at_).drop 4) = s at h hg2 N2
  have HN := Aside0.mk (And.intro hn hs)
  clear hn hs
  have HLR := Aside0.mk hlr
  clear hlr
  by_cases h9 : 65536 < n
  · rw [if_pos h9] at h
    simp only [Prod.mk.injEq] at h
    obtain ⟨rfl, rfl, rfl⟩ := h
    have hd9 : decide ((65536 : Int) < (n : Int)) = true := decide_eq_true (by omega)
    clear hi hz0 hz1 hz2 hcut2
    go_enter Try.func55, Try.ntmps55
    go_wp2_with fail
    refine (N1.out 0).mono ?_
    rintro e w1 ⟨rfl, m, rfl⟩
    go_wp2
    go_ret3
    exact ⟨_, rfl, Kd.R_nil _ _ _ _ _, pw_below_drewN (Below.refl _ _) _⟩
  rw [if_neg h9] at h
  have hd9 : decide ((65536 : Int) < (n : Int)) = false := decide_eq_false (by omega)
  by_cases h10 : l0.length - at_ - 8 < n
  · rw [if_pos h10] at h
    simp only [Prod.mk.injEq] at h
    obtain ⟨rfl, rfl, rfl⟩ := h
    have hd10 : decide ((l0.length : Int) - (at_ : Int) - 8 < (n : Int)) = true := decide_eq_true (by omega)
    clear hi hz0 hz1 hz2 hcut2
    go_enter Try.func55, Try.ntmps55
    go_wp2_with fail
    refine (N1.out 0).mono ?_
    rintro e w1 ⟨rfl, m, rfl⟩
    go_wp2
    go_ret3
    exact ⟨_, rfl, Kd.R_nil _ _ _ _ _, pw_below_drewN (Below.refl _ _) _⟩
  rw [if_neg h10] at h
  have hd10 : decide ((l0.length : Int) - (at_ : Int) - 8 < (n : Int)) = false := decide_eq_false (by omega)
  have hbnd : at_ + 8 + n ≤ l0.length := by omega
  obtain ⟨A3, hcut3, hA3, hC3⟩ := print_mid_int (P := Try.prog) (k := .u8) 22 5 Try.underlying22 hi hz1 A0 c0 l0 ((at_ : Int) + 8) ((at_ : Int) + 8 + (n : Int)) (by omega) (by omega) (by omega) HC0.out
  have e3 : (l0.take ((at_ : Int) + 8 + (n : Int)).toNat).drop ((at_ : Int) + 8).toNat = ((l0.drop at_).drop 8).take n := by
    rw [show ((at_ : Int) + 8 + (n : Int)).toNat = at_ + 8 + n by omega, show ((at_ : Int) + 8).toNat = at_ + 8 by omega, List.drop_take, List.drop_drop, show at_ + 8 + n - (at_ + 8) = n by omega]
  have hR3 := hA3 w HRD.out
  rw [e3] at hcut3 hC3 hR3
  have hlb : (((l0.drop at_).drop 8).take n).length = n := by rw [List.length_take, List.length_drop, HLR.out]; omega
  have hbb : Pl.bytes (((l0.drop at_).drop 8).take n) := Pl.bytes_take (Pl.bytes_drop (Pl.bytes_drop HB.out _) _) _
  clear e3 hA3 hi hz0 hz1 hz2
  generalize hbody : ((l0.drop at_).drop 8).take n = body at h hcut3 hC3 hR3 hlb hbb
  have hsum := Pure.refSum_of body (by omega) hbb (10 * body.length + 1) (Nat.le_refl _)
  have HR3 := Aside0.mk hR3
  have HC3 := Aside0.mk hC3
  have S3 := Aside0.mk (fun m k => quiet_of_drawn (chalklineref02_Sum.calls _ A3 _ body _ ((w.drewN m).drewN k) (Kd.C_of_reads ((HR3.out.drewN m).drewN k)) HC3.out hsum))
  have N3 := Aside0.mk (fun m k => quiet_of_drawn (chalklineref02_number.calls A2 _ _ _ ((w.drewN m).drewN k) (Kd.C_of_reads ((HR2.out.drewN m).drewN k)) HC2.out N2.out))
  rw [HL2.out] at N3
  have HBo := Aside0.mk hbody
  have HLB := Aside0.mk hlb
  clear hbody hR3 hC3 hlb hbb hsum N2 HR2 HC2
  go_enter Try.func55, Try.ntmps55
  go_wp2_with fail
  refine (N1.out 0).mono ?_
  rintro e w1 ⟨rfl, m, rfl⟩
  clear N1
  have S4 := Aside0.mk (S3.out m)
  have N4 := Aside0.mk (N3.out m)
  have B4 := Aside0.mk (show Below w.heap.size w (w.drewN m) from pw_below_drewN (Below.refl _ _) _)
  have HR4 := Aside0.mk (HR3.out.drewN m)
  clear S3 N3 HR3
  generalize w.drewN m = W1 at *
  go_wp2_with fail
  go_quiet ((first | (go_at_call 61; exact S4.out _) | (go_at_call 69; exact N4.out _)))
  clear S4 N4
  by_cases h11 : Pl.sumI body = (s : Int)
  · rw [if_pos h11] at h
    simp only [Prod.mk.injEq] at h
    obtain ⟨rfl, rfl, rfl⟩ := h
    have hd11 : (Pl.sumI body != (s : Int)) = false := by rw [bne_eq_false_iff_eq]; exact h11
    have H11 := Aside0.mk h11
    clear h11
    go_wp2_with fail
    refine (chalklineref02_Copy.calls A3 _ body body (W1.drewN nq) (Kd.C_of_reads (HR4.out.drewN nq)) HC3.out (by unfold chalklineref02_Copy.f; rw [if_pos (by have := HLB.out; omega)])).mono ?_
    rintro e w2 ⟨v2, rfl, ho2, hb2⟩
    have H2 := Aside0.mk (Kd.R_lower ho2 (base' := w.heap.size) (by have := B4.out.size; simpa using this))
    have B2 := Aside0.mk (show Below w.heap.size w w2 from below_step (pw_below_drewN B4.out _) hb2)
    clear ho2 hb2
    go_wp2
    go_ret3
    exact ⟨_, rfl, H2.out, B2.out⟩
  · rw [if_neg h11] at h
    simp only [Prod.mk.injEq] at h
    obtain ⟨rfl, rfl, rfl⟩ := h
    have hd11 : (Pl.sumI body != (s : Int)) = true := by rw [bne_iff_ne]; exact h11
    go_wp2
    go_ret3
    exact ⟨_, rfl, Kd.R_nil _ _ _ _ _, pw_below_drewN B4.out _⟩
end Go.Proofs.Ytfcdaifaocgjfaa.Pr
