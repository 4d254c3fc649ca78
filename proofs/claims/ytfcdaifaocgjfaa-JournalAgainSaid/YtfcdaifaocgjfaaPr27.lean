/- A part of the proof of JournalAgain; no condition. -/
import Derived.Test.YtfcdaifaocgjfaaPr0
import Derived.Test.YtfcdaifaocgjfaaPr16
import Derived.Test.YtfcdaifaocgjfaaPr18
import Derived.Test.YtfcdaifaocgjfaaPr26
import Derived.Test.YtfcdaifaocgjfaaPla
namespace Go.Proofs.Ytfcdaifaocgjfaa.Pr
open Go.RowKit Go.Proofs.YtfcdaifaocgjfaaW.PrintWords Go.Proofs.YtfcdaifaocgjfaaW.PrintLast Go.Proofs.YtfcdaifaocgjfaaW.PrintMore
attribute [local go_sem] max2_int min2_int max_two min_two max_three min_three max_four min_four   -- for this text's walks alone
set_option linter.unusedVariables false
set_option linter.unusedSimpArgs false
def seal_Open.f (l0 : List Int) (a1 : Int) : Option (List Int × Int × Int) := some (Pl.openI l0 a1)
set_option maxHeartbeats 4000000 in
set_option maxRecDepth 100000 in
theorem seal_Open.calls (A0 : Option Addr) (c0 : Nat) (l0 : List Int) (a1 : Int) (r1 : List Int) (r2 : Int) (r3 : Int) (w : World) (hr0 : Kd.C (Kd.int .u8) w A0 l0.length l0) (hc0 : l0.length ≤ c0) (h : seal_Open.f l0 a1 = some (r1, r2, r3)) :
    Calls Try.prog 19 #[.slice A0 l0.length c0, .int .i64 a1] w fun e w' => ∃ v0_ : Value, e = .returned (.tuple #[v0_, .int .i64 r2, .int .i64 r3]) ∧ Kd.R (Kd.int .u8) 5 w' w.heap.size (fun _ => True) v0_ r1 ∧ Below w.heap.size w w' := by
  have h := Option.some.inj h
  unfold Pl.openI at h
  by_cases h0 : a1 < 0
  · rw [if_pos h0] at h
    simp only [Prod.mk.injEq] at h
    obtain ⟨rfl, rfl, rfl⟩ := h
    have hd : decide (a1 < 0) = true := decide_eq_true h0
    clear hr0 hc0
    go_enter Try.func19, Try.ntmps19
    go_wp2
    go_ret3
    exact ⟨_, rfl, Kd.R_nil _ _ _ _ _, Below.refl _ _⟩
  rw [if_neg h0] at h
  have hd0 : decide (a1 < 0) = false := decide_eq_false h0
  by_cases h1 : (l0.length : Int) < a1
  · rw [if_pos h1] at h
    simp only [Prod.mk.injEq] at h
    obtain ⟨rfl, rfl, rfl⟩ := h
    have hd : decide ((l0.length : Int) < a1) = true := decide_eq_true h1
    clear hr0 hc0
    go_enter Try.func19, Try.ntmps19
    go_wp2
    go_ret3
    exact ⟨_, rfl, Kd.R_nil _ _ _ _ _, Below.refl _ _⟩
  rw [if_neg h1] at h
  have hd1 : decide ((l0.length : Int) < a1) = false := decide_eq_false h1
  obtain ⟨i0, hi, hz0, hz1, hz2⟩ := info_parts info5
  obtain ⟨A1, hcut1, hA1, hC1⟩ := print_cut_int (P := Try.prog) (k := .u8) 22 5 Try.underlying22 hi hz1 A0 c0 l0 a1 (by omega) (by omega) hc0
  have HR0 := Aside0.mk (hA1 w (Kd.reads_of_C hr0))
  have HLen := Aside0.mk (show a1 ≤ l0.length by omega)
  have HM0 := Aside0.mk (show l0.length ≤ 9223372036854775807 from hr0.2.1)
  clear hA1 h1 hr0
  generalize hrest : l0.drop a1.toNat = rest at h hcut1 hC1 HR0
  generalize hcc : c0 - a1.toNat = c1 at hcut1 hC1
  have HC1 := Aside0.mk hC1
  have HC0 := Aside0.mk hc0
  have HRE := Aside0.mk hrest
  clear hC1 hc0 hcc hrest
  have h0' : (0 : Int) ≤ a1 := by omega
  clear h0
  by_cases h8 : rest.length < 8
  · rw [if_pos h8] at h
    simp only [Prod.mk.injEq] at h
    obtain ⟨rfl, rfl, rfl⟩ := h
    have hd8 : decide ((rest.length : Int) < 8) = true := decide_eq_true (by omega)
    have hd8' : decide (rest.length < 8) = true := decide_eq_true (by omega)
    clear hi hz0 hz1 hz2
    go_enter Try.func19, Try.ntmps19
    go_wp2
    go_ret3
    exact ⟨_, rfl, Kd.R_nil _ _ _ _ _, Below.refl _ _⟩
  rw [if_neg h8] at h
  have hl8 : (8 : Int) ≤ (rest.length : Int) := by omega
  have hd8 : decide ((rest.length : Int) < 8) = false := decide_eq_false (by omega)
  have hd8' : decide (rest.length < 8) = false := decide_eq_false (by omega)
  have HM := Aside0.mk (show rest.length ≤ 9223372036854775807 from HR0.out.2.1)
  obtain ⟨A2, hcut2, hA2, hC2⟩ := print_cut_int (P := Try.prog) (k := .u8) 22 5 Try.underlying22 hi hz1 A1 c1 rest 4 (by omega) (by omega) HC1.out
  have HR2 := Aside0.mk (hA2 w HR0.out)
  have HC2 := Aside0.mk hC2
  clear hA2 hC2
  rw [show ((4 : Int)).toNat = 4 from rfl] at hcut2 HR2 HC2
  have g1 := fun W (hW : Kd.C (Kd.int .u8) W A1 rest.length rest) => seal_get.same A1 c1 rest (Pl.get4 rest : Nat) W hW HC1.out (by unfold seal_get.f; rw [if_pos (by omega)])
  have g2 := fun W (hW : Kd.C (Kd.int .u8) W A2 (rest.drop 4).length (rest.drop 4)) => seal_get.same A2 (c1 - 4) (rest.drop 4) (Pl.get4 (rest.drop 4) : Nat) W hW HC2.out (by unfold seal_get.f; rw [if_pos (by rw [List.length_drop]; omega)])
  have KC1 : ∀ n, Kd.C (Kd.int .u8) (w.drewN n) A1 rest.length rest := fun n => Kd.C_of_reads HR0.out
  have KC2 : ∀ n, Kd.C (Kd.int .u8) (w.drewN n) A2 (rest.drop 4).length (rest.drop 4) := fun n => Kd.C_of_reads HR2.out
  have G1 := Aside0.mk (fun n => g1 (w.drewN n) (KC1 n))
  have G2 := Aside0.mk (fun n => g2 (w.drewN n) (KC2 n))
  clear g1 g2 KC1 KC2
  have hg1 : Pl.get4 rest < 4294967296 := Pl.get4_lt _
  have hg2 : Pl.get4 (rest.drop 4) < 4294967296 := Pl.get4_lt _
  generalize hn : Pl.get4 rest = n at h hg1 G1
  generalize hs : Pl.get4 (rest.drop 4) = s at h hg2 G2
  have HE := Aside0.mk (And.intro hn hs)
  clear hn hs
  generalize hrest4 : rest.drop 4 = rest4 at hcut2 G2
  have HR4 := Aside0.mk hrest4
  clear hrest4
  go_enter Try.func19, Try.ntmps19
  go_wp2
  go_quiet ((go_at_call 32; first | (with_reducible exact Calls.quiet_of_same (G1.out _)) | (with_reducible exact Calls.quiet_of_same (G2.out _))))
  by_cases h9 : 65536 < n
  · rw [if_pos h9] at h
    simp only [Prod.mk.injEq] at h
    obtain ⟨rfl, rfl, rfl⟩ := h
    have hd9 : decide ((65536 : Int) < (n : Int)) = true := decide_eq_true (by omega)
    clear hi hz0 hz1 hz2 G1 G2
    go_wp2
    go_ret3
    exact ⟨_, rfl, Kd.R_nil _ _ _ _ _, pw_below_drewN (Below.refl _ _) _⟩
  rw [if_neg h9] at h
  have hd9 : decide ((65536 : Int) < (n : Int)) = false := decide_eq_false (by omega)
  by_cases h10 : rest.length - 8 < n
  · rw [if_pos h10] at h
    simp only [Prod.mk.injEq] at h
    obtain ⟨rfl, rfl, rfl⟩ := h
    have hd10 : decide ((rest.length : Int) - 8 < (n : Int)) = true := decide_eq_true (by omega)
    have hm := HM.out
    clear hi hz0 hz1 hz2 G1 G2
    go_wp2
    go_ret3
    exact ⟨_, rfl, Kd.R_nil _ _ _ _ _, pw_below_drewN (Below.refl _ _) _⟩
  rw [if_neg h10] at h
  have hd10 : decide ((rest.length : Int) - 8 < (n : Int)) = false := decide_eq_false (by omega)
  have hm := HM.out
  obtain ⟨A3, hcut3, hA3, hC3⟩ := print_mid_int (P := Try.prog) (k := .u8) 22 5 Try.underlying22 hi hz1 A1 c1 rest 8 (8 + n) (by omega) (by omega) (by omega) HC1.out
  have hmid : (rest.take (8 + (n : Int)).toNat).drop (8 : Int).toNat = (rest.drop 8).take n := by
    rw [show (8 + (n : Int)).toNat = 8 + n by omega, show (8 : Int).toNat = 8 from rfl, List.drop_take, Nat.add_sub_cancel_left]
  have hR3 := hA3 w HR0.out
  rw [hmid] at hcut3 hC3 hR3
  have hlb : ((rest.drop 8).take n).length = n := by rw [List.length_take, List.length_drop]; omega
  clear hmid hA3 hi hz0 hz1 hz2 G1 G2
  rw [show (8 : Int).toNat = 8 from rfl] at hcut3 hC3
  generalize hbody : (rest.drop 8).take n = body at h hcut3 hC3 hR3 hlb
  have HR3 := Aside0.mk hR3
  have HC3 := Aside0.mk hC3
  have HBo := Aside0.mk hbody
  have HLB := Aside0.mk hlb
  clear hbody hR3 hC3 hlb
  go_wp2_with fail
  refine (slices_Clone_byte_byte.calls A3 (c1 - 8) body body (w.drewN nq) (Kd.C_of_reads (HR3.out.drewN nq)) HC3.out (by unfold slices_Clone_byte_byte.f; rw [if_pos (by have := HLB.out; omega)])).mono ?_
  rintro e w2 ⟨v2, rfl, ho2, hb2⟩
  obtain ⟨AB, cB, rfl, hcB, hCB⟩ := Kd.R_reads ho2
  have H2 := Aside0.mk (show Kd.R (Kd.int .u8) 5 w2 w.heap.size (fun _ => True) (.slice AB body.length cB) body from ho2)
  have B2 := Aside0.mk (show Below w.heap.size w w2 from below_step (pw_below_drewN (Below.refl _ _) _) hb2)
  have HCB := Aside0.mk hcB
  have HKB := Aside0.mk hCB
  clear ho2 hb2 hcB hCB
  go_wp2_with fail
  refine (seal_Sum.calls AB cB body (Pl.sumI body) _ HKB.out HCB.out rfl).mono ?_
  rintro e w3 ⟨rfl, hb3⟩
  have H3 := Aside0.mk (Kd.R_below H2.out hb3)
  have B3 := Aside0.mk (below_step B2.out hb3)
  clear hb3 H2 B2
  by_cases h11 : Pl.sumI body = (s : Int)
  · rw [if_pos h11] at h
    simp only [Prod.mk.injEq] at h
    obtain ⟨rfl, rfl, rfl⟩ := h
    have hd11 : (Pl.sumI body != (s : Int)) = false := by rw [bne_eq_false_iff_eq]; exact h11
    have H11 := Aside0.mk h11
    clear h11
    have hbnd : a1 + 8 + (n : Int) ≤ 9223372036854775807 := by
      have h1 := HRE.out
      have h2 := HLen.out
      have h3 := HM0.out
      have h4 : rest.length = l0.length - a1.toNat := by rw [← h1, List.length_drop]
      omega
    go_wp2
    go_ret3
    exact ⟨_, rfl, H3.out, B3.out⟩
  · rw [if_neg h11] at h
    simp only [Prod.mk.injEq] at h
    obtain ⟨rfl, rfl, rfl⟩ := h
    have hd11 : (Pl.sumI body != (s : Int)) = true := by rw [bne_iff_ne]; exact h11
    go_wp2
    go_ret3
    exact ⟨_, rfl, Kd.R_nil _ _ _ _ _, B3.out⟩
end Go.Proofs.Ytfcdaifaocgjfaa.Pr
