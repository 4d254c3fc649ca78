/- Parts of the proof of JournalWrites; no condition. -/
import Derived.Test.YtfcdaifaocgjfaaGa9
import Derived.Test.YtfcdaifaocgjfaaGa0
import Derived.OpenShut
import Derived.Test.YtfcdaifaocgjfaaPla
section
namespace Go.Proofs.Ytfcdaifaocgjfaa.Pure
open Go.RowKit Go.Proofs.Ytfcdaifaocgjfaa.Pr Go.Proofs.YtfcdaifaocgjfaaW.PrintWords Go.Proofs.YtfcdaifaocgjfaaW.PrintLast
theorem wf_u8s {x : Int} (h : (Lit.int .u8 x).wf = true) : 0 ≤ x ∧ x < 256 := by
  have := bounds_u8 h
  omega
theorem wrap_one {i : Nat} (h : i < 9223372036854775807) : wrap64 ((i : Int) + 1) = ((i + 1 : Nat) : Int) := by unfold wrap64; omega
theorem refStep (n : Nat) (h : n < 4294967296) : chalklineref02_step.f (n : Int) = some ((Pl.step n : Nat) : Int) := by
  unfold chalklineref02_step.f Pl.step
  have e1 : Int.tmod (n : Int) 2 = ((n % 2 : Nat) : Int) := by rw [Int.tmod_eq_emod_of_nonneg (by omega)]; omega
  have e2 : Int.tdiv (n : Int) 2 % 4294967296 = ((n / 2 : Nat) : Int) := by rw [Int.tdiv_eq_ediv_of_nonneg (by omega)]; omega
  rw [e1, e2]
  rcases Nat.mod_two_eq_zero_or_one n with h2 | h2
  · rw [h2, if_neg (by omega), if_neg (by omega)]
  · rw [h2, if_pos (show ((1 : Nat) : Int) = 1 from rfl), if_pos rfl]
    rw [show (3988292384 : Int) = ((3988292384 : Nat) : Int) from rfl, Pr.u32_xor _ _ (by omega) (by omega)]
theorem refEight (l : List Int) (m i : Int) (j : Nat) : ∀ (d : Nat), j + d = 8 → ∀ (e n : Nat), n < 4294967296 →
    chalklineref02_Sum.l1 (e + d + 1) ((stepK j n : Nat) : Int) l m i (j : Int) = chalklineref02_Sum.l0 e ((stepK 8 n : Nat) : Int) l m (wrap64 (i + 1)) := by
  intro d
  induction d generalizing j with
  | zero =>
    intro hj e n hn
    obtain rfl : j = 8 := by omega
    simp only [chalklineref02_Sum.l1]
    rw [if_neg (by omega)]
  | succ d ih =>
    intro hj e n hn
    simp only [chalklineref02_Sum.l1]
    rw [if_pos (by omega), refStep _ (stepK_lt j n hn), Option.bind_some, wrap_one (by omega)]
    exact ih (j + 1) (by omega) e n hn
theorem refLoop (l : List Int) (hl : l.length < 9223372036854775807) (hb : ∀ x ∈ l, 0 ≤ x ∧ x < 256) : ∀ (d i : Nat), i + d = l.length → ∀ e,
    chalklineref02_Sum.l0 (10 * d + 1 + e) ((Pl.crc 4294967295 (l.take i) : Nat) : Int) l (l.length : Int) (i : Int) = some (Pl.sumI l) := by
  intro d
  induction d with
  | zero =>
    intro i hi e
    rw [show 10 * 0 + 1 + e = e + 1 by omega]
    simp only [chalklineref02_Sum.l0]
    rw [if_neg (by omega), List.take_of_length_le (by omega)]
    rw [show (4294967295 : Int) = ((4294967295 : Nat) : Int) from rfl, Pr.u32_xor _ _ (Pl.crc_lt _ _ (by omega)) (by omega)]
    rfl
  | succ d ih =>
    intro i hi e
    have hlt : i < l.length := by omega
    have hx := hb l[i] (List.getElem_mem hlt)
    rw [show 10 * (d + 1) + 1 + e = (10 * d + 1 + e + 8 + 1) + 1 by omega]
    simp only [chalklineref02_Sum.l0]
    have hrd : rd l (i : Int) = l[i] := by simp [rd, List.getD_eq_getElem?_getD, List.getElem?_eq_getElem hlt]
    have hc := Pl.crc_lt (l.take i) 4294967295 (by omega)
    rw [if_pos (by omega), if_pos (by omega), if_pos (by omega), hrd]
    rw [show l[i] % 4294967296 = (((l[i] % 256).toNat : Nat) : Int) by omega, Pr.u32_xor _ _ hc (by omega)]
    have h0 := refEight l (l.length : Int) (i : Int) 0 8 rfl (10 * d + 1 + e) (Pl.crc 4294967295 (l.take i) ^^^ (l[i] % 256).toNat) (Pl.xor_lt _ _ hc (by omega))
    rw [show (stepK 0 (Pl.crc 4294967295 (l.take i) ^^^ (l[i] % 256).toNat)) = (Pl.crc 4294967295 (l.take i) ^^^ (l[i] % 256).toNat) from rfl] at h0
    rw [show ((0 : Nat) : Int) = 0 from rfl] at h0
    rw [h0, stepK_8, wrap_one (by omega)]
    have := ih (i + 1) (by omega) e
    rw [List.take_succ_eq_append_getElem hlt, Pl.crc_append, Pl.crc_cons, Pl.crc_nil] at this
    exact this
theorem refSum (l : List Int) (hl : l.length < 9223372036854775807) (hb : ∀ x ∈ l, 0 ≤ x ∧ x < 256) (e : Nat) : chalklineref02_Sum.f (10 * l.length + 1 + e) l = some (Pl.sumI l) := by
  have := refLoop l hl hb l.length 0 (by omega) e
  rw [List.take_zero, Pl.crc_nil] at this
  exact this
theorem refSum_of (l : List Int) (hl : l.length < 9223372036854775807) (hb : ∀ x ∈ l, 0 ≤ x ∧ x < 256) (k : Nat) (hk : 10 * l.length + 1 ≤ k) : chalklineref02_Sum.f k l = some (Pl.sumI l) := by
  have := refSum l hl hb (k - (10 * l.length + 1))
  rwa [show 10 * l.length + 1 + (k - (10 * l.length + 1)) = k by omega] at this
end Go.Proofs.Ytfcdaifaocgjfaa.Pure
end
section
namespace Go.Proofs.Ytfcdaifaocgjfaa.Pure
open Go.RowKit Go.Proofs.Ytfcdaifaocgjfaa.Pr Go.Proofs.YtfcdaifaocgjfaaW.PrintWords Go.Proofs.YtfcdaifaocgjfaaW.PrintLast
theorem numberOf (l : List Int) (hb : Pl.bytes l) (h : 4 ≤ l.length) : chalklineref02_number.f (l.take 4) = some ((Pl.get4 l : Nat) : Int) := by
  obtain ⟨a, b, c, d, t, rfl⟩ := Pl.four_of_length l h
  have ha := hb a (by simp)
  have hb' := hb b (by simp)
  have hc := hb c (by simp)
  have hd := hb d (by simp)
  rw [Pl.get4_cons a b c d t ha hb' hc hd]
  unfold chalklineref02_number.f
  simp [rd]
  omega
end Go.Proofs.Ytfcdaifaocgjfaa.Pure
end
section
namespace Go.Proofs.Ytfcdaifaocgjfaa.Pr
open Go.RowKit Go.Proofs.YtfcdaifaocgjfaaW.PrintWords Go.Proofs.YtfcdaifaocgjfaaW.PrintLast Go.Proofs.YtfcdaifaocgjfaaW.PrintMore
attribute [local go_sem] max2_int min2_int max_two min_two max_three min_three max_four min_four   -- for this text's walks alone
set_option linter.unusedVariables false
set_option linter.unusedSimpArgs false
def chalklineref02_Open.f (l0 : List Int) (a1 : Int) : Option (List Int × Int × Int) := if l0.all (fun x => decide (0 ≤ x) && decide (x < 256)) = true then some (Pl.openI l0 a1) else none
theorem quiet_of_drawn {P : Program} {f : FuncId} {args : Array Value} {w : World} {n : Nat} {v : Value}
    (h : Calls P f args (w.drewN n) fun e w' => e = .returned v ∧ Drawn0 (w.drewN n) w') : Calls P f args (w.drewN n) fun e w'' => e = .returned v ∧ ∃ m, w'' = w.drewN m :=
  h.mono fun _ _ ⟨he, hm⟩ => by
    obtain ⟨⟨m, rfl⟩⟩ := hm
    exact ⟨he, n + m, World.drewN_drewN ..⟩
set_option maxHeartbeats 4000000 in
set_option maxRecDepth 100000 in
theorem chalklineref02_Open.calls (A0 : Option Addr) (c0 : Nat) (l0 : List Int) (a1 : Int) (r1 : List Int) (r2 : Int) (r3 : Int) (w : World) (hr0 : Kd.C (Kd.int .u8) w A0 l0.length l0) (hc0 : l0.length ≤ c0) (h : chalklineref02_Open.f l0 a1 = some (r1, r2, r3)) :
    Calls Try.prog 55 #[.slice A0 l0.length c0, .int .i64 a1] w fun e w' => ∃ v0_ : Value, e = .returned (.tuple #[v0_, .int .i64 r2, .int .i64 r3]) ∧ Kd.R (Kd.int .u8) 5 w' w.heap.size (fun _ => True) v0_ r1 ∧ Below w.heap.size w w' := by
  unfold chalklineref02_Open.f at h
  split at h
  case isFalse => exact absurd h (by simp)
  rename_i hby
  have HB := Aside0.mk (show Pl.bytes l0 from fun x hx => by have := List.all_eq_true.1 hby x hx; simpa using this)
  clear hby
  have h := Option.some.inj h
  unfold Pl.openI at h
  have hm : l0.length ≤ 9223372036854775807 := hr0.2.1
  by_cases h0 : a1 < 0
  · rw [if_pos h0] at h
    simp only [Prod.mk.injEq] at h
    obtain ⟨rfl, rfl, rfl⟩ := h
    have hd : decide (a1 < 0) = true := decide_eq_true h0
    clear hr0 hc0
    go_enter Try.func55, Try.ntmps55
    go_wp2
    go_ret3
    exact ⟨_, rfl, Kd.R_nil _ _ _ _ _, Below.refl _ _⟩
  rw [if_neg h0] at h
  have hd0 : decide (a1 < 0) = false := decide_eq_false h0
  by_cases h1 : (l0.length : Int) < a1
  · rw [if_pos h1] at h
    simp only [Prod.mk.injEq] at h
    obtain ⟨rfl, rfl, rfl⟩ := h
    have hd : decide ((l0.length : Int) < a1) = true := decide_eq_true h1
    clear hr0 hc0
    go_enter Try.func55, Try.ntmps55
    go_wp2
    go_ret3
    exact ⟨_, rfl, Kd.R_nil _ _ _ _ _, Below.refl _ _⟩
  rw [if_neg h1] at h
  have hd1 : decide ((l0.length : Int) < a1) = false := decide_eq_false h1
  obtain ⟨i0, hi, hz0, hz1, hz2⟩ := info_parts info5
  obtain ⟨at_, rfl⟩ := Int.eq_ofNat_of_zero_le (show 0 ≤ a1 by omega)
  rw [Int.toNat_natCast] at h
  have hle : at_ ≤ l0.length := by omega
  have hlr : (l0.drop at_).length = l0.length - at_ := List.length_drop
  rw [hlr] at h
  clear h0 h1
  by_cases h8 : l0.length - at_ < 8
  · rw [if_pos h8] at h
    simp only [Prod.mk.injEq] at h
    obtain ⟨rfl, rfl, rfl⟩ := h
    have hd8 : decide ((l0.length : Int) - (at_ : Int) < 8) = true := decide_eq_true (by omega)
    clear hi hz0 hz1 hz2 hr0 hc0
    go_enter Try.func55, Try.ntmps55
    go_wp2
    go_ret3
    exact ⟨_, rfl, Kd.R_nil _ _ _ _ _, Below.refl _ _⟩
  rw [if_neg h8] at h
  have hd8 : decide ((l0.length : Int) - (at_ : Int) < 8) = false := decide_eq_false (by omega)
  have h8' : at_ + 8 ≤ l0.length := by omega
  have hRd := Kd.reads_of_C (d := (0 : Int)) hr0
  obtain ⟨A1, hcut1, hA1, hC1⟩ := print_mid_int (P := Try.prog) (k := .u8) 22 5 Try.underlying22 hi hz1 A0 c0 l0 (at_ : Int) ((at_ : Int) + 4) (by omega) (by omega) (by omega) hc0
  obtain ⟨A2, hcut2, hA2, hC2⟩ := print_mid_int (P := Try.prog) (k := .u8) 22 5 Try.underlying22 hi hz1 A0 c0 l0 ((at_ : Int) + 4) ((at_ : Int) + 8) (by omega) (by omega) (by omega) hc0
  have e1 : (l0.take ((at_ : Int) + 4).toNat).drop (at_ : Int).toNat = (l0.drop at_).take 4 := by
    rw [show ((at_ : Int) + 4).toNat = at_ + 4 by omega, Int.toNat_natCast, List.drop_take, Nat.add_sub_cancel_left]
  have e2 : (l0.take ((at_ : Int) + 8).toNat).drop ((at_ : Int) + 4).toNat = ((l0.drop at_).drop 4).take 4 := by
    rw [show ((at_ : Int) + 8).toNat = at_ + 8 by omega, show ((at_ : Int) + 4).toNat = at_ + 4 by omega, List.drop_take, List.drop_drop, show at_ + 8 - (at_ + 4) = 4 by omega]
  have hR1 := hA1 w hRd
  have hR2 := hA2 w hRd
  rw [e1] at hcut1 hR1 hC1
  rw [e2] at hcut2 hR2 hC2
  clear e1 e2 hA1 hA2
  have n1 := Pure.numberOf (l0.drop at_) (Pl.bytes_drop HB.out _) (by rw [hlr]; omega)
  have n2 := Pure.numberOf ((l0.drop at_).drop 4) (Pl.bytes_drop (Pl.bytes_drop HB.out _) _) (by rw [List.length_drop, hlr]; omega)
  have N1 := Aside0.mk (fun m => quiet_of_drawn (chalklineref02_number.calls A1 _ _ _ (w.drewN m) (Kd.C_of_reads (hR1.drewN m)) hC1 n1))
  have HR2 := Aside0.mk hR2
  have HC2 := Aside0.mk hC2
  have N2 := Aside0.mk n2
  clear n1 n2 hR1 hR2 hC1 hC2
  have hl1 : ((l0.drop at_).take 4).length = 4 := by rw [List.length_take, hlr]; omega
  have hl2 : (((l0.drop at_).drop 4).take 4).length = 4 := by rw [List.length_take, List.length_drop, hlr]; omega
  rw [hl1] at hcut1 N1
  rw [hl2] at hcut2
  have HL2 := Aside0.mk hl2
  clear hl1 hl2
  have hg1 : Pl.get4 (l0.drop at_) < 4294967296 := Pl.get4_lt _
  have hg2 : Pl.get4 ((l0.drop at_).drop 4) < 4294967296 := Pl.get4_lt _
  have HRD := Aside0.mk hRd
  have HC0 := Aside0.mk hc0
  clear hRd hr0 hc0
  generalize hn : Pl.get4 (l0.drop at_) = n at h hg1 N1
  generalize hs : Pl.get4 ((l0.drop at_).drop 4) = s at h hg2 N2
  have HN := Aside0.mk (And.intro hn hs)
  clear hn hs
  have HLR := Aside0.mk hlr
  clear hlr
  by_cases h9 : 65536 < n
  · rw [if_pos h9] at h
    simp only [Prod.mk.injEq] at h
    obtain ⟨rfl, rfl, rfl⟩ := h
    have hd9 : decide ((65536 : Int) < (n : Int)) = true := decide_eq_true (by omega)
    clear hi hz0 hz1 hz2 hcut2
    go_enter Try.func55, Try.ntmps55
    go_wp2_with fail
    refine (N1.out 0).mono ?_
    rintro e w1 ⟨rfl, m, rfl⟩
    go_wp2
    go_ret3
    exact ⟨_, rfl, Kd.R_nil _ _ _ _ _, pw_below_drewN (Below.refl _ _) _⟩
  rw [if_neg h9] at h
  have hd9 : decide ((65536 : Int) < (n : Int)) = false := decide_eq_false (by omega)
  by_cases h10 : l0.length - at_ - 8 < n
  · rw [if_pos h10] at h
    simp only [Prod.mk.injEq] at h
    obtain ⟨rfl, rfl, rfl⟩ := h
    have hd10 : decide ((l0.length : Int) - (at_ : Int) - 8 < (n : Int)) = true := decide_eq_true (by omega)
    clear hi hz0 hz1 hz2 hcut2
    go_enter Try.func55, Try.ntmps55
    go_wp2_with fail
    refine (N1.out 0).mono ?_
    rintro e w1 ⟨rfl, m, rfl⟩
    go_wp2
    go_ret3
    exact ⟨_, rfl, Kd.R_nil _ _ _ _ _, pw_below_drewN (Below.refl _ _) _⟩
  rw [if_neg h10] at h
  have hd10 : decide ((l0.length : Int) - (at_ : Int) - 8 < (n : Int)) = false := decide_eq_false (by omega)
  have hbnd : at_ + 8 + n ≤ l0.length := by omega
  obtain ⟨A3, hcut3, hA3, hC3⟩ := print_mid_int (P := Try.prog) (k := .u8) 22 5 Try.underlying22 hi hz1 A0 c0 l0 ((at_ : Int) + 8) ((at_ : Int) + 8 + (n : Int)) (by omega) (by omega) (by omega) HC0.out
  have e3 : (l0.take ((at_ : Int) + 8 + (n : Int)).toNat).drop ((at_ : Int) + 8).toNat = ((l0.drop at_).drop 8).take n := by
    rw [show ((at_ : Int) + 8 + (n : Int)).toNat = at_ + 8 + n by omega, show ((at_ : Int) + 8).toNat = at_ + 8 by omega, List.drop_take, List.drop_drop, show at_ + 8 + n - (at_ + 8) = n by omega]
  have hR3 := hA3 w HRD.out
  rw [e3] at hcut3 hC3 hR3
  have hlb : (((l0.drop at_).drop 8).take n).length = n := by rw [List.length_take, List.length_drop, HLR.out]; omega
  have hbb : Pl.bytes (((l0.drop at_).drop 8).take n) := Pl.bytes_take (Pl.bytes_drop (Pl.bytes_drop HB.out _) _) _
  clear e3 hA3 hi hz0 hz1 hz2
  generalize hbody : ((l0.drop at_).drop 8).take n = body at h hcut3 hC3 hR3 hlb hbb
  have hsum := Pure.refSum_of body (by omega) hbb (10 * body.length + 1) (Nat.le_refl _)
  have HR3 := Aside0.mk hR3
  have HC3 := Aside0.mk hC3
  have S3 := Aside0.mk (fun m k => quiet_of_drawn (chalklineref02_Sum.calls _ A3 _ body _ ((w.drewN m).drewN k) (Kd.C_of_reads ((HR3.out.drewN m).drewN k)) HC3.out hsum))
  have N3 := Aside0.mk (fun m k => quiet_of_drawn (chalklineref02_number.calls A2 _ _ _ ((w.drewN m).drewN k) (Kd.C_of_reads ((HR2.out.drewN m).drewN k)) HC2.out N2.out))
  rw [HL2.out] at N3
  have HBo := Aside0.mk hbody
  have HLB := Aside0.mk hlb
  clear hbody hR3 hC3 hlb hbb hsum N2 HR2 HC2
  go_enter Try.func55, Try.ntmps55
  go_wp2_with fail
  refine (N1.out 0).mono ?_
  rintro e w1 ⟨rfl, m, rfl⟩
  clear N1
  have S4 := Aside0.mk (S3.out m)
  have N4 := Aside0.mk (N3.out m)
  have B4 := Aside0.mk (show Below w.heap.size w (w.drewN m) from pw_below_drewN (Below.refl _ _) _)
  have HR4 := Aside0.mk (HR3.out.drewN m)
  clear S3 N3 HR3
  generalize w.drewN m = W1 at *
  go_wp2_with fail
  go_quiet ((first | (go_at_call 61; exact S4.out _) | (go_at_call 69; exact N4.out _)))
  clear S4 N4
  by_cases h11 : Pl.sumI body = (s : Int)
  · rw [if_pos h11] at h
    simp only [Prod.mk.injEq] at h
    obtain ⟨rfl, rfl, rfl⟩ := h
    have hd11 : (Pl.sumI body != (s : Int)) = false := by rw [bne_eq_false_iff_eq]; exact h11
    have H11 := Aside0.mk h11
    clear h11
    go_wp2_with fail
    refine (chalklineref02_Copy.calls A3 _ body body (W1.drewN nq) (Kd.C_of_reads (HR4.out.drewN nq)) HC3.out (by unfold chalklineref02_Copy.f; rw [if_pos (by have := HLB.out; omega)])).mono ?_
    rintro e w2 ⟨v2, rfl, ho2, hb2⟩
    have H2 := Aside0.mk (Kd.R_lower ho2 (base' := w.heap.size) (by have := B4.out.size; simpa using this))
    have B2 := Aside0.mk (show Below w.heap.size w w2 from below_step (pw_below_drewN B4.out _) hb2)
    clear ho2 hb2
    go_wp2
    go_ret3
    exact ⟨_, rfl, H2.out, B2.out⟩
  · rw [if_neg h11] at h
    simp only [Prod.mk.injEq] at h
    obtain ⟨rfl, rfl, rfl⟩ := h
    have hd11 : (Pl.sumI body != (s : Int)) = true := by rw [bne_iff_ne]; exact h11
    go_wp2
    go_ret3
    exact ⟨_, rfl, Kd.R_nil _ _ _ _ _, pw_below_drewN B4.out _⟩
end Go.Proofs.Ytfcdaifaocgjfaa.Pr
end
section
namespace Go.Proofs.Ytfcdaifaocgjfaa.Pr
open Go.RowKit Go.Proofs.YtfcdaifaocgjfaaW.PrintWords Go.Proofs.YtfcdaifaocgjfaaW.PrintLast Go.Proofs.YtfcdaifaocgjfaaW.PrintMore
attribute [local go_sem] max2_int min2_int max_two min_two max_three min_three max_four min_four   -- for this text's walks alone
set_option linter.unusedVariables false
set_option linter.unusedSimpArgs false
def chalklineref02_Scan.l0 : Nat → List Int → List (List Int) → Int → Option ((List (List Int)) × Int)
  | 0, _, _, _ => none
  | k + 1, x0, x4, x5 => (chalklineref02_Open.f x0 x5).bind fun bt265 => (if bt265.2.2 = 0 then (if x4.length < 5864062014805 then (chalklineref02_Scan.l0 k x0 (x4 ++ [bt265.1]) bt265.2.1) else (none)) else (some (x4, x5)))
def chalklineref02_Scan.f (k : Nat) (l0 : List Int) : Option ((List (List Int)) × Int) := chalklineref02_Scan.l0 k l0 ([] : List (List Int)) 0
theorem chalklineref02_Scan.mono_l : ∀ k, (∀ y0 y1 y2, LeO (chalklineref02_Scan.l0 k y0 y1 y2) (chalklineref02_Scan.l0 (k + 1) y0 y1 y2))
  | 0 => fun _ _ _ r h => by simp [chalklineref02_Scan.l0] at h
  | k + 1 => by
    have ih0 := chalklineref02_Scan.mono_l k
    · intro y0 y1 y2
      unfold chalklineref02_Scan.l0
      repeat' first
      | (with_reducible exact ih0 _ _ _)
      | (with_reducible exact LeO.refl _)
      | (with_reducible exact LeO.none _)
      | (with_reducible refine LeO.ite ?_ ?_)
      | (with_reducible refine LeO.bind ?_ (fun _ => ?_))
      | exact ih0 _ _ _
      | exact LeO.none _
      | refine LeO.ite ?_ ?_
      | refine LeO.bind ?_ (fun _ => ?_)
theorem chalklineref02_Scan.mono : ∀ a0 k, LeO (chalklineref02_Scan.f k a0) (chalklineref02_Scan.f (k + 1) a0) := by
  intro a0 k
  have ih0 := chalklineref02_Scan.mono_l k
  unfold chalklineref02_Scan.f
  repeat' first
      | (with_reducible exact ih0 _ _ _)
      | (with_reducible exact LeO.refl _)
      | (with_reducible exact LeO.none _)
      | (with_reducible refine LeO.ite ?_ ?_)
      | (with_reducible refine LeO.bind ?_ (fun _ => ?_))
      | exact ih0 _ _ _
      | exact LeO.none _
      | refine LeO.ite ?_ ?_
      | refine LeO.bind ?_ (fun _ => ?_)
set_option maxHeartbeats 8000000 in
set_option maxRecDepth 100000 in
theorem chalklineref02_Scan.calls (k : Nat) (A0 : Option Addr) (c0 : Nat) (l0 : List Int) (r1 : List (List Int)) (r2 : Int) (w : World) (hr0 : Kd.C (Kd.int .u8) w A0 l0.length l0) (hc0 : l0.length ≤ c0) (h : chalklineref02_Scan.f k l0 = some (r1, r2)) :
    Calls Try.prog 40 #[.slice A0 l0.length c0] w fun e w' => ∃ v0_ : Value, e = .returned (.tuple #[v0_, .int .i64 r2]) ∧ Kd.S (Kd.slice 5 (Kd.int .u8)) 22 w' w.heap.size (fun _ => True) v0_ r1 ∧ Below w.heap.size w w' := by
  have HR0 := Aside0.mk hr0
  have HC0 := Aside0.mk hc0
  clear hr0 hc0
  have HB := Aside0.mk (Below.refl w.heap.size w)
  have H : (chalklineref02_Scan.l0 k l0 ([] : List (List Int)) 0) = some (r1, r2) := h
  clear h
  have H' := Aside0.mk H
  clear H
  go_enter Try.func40, Try.ntmps40
  go_wp2
  go_loopg [4, 5] k (fun kq v4 v5 w' => ∃ (x4_1 : List (List Int)) (x5_1 : Int), v5 = .int .i64 x5_1 ∧ Aside0 (chalklineref02_Scan.l0 kq l0 x4_1 x5_1 = some (r1, r2)) ∧ Aside0 (kq ≤ k) ∧ Aside0 (Kd.S (Kd.slice 5 (Kd.int .u8)) 22 w' w.heap.size (fun _ => True) v4 x4_1) ∧ Aside0 (Below w.heap.size w w'))
  case atStart => exact ⟨(([] : List (List Int))), (0), (by first | rfl | (simp; done) | (simp [*]; done)), H', ⟨Nat.le_refl _⟩, ⟨by first | exact Kd.S_nil _ _ _ _ _ | exact Kd.N_nil _ _ _ _ _ | exact Kd.V_nil _ _ _ _ _ | exact Kd.Q_nil _ _ _ _ _ | exact Kd.R_nil _ _ _ _ _⟩, ⟨by repeat (first | (with_reducible first | exact HB.out | apply below_alloc | apply pw_below_drewN | apply below_drew1) | exact HB.out)⟩⟩
  case round =>
    clear H'
    obtain ⟨x4_1, x5_1, rfl, HA, HK1, HO_4, HB⟩ := hrel
    cases gk with
    | zero => exact absurd HA.out (by simp [chalklineref02_Scan.l0])
    | succ k1 =>
      have H := HA.out
      clear HA
      simp only [chalklineref02_Scan.l0] at H
      replace H := Option.bind_eq_some_iff.mp H
      obtain ⟨⟨t265, t266, t267⟩, A20, H⟩ := H
      replace H : (if t267 = 0 then (if x4_1.length < 5864062014805 then (chalklineref02_Scan.l0 k1 l0 (x4_1 ++ [t265]) t266) else (none)) else (some (x4_1, x5_1))) = some (r1, r2) := H
      have A2 := Aside0.mk A20
      clear A20
      by_cases c3 : t267 = 0
      · rw [if_pos c3] at H
        have c3b0 : (t267 == 0) = true := beq_iff_eq.mpr c3
        have c3b1 : (t267 != 0) = false := bne_eq_false_iff_eq.mpr c3
        clear c3
        by_cases c4 : x4_1.length < 5864062014805
        · rw [if_pos c4] at H
          have LMc4 := Aside0.mk c4
          clear c4
          obtain ⟨y270, hy270⟩ : ∃ y_ : List (List Int), y_ = (x4_1 ++ [t265]) := ⟨_, rfl⟩
          replace H : (chalklineref02_Scan.l0 k1 l0 y270 t266) = some (r1, r2) := by first | (rw [hy270]; with_reducible exact H) | (have H2_ := (Option.bind_some _ _).symm.trans H; rw [hy270]; with_reducible exact H2_) | (have H2_ := (Option.bind_some _ _).symm.trans H; with_reducible exact H2_) | with_reducible exact H | (rw [hy270]; exact H) | exact H
          have Ny270 := Aside0.mk hy270
          clear hy270
          have H' := Aside0.mk H
          clear H
          go_wp2_with (first | ((with_reducible refine gate_callee (f := 55) rfl ?_); refine goesL_ (some 12) rfl rfl Try.func55 (by kernel_rfl) rfl #[.slice A0 l0.length c0, .int .i64 x5_1] rfl (by (try simp only [List.map_toArray, List.map_cons, List.map_nil]); first | done | rfl | (simp only [List.length_drop, List.length_take]; rfl)) ?_; (with_reducible refine (chalklineref02_Open.calls _ _ l0 x5_1 t265 t266 t267 _ ?side1 ?side2 A2.out).mono ?_); (case side1 => repeat (first | exact (Kd.C_below HR0.out HB.out) | (with_reducible refine Kd.C_alloc ?_ _) | (with_reducible refine Kd.C_drewN ?_ _) | (with_reducible refine Kd.C_drew ?_))); (case side2 => exact HC0.out); rintro e w5 ⟨v268, rfl, ho0, hb⟩; refine ⟨_, rfl, ?_⟩; have n0_ := Aside0.mk (Kd.S_elder' (by (with_reducible repeat (first | apply Kd.S_alloc | apply Kd.S_drewN | apply Kd.S_drew)); exact HO_4.out) (Kd.R_base ho0) hb); have n1_ := Aside0.mk (Kd.R_lower ho0 (below_size (by repeat (first | (with_reducible first | exact HB.out | apply below_alloc | apply pw_below_drewN | apply below_drew1) | exact HB.out)))); have n2_ := Aside0.mk (below_step (by repeat (first | (with_reducible first | exact HB.out | apply below_alloc | apply pw_below_drewN | apply below_drew1) | exact HB.out)) hb); clear HO_4; clear HB; have HO_4 := n0_; have HO269 := n1_; have HB := n2_; clear n0_ n1_ n2_; (try clear hb); (try clear hb2); (try clear hk); (try clear hi); (try clear ho0); obtain ⟨Ao7, co7, eo7⟩ := Kd.R_slice HO269.out; subst eo7) | ((with_reducible refine gate_builtin (b := .append) (xs := #[.tmp 20, .tmp 22]) rfl ?_); at_builtin; refine Kd.S_append (Kd.slice 5 (Kd.int .u8)) (w0 := w) w.heap.size rfl (.tmp 20) (.tmp 22) 56 22 (.slice none 0 0) 24 rfl Try.underlying56 info22 rfl (by decide) (by omega) u4 x4_1 t265 [.slice Ao7 t265.length co7] (fun _ => True) (fun k_ => some k_ = (.slice Ao7 t265.length co7 : Value).ownBlock) rfl rfl ?aP (fun k_ hk_ => ((Kd.R_mono (ok' := fun k_ => ((fun _ => True)) k_ ∧ some k_ ≠ (u4 : Value).ownBlock) (Kd.R_apart' (HO269.out) (Kd.S_typed HO_4.out) (by decide)) (fun k_ hk => ⟨trivial, hk.2⟩))).1 k_ hk_.symm) ?aF ?aO ?aB ?aS ?aL ?_; (case aP => exact Kd.M_row (Kd.R_mono (Kd.R_tight rfl (Kd.R_mono (ok' := fun k_ => ((fun _ => True)) k_ ∧ some k_ ≠ (u4 : Value).ownBlock) (Kd.R_apart' (HO269.out) (Kd.S_typed HO_4.out) (by decide)) (fun k_ hk => ⟨trivial, hk.2⟩))) (fun _ h_ => h_))); (case aB => exact (by repeat (first | (with_reducible first | exact HB.out | apply below_alloc | apply pw_below_drewN | apply below_drew1) | exact HB.out))); (case aF => exact (fun _ _ => trivial)); (case aO => exact (by (with_reducible repeat (first | apply Kd.S_alloc | apply Kd.S_drewN | apply Kd.S_drew)); exact Kd.S_mono HO_4.out (fun k_ hk => ⟨trivial, fun e_ => hk.2 e_⟩))); (case aS => exact (below_size (by repeat (first | (with_reducible first | exact HB.out | apply below_alloc | apply pw_below_drewN | apply below_drew1) | exact HB.out)))); (case aL => have := LMc4.out; omega); intro v271 w6 ho hb hg hat; rw [← Ny270.out] at ho; have n0_ := Aside0.mk (hb); have n1_ := Aside0.mk (ho); clear HB; clear HO_4; clear HO269; have HB := n0_; have HO272 := n1_; clear n0_ n1_; clear ho hb hg hat))
          go_roundg k1
          case measure => have := HK1.out; omega
          case rel => exact ⟨(y270), (t266), (by first | rfl | (simp; done) | (simp [*]; done)), H', ⟨by have := HK1.out; omega⟩, ⟨by (with_reducible repeat (first | apply Kd.S_alloc | apply Kd.S_drewN | apply Kd.S_drew)); exact HO272.out⟩, ⟨by repeat (first | (with_reducible first | exact HB.out | apply below_alloc | apply pw_below_drewN | apply below_drew1) | exact HB.out)⟩⟩
        · rw [if_neg c4] at H
          exact absurd H (by simp)
      · rw [if_neg c3] at H
        have c3b0 : (t267 == 0) = false := beq_eq_false_iff_ne.mpr c3
        have c3b1 : (t267 != 0) = true := bne_iff_ne.mpr c3
        simp only [Option.some.injEq, Prod.mk.injEq] at H
        obtain ⟨rfl, rfl⟩ := H
        go_wp2_with (first | ((with_reducible refine gate_callee (f := 55) rfl ?_); refine goesL_ (some 12) rfl rfl Try.func55 (by kernel_rfl) rfl #[.slice A0 l0.length c0, .int .i64 x5_1] rfl (by (try simp only [List.map_toArray, List.map_cons, List.map_nil]); first | done | rfl | (simp only [List.length_drop, List.length_take]; rfl)) ?_; (with_reducible refine (chalklineref02_Open.calls _ _ l0 x5_1 t265 t266 t267 _ ?side1 ?side2 A2.out).mono ?_); (case side1 => repeat (first | exact (Kd.C_below HR0.out HB.out) | (with_reducible refine Kd.C_alloc ?_ _) | (with_reducible refine Kd.C_drewN ?_ _) | (with_reducible refine Kd.C_drew ?_))); (case side2 => exact HC0.out); rintro e w8 ⟨v268, rfl, ho0, hb⟩; refine ⟨_, rfl, ?_⟩; have n0_ := Aside0.mk (Kd.S_elder' (by (with_reducible repeat (first | apply Kd.S_alloc | apply Kd.S_drewN | apply Kd.S_drew)); exact HO_4.out) (Kd.R_base ho0) hb); have n1_ := Aside0.mk (Kd.R_lower ho0 (below_size (by repeat (first | (with_reducible first | exact HB.out | apply below_alloc | apply pw_below_drewN | apply below_drew1) | exact HB.out)))); have n2_ := Aside0.mk (below_step (by repeat (first | (with_reducible first | exact HB.out | apply below_alloc | apply pw_below_drewN | apply below_drew1) | exact HB.out)) hb); clear HO_4; clear HB; have HO_4 := n0_; have HO269 := n1_; have HB := n2_; clear n0_ n1_ n2_; (try clear hb); (try clear hb2); (try clear hk); (try clear hi); (try clear ho0)))
        go_ret2
        exact ⟨_, by first | rfl | (simp [errW_none, errW_some] <;> rfl) | (simp [*, errW_none, errW_some] <;> rfl), by (with_reducible repeat (first | apply Kd.S_alloc | apply Kd.S_drewN | apply Kd.S_drew)); exact Kd.S_mono HO_4.out (fun _ hk => trivial), by repeat (first | (with_reducible first | exact HB.out | apply below_alloc | apply pw_below_drewN | apply below_drew1) | exact HB.out)⟩
def chalklineref34_may.f (a0_0 : Int) (l0_1 : List (S76)) (a0_2 : Int) (a0_3 : Bool) : Option (Bool) := if a0_0 ≥ 1 then (if a0_0 ≤ 1099511627776 then (if a0_2 ≥ 0 then (if a0_2 ≤ 1099511627776 then (some (decide ((l0_1.length : Int) ≤ 64))) else (some false)) else (some false)) else (some false)) else (some false)
set_option maxHeartbeats 8000000 in
set_option maxRecDepth 100000 in
theorem chalklineref34_may.calls (a0_0 : Int) (A0_1 : Option Addr) (c0_1 : Nat) (l0_1 : List (S76)) (a0_2 : Int) (a0_3 : Bool) (r : Bool) (w : World) (hr0_1 : Kd.C k76 w A0_1 l0_1.length l0_1) (hc0_1 : l0_1.length ≤ c0_1) (h : chalklineref34_may.f a0_0 l0_1 a0_2 a0_3 = some r) :
    Calls Try.prog 45 #[.agg #[.int .i64 a0_0, .slice A0_1 l0_1.length c0_1, .int .i64 a0_2, .bool a0_3]] w fun e w' => e = .returned (.bool r) ∧ Below w.heap.size w w' := by
  have hu50 := Try.underlying50
  have HR0_1 := Aside0.mk hr0_1
  have HC0_1 := Aside0.mk hc0_1
  clear hr0_1 hc0_1
  have HB := Aside0.mk (Below.refl w.heap.size w)
  have H : (if a0_0 ≥ 1 then (if a0_0 ≤ 1099511627776 then (if a0_2 ≥ 0 then (if a0_2 ≤ 1099511627776 then (some (decide ((l0_1.length : Int) ≤ 64))) else (some false)) else (some false)) else (some false)) else (some false)) = some r := h
  clear h
  by_cases c2 : a0_0 ≥ 1
  · rw [if_pos c2] at H
    have c2b0 : decide (1 ≤ a0_0) = true := decide_eq_true c2
    clear c2
    by_cases c3 : a0_0 ≤ 1099511627776
    · rw [if_pos c3] at H
      have c3b0 : decide (a0_0 ≤ 1099511627776) = true := decide_eq_true c3
      clear c3
      by_cases c4 : a0_2 ≥ 0
      · rw [if_pos c4] at H
        have c4b0 : decide (0 ≤ a0_2) = true := decide_eq_true c4
        clear c4
        by_cases c5 : a0_2 ≤ 1099511627776
        · rw [if_pos c5] at H
          have c5b0 : decide (a0_2 ≤ 1099511627776) = true := decide_eq_true c5
          clear c5
          obtain rfl := Option.some.inj H
          go_enter Try.func45, Try.ntmps45
          go_wp2_with (first | ((with_reducible refine gate_dst (N := 1) rfl ?_); (try (refine gate_guard (by rfl) ?_; dsimp only)); refine box_event ?hg (N := 1) ?hd (cs := #[.int .i64 a0_0, .slice A0_1 l0_1.length c0_1, .int .i64 a0_2, .bool a0_3]) (t := 50) ?hr ?_; (case hd => rfl); (case hg => rfl); (case hr => first | (go_simp; done) | (go_simp; rfl)); intro gb273 hg w6 hbox hb; have n0_ := Aside0.mk (below_step (by repeat (first | (with_reducible first | exact HB.out | apply below_alloc | apply pw_below_drewN | apply below_drew1) | exact HB.out)) hb); have n1_ := Aside0.mk (hbox); have n2_ := Aside0.mk ((by rw [hg]; exact (below_size (by repeat (first | (with_reducible first | exact HB.out | apply below_alloc | apply pw_below_drewN | apply below_drew1) | exact HB.out))) : w.heap.size ≤ gb273)); have n3_ := Aside0.mk ((by rw [hg]; exact (below_size (by repeat (first | (with_reducible first | exact HB.out | apply below_alloc | apply pw_below_drewN | apply below_drew1) | exact HB.out))) : w.heap.size ≤ gb273)); clear HB; have HB := n0_; have BK273 := n1_; have GW273 := n2_; have GE273 := n3_; clear n0_ n1_ n2_ n3_; clear hb hbox hg; have hcz7_0 : w6.cell? ⟨gb273, 0, none⟩ = some (.int .i64 a0_0) := (blk_cell BK273.out 0).trans rfl; have hcz7_1 : w6.cell? ⟨gb273, 1, none⟩ = some (.slice A0_1 l0_1.length c0_1) := (blk_cell BK273.out 1).trans rfl; have hcz7_2 : w6.cell? ⟨gb273, 2, none⟩ = some (.int .i64 a0_2) := (blk_cell BK273.out 2).trans rfl; have hcz7_3 : w6.cell? ⟨gb273, 3, none⟩ = some (.bool a0_3) := (blk_cell BK273.out 3).trans rfl; have hfz7_0 := blk_frozen BK273.out 0; have hfz7_1 := blk_frozen BK273.out 1; have hfz7_2 := blk_frozen BK273.out 2; have hfz7_3 := blk_frozen BK273.out 3))
          go_ret
          exact ⟨by first | rfl | (simp [errW_none, errW_some] <;> rfl) | (simp [*, errW_none, errW_some] <;> rfl), by repeat (first | (with_reducible first | exact HB.out | apply below_alloc | apply pw_below_drewN | apply below_drew1 | refine below_set ?_ GE273.out) | exact HB.out)⟩
        · rw [if_neg c5] at H
          have c5b0 : decide (a0_2 ≤ 1099511627776) = false := decide_eq_false c5
          clear c5
          obtain rfl := Option.some.inj H
          go_enter Try.func45, Try.ntmps45
          go_wp2_with (first | ((with_reducible refine gate_dst (N := 1) rfl ?_); (try (refine gate_guard (by rfl) ?_; dsimp only)); refine box_event ?hg (N := 1) ?hd (cs := #[.int .i64 a0_0, .slice A0_1 l0_1.length c0_1, .int .i64 a0_2, .bool a0_3]) (t := 50) ?hr ?_; (case hd => rfl); (case hg => rfl); (case hr => first | (go_simp; done) | (go_simp; rfl)); intro gb273 hg w8 hbox hb; have n0_ := Aside0.mk (below_step (by repeat (first | (with_reducible first | exact HB.out | apply below_alloc | apply pw_below_drewN | apply below_drew1) | exact HB.out)) hb); have n1_ := Aside0.mk (hbox); have n2_ := Aside0.mk ((by rw [hg]; exact (below_size (by repeat (first | (with_reducible first | exact HB.out | apply below_alloc | apply pw_below_drewN | apply below_drew1) | exact HB.out))) : w.heap.size ≤ gb273)); have n3_ := Aside0.mk ((by rw [hg]; exact (below_size (by repeat (first | (with_reducible first | exact HB.out | apply below_alloc | apply pw_below_drewN | apply below_drew1) | exact HB.out))) : w.heap.size ≤ gb273)); clear HB; have HB := n0_; have BK273 := n1_; have GW273 := n2_; have GE273 := n3_; clear n0_ n1_ n2_ n3_; clear hb hbox hg; have hcz9_0 : w8.cell? ⟨gb273, 0, none⟩ = some (.int .i64 a0_0) := (blk_cell BK273.out 0).trans rfl; have hcz9_1 : w8.cell? ⟨gb273, 1, none⟩ = some (.slice A0_1 l0_1.length c0_1) := (blk_cell BK273.out 1).trans rfl; have hcz9_2 : w8.cell? ⟨gb273, 2, none⟩ = some (.int .i64 a0_2) := (blk_cell BK273.out 2).trans rfl; have hcz9_3 : w8.cell? ⟨gb273, 3, none⟩ = some (.bool a0_3) := (blk_cell BK273.out 3).trans rfl; have hfz9_0 := blk_frozen BK273.out 0; have hfz9_1 := blk_frozen BK273.out 1; have hfz9_2 := blk_frozen BK273.out 2; have hfz9_3 := blk_frozen BK273.out 3))
          go_ret
          exact ⟨by first | rfl | (simp [errW_none, errW_some] <;> rfl) | (simp [*, errW_none, errW_some] <;> rfl), by repeat (first | (with_reducible first | exact HB.out | apply below_alloc | apply pw_below_drewN | apply below_drew1 | refine below_set ?_ GE273.out) | exact HB.out)⟩
      · rw [if_neg c4] at H
        have c4b0 : decide (0 ≤ a0_2) = false := decide_eq_false c4
        clear c4
        obtain rfl := Option.some.inj H
        go_enter Try.func45, Try.ntmps45
        go_wp2_with (first | ((with_reducible refine gate_dst (N := 1) rfl ?_); (try (refine gate_guard (by rfl) ?_; dsimp only)); refine box_event ?hg (N := 1) ?hd (cs := #[.int .i64 a0_0, .slice A0_1 l0_1.length c0_1, .int .i64 a0_2, .bool a0_3]) (t := 50) ?hr ?_; (case hd => rfl); (case hg => rfl); (case hr => first | (go_simp; done) | (go_simp; rfl)); intro gb273 hg w10 hbox hb; have n0_ := Aside0.mk (below_step (by repeat (first | (with_reducible first | exact HB.out | apply below_alloc | apply pw_below_drewN | apply below_drew1) | exact HB.out)) hb); have n1_ := Aside0.mk (hbox); have n2_ := Aside0.mk ((by rw [hg]; exact (below_size (by repeat (first | (with_reducible first | exact HB.out | apply below_alloc | apply pw_below_drewN | apply below_drew1) | exact HB.out))) : w.heap.size ≤ gb273)); have n3_ := Aside0.mk ((by rw [hg]; exact (below_size (by repeat (first | (with_reducible first | exact HB.out | apply below_alloc | apply pw_below_drewN | apply below_drew1) | exact HB.out))) : w.heap.size ≤ gb273)); clear HB; have HB := n0_; have BK273 := n1_; have GW273 := n2_; have GE273 := n3_; clear n0_ n1_ n2_ n3_; clear hb hbox hg; have hcz11_0 : w10.cell? ⟨gb273, 0, none⟩ = some (.int .i64 a0_0) := (blk_cell BK273.out 0).trans rfl; have hcz11_1 : w10.cell? ⟨gb273, 1, none⟩ = some (.slice A0_1 l0_1.length c0_1) := (blk_cell BK273.out 1).trans rfl; have hcz11_2 : w10.cell? ⟨gb273, 2, none⟩ = some (.int .i64 a0_2) := (blk_cell BK273.out 2).trans rfl; have hcz11_3 : w10.cell? ⟨gb273, 3, none⟩ = some (.bool a0_3) := (blk_cell BK273.out 3).trans rfl; have hfz11_0 := blk_frozen BK273.out 0; have hfz11_1 := blk_frozen BK273.out 1; have hfz11_2 := blk_frozen BK273.out 2; have hfz11_3 := blk_frozen BK273.out 3))
        go_ret
        exact ⟨by first | rfl | (simp [errW_none, errW_some] <;> rfl) | (simp [*, errW_none, errW_some] <;> rfl), by repeat (first | (with_reducible first | exact HB.out | apply below_alloc | apply pw_below_drewN | apply below_drew1 | refine below_set ?_ GE273.out) | exact HB.out)⟩
    · rw [if_neg c3] at H
      have c3b0 : decide (a0_0 ≤ 1099511627776) = false := decide_eq_false c3
      clear c3
      obtain rfl := Option.some.inj H
      go_enter Try.func45, Try.ntmps45
      go_wp2_with (first | ((with_reducible refine gate_dst (N := 1) rfl ?_); (try (refine gate_guard (by rfl) ?_; dsimp only)); refine box_event ?hg (N := 1) ?hd (cs := #[.int .i64 a0_0, .slice A0_1 l0_1.length c0_1, .int .i64 a0_2, .bool a0_3]) (t := 50) ?hr ?_; (case hd => rfl); (case hg => rfl); (case hr => first | (go_simp; done) | (go_simp; rfl)); intro gb273 hg w12 hbox hb; have n0_ := Aside0.mk (below_step (by repeat (first | (with_reducible first | exact HB.out | apply below_alloc | apply pw_below_drewN | apply below_drew1) | exact HB.out)) hb); have n1_ := Aside0.mk (hbox); have n2_ := Aside0.mk ((by rw [hg]; exact (below_size (by repeat (first | (with_reducible first | exact HB.out | apply below_alloc | apply pw_below_drewN | apply below_drew1) | exact HB.out))) : w.heap.size ≤ gb273)); have n3_ := Aside0.mk ((by rw [hg]; exact (below_size (by repeat (first | (with_reducible first | exact HB.out | apply below_alloc | apply pw_below_drewN | apply below_drew1) | exact HB.out))) : w.heap.size ≤ gb273)); clear HB; have HB := n0_; have BK273 := n1_; have GW273 := n2_; have GE273 := n3_; clear n0_ n1_ n2_ n3_; clear hb hbox hg; have hcz13_0 : w12.cell? ⟨gb273, 0, none⟩ = some (.int .i64 a0_0) := (blk_cell BK273.out 0).trans rfl; have hcz13_1 : w12.cell? ⟨gb273, 1, none⟩ = some (.slice A0_1 l0_1.length c0_1) := (blk_cell BK273.out 1).trans rfl; have hcz13_2 : w12.cell? ⟨gb273, 2, none⟩ = some (.int .i64 a0_2) := (blk_cell BK273.out 2).trans rfl; have hcz13_3 : w12.cell? ⟨gb273, 3, none⟩ = some (.bool a0_3) := (blk_cell BK273.out 3).trans rfl; have hfz13_0 := blk_frozen BK273.out 0; have hfz13_1 := blk_frozen BK273.out 1; have hfz13_2 := blk_frozen BK273.out 2; have hfz13_3 := blk_frozen BK273.out 3))
      go_ret
      exact ⟨by first | rfl | (simp [errW_none, errW_some] <;> rfl) | (simp [*, errW_none, errW_some] <;> rfl), by repeat (first | (with_reducible first | exact HB.out | apply below_alloc | apply pw_below_drewN | apply below_drew1 | refine below_set ?_ GE273.out) | exact HB.out)⟩
  · rw [if_neg c2] at H
    have c2b0 : decide (1 ≤ a0_0) = false := decide_eq_false c2
    clear c2
    obtain rfl := Option.some.inj H
    go_enter Try.func45, Try.ntmps45
    go_wp2_with (first | ((with_reducible refine gate_dst (N := 1) rfl ?_); (try (refine gate_guard (by rfl) ?_; dsimp only)); refine box_event ?hg (N := 1) ?hd (cs := #[.int .i64 a0_0, .slice A0_1 l0_1.length c0_1, .int .i64 a0_2, .bool a0_3]) (t := 50) ?hr ?_; (case hd => rfl); (case hg => rfl); (case hr => first | (go_simp; done) | (go_simp; rfl)); intro gb273 hg w14 hbox hb; have n0_ := Aside0.mk (below_step (by repeat (first | (with_reducible first | exact HB.out | apply below_alloc | apply pw_below_drewN | apply below_drew1) | exact HB.out)) hb); have n1_ := Aside0.mk (hbox); have n2_ := Aside0.mk ((by rw [hg]; exact (below_size (by repeat (first | (with_reducible first | exact HB.out | apply below_alloc | apply pw_below_drewN | apply below_drew1) | exact HB.out))) : w.heap.size ≤ gb273)); have n3_ := Aside0.mk ((by rw [hg]; exact (below_size (by repeat (first | (with_reducible first | exact HB.out | apply below_alloc | apply pw_below_drewN | apply below_drew1) | exact HB.out))) : w.heap.size ≤ gb273)); clear HB; have HB := n0_; have BK273 := n1_; have GW273 := n2_; have GE273 := n3_; clear n0_ n1_ n2_ n3_; clear hb hbox hg; have hcz15_0 : w14.cell? ⟨gb273, 0, none⟩ = some (.int .i64 a0_0) := (blk_cell BK273.out 0).trans rfl; have hcz15_1 : w14.cell? ⟨gb273, 1, none⟩ = some (.slice A0_1 l0_1.length c0_1) := (blk_cell BK273.out 1).trans rfl; have hcz15_2 : w14.cell? ⟨gb273, 2, none⟩ = some (.int .i64 a0_2) := (blk_cell BK273.out 2).trans rfl; have hcz15_3 : w14.cell? ⟨gb273, 3, none⟩ = some (.bool a0_3) := (blk_cell BK273.out 3).trans rfl; have hfz15_0 := blk_frozen BK273.out 0; have hfz15_1 := blk_frozen BK273.out 1; have hfz15_2 := blk_frozen BK273.out 2; have hfz15_3 := blk_frozen BK273.out 3))
    go_ret
    exact ⟨by first | rfl | (simp [errW_none, errW_some] <;> rfl) | (simp [*, errW_none, errW_some] <;> rfl), by repeat (first | (with_reducible first | exact HB.out | apply below_alloc | apply pw_below_drewN | apply below_drew1 | refine below_set ?_ GE273.out) | exact HB.out)⟩
end Go.Proofs.Ytfcdaifaocgjfaa.Pr
end
