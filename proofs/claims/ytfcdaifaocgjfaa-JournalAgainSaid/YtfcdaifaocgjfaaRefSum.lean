/- A part of the proof of JournalAgain; no condition. -/
import Derived.Test.YtfcdaifaocgjfaaPr28
import Derived.Test.YtfcdaifaocgjfaaTab
import Derived.OpenShut
namespace Go.Proofs.Ytfcdaifaocgjfaa.Pure
open Go.RowKit Go.Proofs.Ytfcdaifaocgjfaa.Pr Go.Proofs.YtfcdaifaocgjfaaW.PrintWords Go.Proofs.YtfcdaifaocgjfaaW.PrintLast
theorem wf_u8 {x : Int} (h : (Lit.int .u8 x).wf = true) : 0 ≤ x ∧ x < 256 := by
  have := bounds_u8 h
  omega
theorem wrap_one {i : Nat} (h : i < 9223372036854775807) : wrap64 ((i : Int) + 1) = ((i + 1 : Nat) : Int) := by unfold wrap64; omega
theorem refStep (n : Nat) (h : n < 4294967296) : chalklineref02_step.f (n : Int) = some ((Pl.step n : Nat) : Int) := by
  unfold chalklineref02_step.f Pl.step
  have e1 : Int.tmod (n : Int) 2 = ((n % 2 : Nat) : Int) := by rw [Int.tmod_eq_emod_of_nonneg (by omega)]; omega
  have e2 : Int.tdiv (n : Int) 2 % 4294967296 = ((n / 2 : Nat) : Int) := by rw [Int.tdiv_eq_ediv_of_nonneg (by omega)]; omega
  rw [e1, e2]
  rcases Nat.mod_two_eq_zero_or_one n with h2 | h2
  · rw [h2, if_neg (by omega), if_neg (by omega)]
  · rw [h2, if_pos (show ((1 : Nat) : Int) = 1 from rfl), if_pos rfl]
    rw [show (3988292384 : Int) = ((3988292384 : Nat) : Int) from rfl, Pr.u32_xor _ _ (by omega) (by omega)]
theorem refEight (l : List Int) (m i : Int) (j : Nat) : ∀ (d : Nat), j + d = 8 → ∀ (e n : Nat), n < 4294967296 →
    chalklineref02_Sum.l1 (e + d + 1) ((stepK j n : Nat) : Int) l m i (j : Int) = chalklineref02_Sum.l0 e ((stepK 8 n : Nat) : Int) l m (wrap64 (i + 1)) := by
  intro d
  induction d generalizing j with
  | zero =>
    intro hj e n hn
    obtain rfl : j = 8 := by omega
    simp only [chalklineref02_Sum.l1]
    rw [if_neg (by omega)]
  | succ d ih =>
    intro hj e n hn
    simp only [chalklineref02_Sum.l1]
    rw [if_pos (by omega), refStep _ (stepK_lt j n hn), Option.bind_some, wrap_one (by omega)]
    exact ih (j + 1) (by omega) e n hn
theorem refLoop (l : List Int) (hl : l.length < 9223372036854775807) (hb : ∀ x ∈ l, 0 ≤ x ∧ x < 256) : ∀ (d i : Nat), i + d = l.length → ∀ e,
    chalklineref02_Sum.l0 (10 * d + 1 + e) ((Pl.crc 4294967295 (l.take i) : Nat) : Int) l (l.length : Int) (i : Int) = some (Pl.sumI l) := by
  intro d
  induction d with
  | zero =>
    intro i hi e
    rw [show 10 * 0 + 1 + e = e + 1 by omega]
    simp only [chalklineref02_Sum.l0]
    rw [if_neg (by omega), List.take_of_length_le (by omega)]
    rw [show (4294967295 : Int) = ((4294967295 : Nat) : Int) from rfl, Pr.u32_xor _ _ (Pl.crc_lt _ _ (by omega)) (by omega)]
    rfl
  | succ d ih =>
    intro i hi e
    have hlt : i < l.length := by omega
    have hx := hb l[i] (List.getElem_mem hlt)
    rw [show 10 * (d + 1) + 1 + e = (10 * d + 1 + e + 8 + 1) + 1 by omega]
    simp only [chalklineref02_Sum.l0]
    have hrd : rd l (i : Int) = l[i] := by simp [rd, List.getD_eq_getElem?_getD, List.getElem?_eq_getElem hlt]
    have hc := Pl.crc_lt (l.take i) 4294967295 (by omega)
    rw [if_pos (by omega), if_pos (by omega), if_pos (by omega), hrd]
    rw [show l[i] % 4294967296 = (((l[i] % 256).toNat : Nat) : Int) by omega, Pr.u32_xor _ _ hc (by omega)]
    have h0 := refEight l (l.length : Int) (i : Int) 0 8 rfl (10 * d + 1 + e) (Pl.crc 4294967295 (l.take i) ^^^ (l[i] % 256).toNat) (Pl.xor_lt _ _ hc (by omega))
    rw [show (stepK 0 (Pl.crc 4294967295 (l.take i) ^^^ (l[i] % 256).toNat)) = (Pl.crc 4294967295 (l.take i) ^^^ (l[i] % 256).toNat) from rfl] at h0
    rw [show ((0 : Nat) : Int) = 0 from rfl] at h0
    rw [h0, stepK_8, wrap_one (by omega)]
    have := ih (i + 1) (by omega) e
    rw [List.take_succ_eq_append_getElem hlt, Pl.crc_append, Pl.crc_cons, Pl.crc_nil] at this
    exact this
theorem refSum (l : List Int) (hl : l.length < 9223372036854775807) (hb : ∀ x ∈ l, 0 ≤ x ∧ x < 256) (e : Nat) : chalklineref02_Sum.f (10 * l.length + 1 + e) l = some (Pl.sumI l) := by
  have := refLoop l hl hb l.length 0 (by omega) e
  rw [List.take_zero, Pl.crc_nil] at this
  exact this
theorem refSum_of (l : List Int) (hl : l.length < 9223372036854775807) (hb : ∀ x ∈ l, 0 ≤ x ∧ x < 256) (k : Nat) (hk : 10 * l.length + 1 ≤ k) : chalklineref02_Sum.f k l = some (Pl.sumI l) := by
  have := refSum l hl hb (k - (10 * l.length + 1))
  rwa [show 10 * l.length + 1 + (k - (10 * l.length + 1)) = k by omega] at this
end Go.Proofs.Ytfcdaifaocgjfaa.Pure
