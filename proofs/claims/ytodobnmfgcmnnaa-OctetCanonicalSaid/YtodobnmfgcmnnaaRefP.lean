/- The reference's functions: what they answer, over numbers and lists. -/
import Derived.Test.YtodobnmfgcmnnaaPr13
import Derived.Test.YtodobnmfgcmnnaaPr14
import Derived.Test.YtodobnmfgcmnnaaOcB
import Derived.OpenShut
namespace Go.Proofs.Ytodobnmfgcmnnaa.Pure
open Go.RowKit Go.Proofs.Ytodobnmfgcmnnaa.Pr Go.Proofs.YtodobnmfgcmnnaaW.PrintWords Go.Proofs.YtodobnmfgcmnnaaW.PrintLast
theorem up {α : Type} {f : Nat → Option α} (h : ∀ k, LeO (f k) (f (k + 1))) {k : Nat} {r : α} (hk : f k = some r) : ∀ k', k ≤ k' → f k' = some r := by
  intro k' hle
  obtain ⟨e, rfl⟩ : ∃ e, k' = k + e := ⟨k' - k, by omega⟩
  clear hle
  induction e with
  | zero => exact hk
  | succ e ih => exact h _ _ ih
theorem w64 {n : Int} (h0 : -9223372036854775808 ≤ n) (h1 : n < 9223372036854775808) : wrap64 n = n := by unfold wrap64; omega
theorem ru64 (n : Nat) (h : n < 18446744073709551616) : IntKind.u64.wrap (n : Int) = n := by rw [IntKind.wrap_u64]; omega
theorem rd_get (l : List Int) (i : Nat) (h : i < l.length) : rd l (i : Int) = l[i] := by simp [rd, List.getD_eq_getElem?_getD, List.getElem?_eq_getElem h]
theorem wf_u8 {x : Int} (h : (Lit.int .u8 x).wf = true) : 0 ≤ x ∧ x < 256 := by
  have := bounds_u8 h
  omega
theorem wf_b {x : Int} (h : (Lit.int .u8 x).wf = true) : 0 ≤ x ∧ x < 256 := wf_u8 h
theorem okB_of (l : List Int) (h : ∀ x ∈ l, (Lit.int .u8 x).wf = true) : Oc.okB l = true := (Oc.okB_iff l).2 fun x hx => wf_u8 (h x hx)
theorem ok64_of {n : Int} (h : (Lit.int .i64 n).wf = true) : Oc.ok64 n = true := by
  have := bounds_i64 h
  simp only [Oc.ok64, Bool.and_eq_true, decide_eq_true_eq]
  omega
theorem tdiv_nat (a b : Nat) : Int.tdiv (a : Int) (b : Int) = ((a / b : Nat) : Int) := rfl
theorem tmod_nat (a b : Nat) : Int.tmod (a : Int) (b : Int) = ((a % b : Nat) : Int) := rfl
theorem put_loop : ∀ (k u : Nat) (out : List Int), (Oc.grp u).length ≤ k → out.length + k ≤ 100000000000000 → u < 18446744073709551616 → chalklineref01_PutInt.l0 k (u : Int) out = some (out ++ Oc.grp u) := by
  intro k
  induction k with
  | zero => intro u out h; have := Oc.grp_ne u; exact absurd (List.eq_nil_of_length_eq_zero (by omega)) this
  | succ k ih =>
    intro u out h h2 hu
    rw [chalklineref01_PutInt.l0]
    by_cases c : 127 < u
    · rw [Oc.grp_big u c, List.length_cons] at h
      rw [if_pos (by omega), if_pos (by omega), show (128 : Int) = ((128 : Nat) : Int) from rfl, tdiv_nat, tmod_nat, ru64 _ (by omega)]
      have e : IntKind.u64.wrap (((u % 128 : Nat) : Int) + ((128 : Nat) : Int)) % 256 = ((u % 128 + 128 : Nat) : Int) := by rw [IntKind.wrap_u64]; omega
      rw [e, ih (u / 128) _ (by omega) (by rw [List.length_append, List.length_singleton]; omega) (by omega), Oc.grp_big u c, List.append_assoc]
      rfl
    · rw [if_neg (by omega), if_pos (by omega), Oc.grp_small u (by omega)]
      congr 3
      omega
theorem refPut (l : List Int) (n : Int) (hn : Oc.ok64 n = true) (hl : l.length ≤ 10000000000000) : ∀ k, 11 ≤ k → chalklineref01_PutInt.f k l n = some (Oc.putI l n) := by
  have h64 := Oc.zz_lt n hn
  have h10 := Oc.grp_ten _ h64
  have hj : ∀ m : Int, m = ((Oc.zz n : Nat) : Int) → chalklineref01_PutInt.j0 11 l m = some (Oc.putI l n) := by
    rintro m rfl
    rw [chalklineref01_PutInt.j0, Option.bind_some, if_pos (by simp; omega), List.nil_append]
    exact put_loop 10 _ l h10 (by omega) h64
  refine up (f := fun k => chalklineref01_PutInt.f k l n) (chalklineref01_PutInt.mono l n) (k := 11) ?_
  simp only [Oc.ok64, Bool.and_eq_true, decide_eq_true_eq] at hn
  show chalklineref01_PutInt.f 11 l n = _
  unfold chalklineref01_PutInt.f
  by_cases c : n < 0
  · rw [if_pos c]
    refine hj _ ?_
    unfold Oc.zz
    rw [if_neg (by omega)]
    simp only [IntKind.wrap_u64]
    unfold wrap64
    omega
  · rw [if_neg c]
    refine hj _ ?_
    unfold Oc.zz
    rw [if_pos (by omega)]
    simp only [IntKind.wrap_u64]
    omega
theorem unzz_ref (U : Nat) (h : U < 18446744073709551616) :
    (if Int.tmod (U : Int) 2 = 1 then wrap64 ((wrap64 (-(wrap64 (IntKind.u64.wrap (Int.tdiv (U : Int) 2))))) - 1) else wrap64 (IntKind.u64.wrap (Int.tdiv (U : Int) 2))) = Oc.unzz U := by
  rw [show (2 : Int) = ((2 : Nat) : Int) from rfl, tdiv_nat, tmod_nat, ru64 _ (by omega)]
  unfold Oc.unzz
  by_cases c : U % 2 = 0
  · rw [if_neg (by omega), if_pos c, w64 (by omega) (by omega)]
  · rw [if_pos (by omega), if_neg c, w64 (n := ((U / 2 : Nat) : Int)) (by omega) (by omega), w64 (n := -((U / 2 : Nat) : Int)) (by omega) (by omega), w64 (by omega) (by omega)]
theorem get_loop (l : List Int) (a : Nat) (hb : Oc.okB l = true) (hl : l.length ≤ 1000000000000) : ∀ (n i un : Nat), i ≤ 9 → 10 - i ≤ n → a + i ≤ l.length → un < 128 ^ i →
    ∀ e, chalklineref01_GetInt.l0 (2 * n + e) l (a : Int) (un : Int) ((128 ^ i : Nat) : Int) (i : Int) = some (Oc.getL (l.drop (a + i)) (a : Int) i un) := by
  intro n
  induction n with
  | zero => intro i un h1 h2; omega
  | succ n ih =>
    intro i un h9 hn hi hu e
    rw [show 2 * (n + 1) + e = (2 * n + e + 1) + 1 by omega, chalklineref01_GetInt.l0, if_pos (by omega), w64 (by omega) (by omega)]
    by_cases c : a + i = l.length
    · rw [if_pos (by omega), c, List.drop_length]
      rfl
    rw [if_neg (by omega), if_pos (by omega), if_pos (by omega)]
    have hlt : a + i < l.length := by omega
    rw [show ((a : Int) + (i : Int)) = ((a + i : Nat) : Int) by omega, rd_get l (a + i) hlt, List.drop_eq_getElem_cons hlt]
    have hc := (Oc.okB_iff l).1 hb l[a + i] (List.getElem_mem hlt)
    generalize l[a + i] = c at hc
    rw [Oc.getL]
    have j11 : ∀ k, chalklineref01_GetInt.j2 (k + 1) l (a : Int) (un : Int) ((128 ^ i : Nat) : Int) (i : Int) c true = some (0, 0, 11) := fun k => by rw [chalklineref01_GetInt.j2, if_pos rfl]
    by_cases h1 : i = 9 ∧ 1 < c
    · rw [if_pos h1, if_pos (by omega), if_pos (by omega), j11]
    rw [if_neg h1]
    by_cases h2 : 0 < i ∧ c = 0
    · rw [if_pos h2]
      by_cases h3 : (i : Int) = 9
      · rw [if_pos h3, if_neg (by omega), if_pos h2.2, decide_eq_true (show (i : Int) > 0 by omega), j11]
      · rw [if_neg h3, if_pos h2.2, decide_eq_true (show (i : Int) > 0 by omega), j11]
    rw [if_neg h2]
    have hgl := Oc.group_lt un i c hu hc.1 hc.2 h9 h1
    have hU : IntKind.u64.wrap ((un : Int) + (IntKind.u64.wrap ((IntKind.u64.wrap (Int.tmod c 128)) * ((128 ^ i : Nat) : Int)))) = ((un + c.toNat % 128 * 128 ^ i : Nat) : Int) := by
      obtain ⟨m, rfl⟩ := Int.eq_ofNat_of_zero_le hc.1
      rw [show (128 : Int) = ((128 : Nat) : Int) from rfl, tmod_nat, ru64 _ (by omega), ← Int.natCast_mul, Int.toNat_natCast, ru64 _ (by have := hgl.1; rw [Int.toNat_natCast] at this; exact this), ← Int.natCast_add, ru64 _ (by have := hgl.2.1; rw [Int.toNat_natCast] at this; exact this)]
    have key : chalklineref01_GetInt.j2 (2 * n + e + 1) l (a : Int) (un : Int) ((128 ^ i : Nat) : Int) (i : Int) c false = some (if c < 128 then (Oc.unzz (un + c.toNat % 128 * 128 ^ i), (a : Int) + i + 1, 0) else Oc.getL (l.drop (a + i + 1)) (a : Int) (i + 1) (un + c.toNat % 128 * 128 ^ i)) := by
      rw [chalklineref01_GetInt.j2, if_neg (by simp), hU]
      by_cases h3 : c < 128
      · rw [if_pos h3, if_pos h3, ← unzz_ref _ hgl.2.1, w64 (n := (a : Int) + (i : Int)) (by omega) (by omega), w64 (n := (a : Int) + (i : Int) + 1) (by omega) (by omega)]
        split <;> rfl
      · rw [if_neg h3, if_neg h3]
        have hi8 : i ≤ 8 := by
          rcases Nat.lt_or_ge i 9 with h | h
          · omega
          · exact absurd ⟨show i = 9 by omega, show 1 < c by omega⟩ h1
        have hp := Oc.pow_le i hi8
        have ht : IntKind.u64.wrap (((128 ^ i : Nat) : Int) * 128) = ((128 ^ (i + 1) : Nat) : Int) := by
          rw [show (128 : Int) = ((128 : Nat) : Int) from rfl, ← Int.natCast_mul, ← Nat.pow_succ, ru64 _ (by omega)]
        rw [ht, w64 (n := (i : Int) + 1) (by omega) (by omega)]
        exact ih (i + 1) _ (by omega) (by omega) (by omega) (hgl.2.2 hi8) e
    by_cases h3 : (i : Int) = 9
    · rw [if_pos h3, if_neg (by omega)]
      by_cases h4 : c = 0
      · exact absurd ⟨by omega, h4⟩ h2
      · rw [if_neg h4]; exact key
    · rw [if_neg h3]
      by_cases h4 : c = 0
      · rw [if_pos h4, decide_eq_false (show ¬ (i : Int) > 0 by omega)]; exact key
      · rw [if_neg h4]; exact key
theorem refGet (l : List Int) (a : Int) (hb : Oc.okB l = true) (hl : l.length ≤ 1000000000000) : ∀ k, 21 ≤ k → chalklineref01_GetInt.f k l a = some (Oc.getI l a) := by
  refine up (f := fun k => chalklineref01_GetInt.f k l a) (chalklineref01_GetInt.mono l a) (k := 21) ?_
  show chalklineref01_GetInt.f 21 l a = _
  unfold chalklineref01_GetInt.f Oc.getI
  by_cases c : a < 0
  · rw [if_pos c, if_pos c, chalklineref01_GetInt.j0, if_pos rfl]
  rw [if_neg c, if_neg c]
  by_cases c1 : (l.length : Int) < a
  · rw [if_pos c1, decide_eq_true (show a > (l.length : Int) from c1), chalklineref01_GetInt.j0, if_pos rfl]
  rw [if_neg c1, decide_eq_false (show ¬ a > (l.length : Int) by omega), chalklineref01_GetInt.j0, if_neg (by simp)]
  obtain ⟨n, rfl⟩ := Int.eq_ofNat_of_zero_le (show 0 ≤ a by omega)
  exact get_loop l n hb hl 10 0 0 (by omega) (by omega) (by omega) (by simp) 0
end Go.Proofs.Ytodobnmfgcmnnaa.Pure
