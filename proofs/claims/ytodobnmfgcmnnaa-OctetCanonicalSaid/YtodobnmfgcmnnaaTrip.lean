/- Plain: what was encoded is decoded; a cut is too short; what is decoded was encoded. -/
import Derived.Test.YtodobnmfgcmnnaaOcB
namespace Go.Proofs.Ytodobnmfgcmnnaa.Oc
theorem getI_at (l : List Int) (a : Nat) (h : a ≤ l.length) : getI l a = getL (l.drop a) a 0 0 := by
  unfold getI
  rw [if_neg (by omega), if_neg (by omega), Int.toNat_natCast]
theorem pow_pos' (i : Nat) : 0 < 128 ^ i := Nat.pow_pos (by omega)
theorem getL_grp : ∀ (u i v : Nat) (rest : List Int) (a : Int), i ≤ 9 → v < 128 ^ i → v + u * 128 ^ i < 18446744073709551616 → (0 < i → 0 < u) →
    getL (grp u ++ rest) a i v = (unzz (v + u * 128 ^ i), a + i + (grp u).length, 0) := by
  intro u
  induction u using Nat.strongRecOn with
  | _ u ih =>
    intro i v rest a hi hv hlt h0
    have hp := pow_pos' i
    have h9 : i = 9 → u ≤ 1 := by rintro rfl; omega
    by_cases c : 127 < u
    · have hi8 : i ≤ 8 := by
        rcases Nat.lt_or_ge i 9 with h | h
        · omega
        · have := h9 (by omega); omega
      rw [grp_big u c, List.cons_append, getL, if_neg (by omega), if_neg (by omega), if_neg (by omega)]
      have e1 : (((u % 128 + 128 : Nat) : Int)).toNat % 128 = u % 128 := by omega
      have e2 : v + u % 128 * 128 ^ i + u / 128 * 128 ^ (i + 1) = v + u * 128 ^ i := by
        rw [Nat.pow_succ, Nat.mul_comm (128 ^ i) 128, ← Nat.mul_assoc, Nat.add_assoc, ← Nat.add_mul]
        congr 2
        omega
      have e3 : v + u % 128 * 128 ^ i < 128 ^ (i + 1) := by
        have : u % 128 * 128 ^ i ≤ 127 * 128 ^ i := Nat.mul_le_mul_right _ (by omega)
        rw [Nat.pow_succ]; omega
      rw [e1, ih (u / 128) (by omega) (i + 1) _ rest a (by omega) e3 (by rw [e2]; exact hlt) (fun _ => by omega), e2, List.length_cons]
      congr 2
      omega
    · rw [grp_small u (by omega), List.singleton_append, getL]
      rw [if_neg (by rintro ⟨h, h2⟩; have := h9 h; omega), if_neg (by rintro ⟨h, h2⟩; have := h0 h; omega), if_pos (by omega)]
      rw [show ((u : Nat) : Int).toNat % 128 = u by omega]
      rfl
theorem getI_grp (pre rest : List Int) (n : Int) (h : ok64 n = true) : getI (pre ++ (grp (zz n) ++ rest)) pre.length = (n, (pre.length : Int) + (grp (zz n)).length, 0) := by
  rw [getI_at _ _ (by rw [List.length_append]; omega), List.drop_left, getL_grp _ 0 0 rest _ (by omega) (by simp) (by have := zz_lt n h; simpa using this) (fun h => absurd h (by omega))]
  simp [unzz_zz]
theorem getL_cut : ∀ (j u i v : Nat) (a : Int), j < (grp u).length → i + (grp u).length ≤ 10 → getL ((grp u).take j) a i v = (0, 0, 10) := by
  intro j
  induction j with
  | zero => intro u i v a _ _; rfl
  | succ j ih =>
    intro u i v a hj hi
    by_cases c : 127 < u
    · have hne := grp_ne (u / 128)
      have hpos : 0 < (grp (u / 128)).length := List.length_pos_iff.2 hne
      rw [grp_big u c, List.length_cons] at hj hi
      rw [grp_big u c, List.take_succ_cons, getL, if_neg (by omega), if_neg (by omega), if_neg (by omega)]
      exact ih (u / 128) (i + 1) _ a (by omega) (by omega)
    · rw [grp_small u (by omega), List.length_singleton] at hj
      omega
theorem getI_cut (pre : List Int) (n : Int) (h : ok64 n = true) (j : Nat) (hj : j < (grp (zz n)).length) : getI (pre ++ (grp (zz n)).take j) pre.length = (0, 0, 10) := by
  rw [getI_at _ _ (by rw [List.length_append]; omega), List.drop_left]
  exact getL_cut j _ 0 0 _ hj (by have := grp_ten _ (zz_lt n h); omega)
/-- The bytes of integers in a row. -/
def C (xs : List Int) : List Int := (xs.map fun x => grp (zz x)).flatten
theorem C_nil : C [] = [] := rfl
theorem C_cons (x : Int) (xs : List Int) : C (x :: xs) = grp (zz x) ++ C xs := by simp [C]
theorem putI_C : ∀ (xs l : List Int), xs.foldl putI l = l ++ C xs := by
  intro xs
  induction xs with
  | nil => intro l; simp [C]
  | cons x xs ih => intro l; rw [List.foldl_cons, ih, C_cons, putI, List.append_assoc]
theorem putIs_C (l xs : List Int) : putIs l xs = l ++ grp (zz xs.length) ++ C xs := by rw [putIs, putI_C, putI]
theorem C_length (xs : List Int) : xs.length ≤ (C xs).length := by
  induction xs with
  | nil => simp [C]
  | cons x xs ih =>
    have := List.length_pos_iff.2 (grp_ne (zz x))
    rw [C_cons, List.length_append, List.length_cons]
    omega
theorem getN_all : ∀ (xs pre rest acc : List Int), (∀ x ∈ xs, ok64 x = true) → getN xs.length (pre ++ (C xs ++ rest)) pre.length acc = (acc ++ xs, (pre.length : Int) + (C xs).length, 0) := by
  intro xs
  induction xs with
  | nil => intro pre rest acc _; simp [getN, C]
  | cons x xs ih =>
    intro pre rest acc hx
    have hg := getI_grp pre (C xs ++ rest) x (hx x List.mem_cons_self)
    rw [List.length_cons, getN, C_cons, List.append_assoc, hg, if_pos rfl]
    have e : pre ++ (grp (zz x) ++ (C xs ++ rest)) = (pre ++ grp (zz x)) ++ (C xs ++ rest) := by rw [List.append_assoc]
    have h := ih (pre ++ grp (zz x)) rest (acc ++ [x]) (fun y hy => hx y (List.mem_cons_of_mem _ hy))
    rw [List.length_append] at h
    dsimp only
    rw [e, show ((pre.length : Int) + ((grp (zz x)).length : Int)) = ((pre.length + (grp (zz x)).length : Nat) : Int) by omega, h, List.length_append, List.append_assoc]
    simp only [List.singleton_append, Prod.mk.injEq, true_and, and_true]
    omega
theorem getN_cut : ∀ (xs pre acc : List Int) (j : Nat), (∀ x ∈ xs, ok64 x = true) → j < (C xs).length → getN xs.length (pre ++ (C xs).take j) pre.length acc = ([], 0, 10) := by
  intro xs
  induction xs with
  | nil => intro pre acc j _ hj; exact absurd hj (by simp [C])
  | cons x xs ih =>
    intro pre acc j hx hj
    have hxo := hx x List.mem_cons_self
    rw [C_cons, List.length_append] at hj
    rw [List.length_cons, getN, C_cons, List.take_append]
    rcases Nat.lt_or_ge j (grp (zz x)).length with h | h
    · rw [show j - (grp (zz x)).length = 0 by omega, List.take_zero, List.append_nil, getI_cut pre x hxo j h, if_neg (by simp)]
    · rw [List.take_of_length_le h, getI_grp pre _ x hxo, if_pos rfl]
      have h2 := ih (pre ++ grp (zz x)) (acc ++ [x]) (j - (grp (zz x)).length) (fun y hy => hx y (List.mem_cons_of_mem _ hy)) (by omega)
      rw [List.length_append] at h2
      dsimp only
      rw [← List.append_assoc, show ((pre.length : Int) + ((grp (zz x)).length : Int)) = ((pre.length + (grp (zz x)).length : Nat) : Int) by omega]
      exact h2
theorem getIs_all (pre rest xs : List Int) (most : Int) (hx : ∀ x ∈ xs, ok64 x = true) (hl : xs.length ≤ 1000000000000) (hm : (xs.length : Int) ≤ most) :
    getIs (pre ++ (grp (zz xs.length) ++ (C xs ++ rest))) pre.length most = (xs, (pre.length : Int) + (grp (zz xs.length)).length + (C xs).length, 0) := by
  have h64 : ok64 (xs.length : Int) = true := by simp [ok64]; omega
  unfold getIs
  rw [getI_grp pre _ _ h64, if_neg (by simp)]
  dsimp only
  rw [if_neg (by omega), if_neg (by omega), Int.toNat_natCast]
  have h := getN_all xs (pre ++ grp (zz xs.length)) rest [] hx
  rw [List.length_append, List.append_assoc, List.nil_append] at h
  rw [show ((pre.length : Int) + ((grp (zz xs.length)).length : Int)) = ((pre.length + (grp (zz xs.length)).length : Nat) : Int) by omega, h]
theorem getIs_cut (xs : List Int) (hx : ∀ x ∈ xs, ok64 x = true) (hl : xs.length ≤ 1000000000000) (j : Nat) (hj : j < (putIs [] xs).length) : getIs ((putIs [] xs).take j) 0 (xs.length : Int) = ([], 0, 10) := by
  have h64 : ok64 (xs.length : Int) = true := by simp [ok64]; omega
  rw [putIs_C, List.nil_append, List.length_append] at hj
  rw [putIs_C, List.nil_append, List.take_append]
  unfold getIs
  rcases Nat.lt_or_ge j (grp (zz xs.length)).length with h | h
  · have := getI_cut [] (xs.length : Int) h64 j h
    rw [show j - (grp (zz (xs.length : Int))).length = 0 by omega, List.take_zero, List.append_nil]
    rw [List.nil_append] at this
    have this' : getI ((grp (zz (xs.length : Int))).take j) 0 = (0, 0, 10) := this
    rw [this', if_pos (by simp)]
  · have := getI_grp [] ((C xs).take (j - (grp (zz (xs.length : Int))).length)) (xs.length : Int) h64
    rw [List.nil_append] at this
    rw [List.take_of_length_le h]
    have this' : getI (grp (zz (xs.length : Int)) ++ (C xs).take (j - (grp (zz (xs.length : Int))).length)) 0 = ((xs.length : Int), 0 + ((grp (zz (xs.length : Int))).length : Int), 0) := this
    rw [this', if_neg (by simp)]
    dsimp only
    rw [if_neg (by omega), if_neg (by omega), Int.toNat_natCast, Int.zero_add]
    have h2 := getN_cut xs (grp (zz xs.length)) [] (j - (grp (zz (xs.length : Int))).length) hx (by omega)
    exact h2
theorem getT_all (pre rest bs : List Int) (most : Int) (hl : bs.length ≤ 1000000000000) (hm : (bs.length : Int) ≤ most) :
    getT (pre ++ (grp (zz bs.length) ++ (bs ++ rest))) pre.length most = (bs, (pre.length : Int) + (grp (zz bs.length)).length + bs.length, 0) := by
  have h64 : ok64 (bs.length : Int) = true := by simp [ok64]; omega
  unfold getT
  rw [getI_grp pre _ _ h64, if_neg (by simp)]
  dsimp only
  rw [if_neg (by omega), if_neg (by omega), if_neg (by simp only [List.length_append]; omega), Int.toNat_natCast]
  rw [show ((pre.length : Int) + ((grp (zz bs.length)).length : Int)).toNat = (pre ++ grp (zz bs.length)).length by rw [List.length_append]; omega, ← List.append_assoc, List.drop_left, List.take_left]
theorem getT_cut (bs : List Int) (hl : bs.length ≤ 1000000000000) (j : Nat) (hj : j < (putI [] bs.length ++ bs).length) : getT ((putI [] bs.length ++ bs).take j) 0 (bs.length : Int) = ([], 0, 10) := by
  have h64 : ok64 (bs.length : Int) = true := by simp [ok64]; omega
  rw [putI, List.nil_append, List.length_append] at hj
  rw [putI, List.nil_append, List.take_append]
  unfold getT
  rcases Nat.lt_or_ge j (grp (zz bs.length)).length with h | h
  · have := getI_cut [] (bs.length : Int) h64 j h
    rw [show j - (grp (zz (bs.length : Int))).length = 0 by omega, List.take_zero, List.append_nil]
    rw [List.nil_append] at this
    have this' : getI ((grp (zz (bs.length : Int))).take j) 0 = (0, 0, 10) := this
    rw [this', if_pos (by simp)]
  · have := getI_grp [] (bs.take (j - (grp (zz (bs.length : Int))).length)) (bs.length : Int) h64
    rw [List.nil_append] at this
    rw [List.take_of_length_le h]
    have this' : getI (grp (zz (bs.length : Int)) ++ bs.take (j - (grp (zz (bs.length : Int))).length)) 0 = ((bs.length : Int), 0 + ((grp (zz (bs.length : Int))).length : Int), 0) := this
    rw [this', if_neg (by simp)]
    dsimp only
    rw [if_neg (by omega), if_neg (by omega), if_pos (by simp only [List.length_append, List.length_take]; omega)]
/-- What was decoded is an encoding. -/
theorem getL_inv : ∀ (l : List Int) (i v : Nat) (a : Int), okB l = true → i ≤ 9 → v < 128 ^ i → (getL l a i v).2.2 = 0 →
    ∃ u, (getL l a i v).2.1 = a + i + (grp u).length ∧ l.take (grp u).length = grp u ∧ (getL l a i v).1 = unzz (v + u * 128 ^ i) ∧ v + u * 128 ^ i < 18446744073709551616 ∧ (0 < i → 0 < u) := by
  intro l
  induction l with
  | nil => intro i v a _ _ _ h; simp [getL] at h
  | cons c t ih =>
    intro i v a hb hi hv h
    have hc := (okB_iff _).1 hb c List.mem_cons_self
    have hbt : okB t = true := (okB_iff _).2 fun x hx => (okB_iff _).1 hb x (List.mem_cons_of_mem _ hx)
    rw [getL] at h ⊢
    by_cases h1 : i = 9 ∧ 1 < c
    · rw [if_pos h1] at h; simp at h
    rw [if_neg h1] at h ⊢
    by_cases h2 : 0 < i ∧ c = 0
    · rw [if_pos h2] at h; simp at h
    rw [if_neg h2] at h ⊢
    have hg := group_lt v i c hv hc.1 hc.2 hi h1
    by_cases h3 : c < 128
    · rw [if_pos h3]
      have e : c.toNat % 128 = c.toNat := by omega
      rw [e] at hg ⊢
      have hs := grp_small c.toNat (by omega)
      refine ⟨c.toNat, by rw [hs]; rfl, ?_, rfl, hg.2.1, fun h => by omega⟩
      rw [hs, List.length_singleton, List.take_succ_cons, List.take_zero]
      congr 1
      omega
    · rw [if_neg h3] at h ⊢
      have hi8 : i ≤ 8 := by
        rcases Nat.lt_or_ge i 9 with h | h
        · omega
        · exact absurd ⟨show i = 9 by omega, show 1 < c by omega⟩ h1
      obtain ⟨u, e1, e2, e3, e4, e5⟩ := ih (i + 1) _ a hbt (by omega) (hg.2.2 hi8) h
      have hu := e5 (by omega)
      have hB : 127 < u * 128 + c.toNat % 128 := by omega
      have hgrp : grp (u * 128 + c.toNat % 128) = c :: grp u := by
        rw [grp_big _ hB]
        congr 1
        · omega
        · congr 1; omega
      have e6 : v + c.toNat % 128 * 128 ^ i + u * 128 ^ (i + 1) = v + (u * 128 + c.toNat % 128) * 128 ^ i := by
        rw [Nat.pow_succ, Nat.mul_comm (128 ^ i) 128, ← Nat.mul_assoc, Nat.add_assoc, ← Nat.add_mul, Nat.add_comm (c.toNat % 128)]
      refine ⟨u * 128 + c.toNat % 128, ?_, ?_, ?_, ?_, fun _ => by omega⟩
      · rw [e1, hgrp, List.length_cons]; omega
      · rw [hgrp, List.length_cons, List.take_succ_cons, e2]
      · rw [e3, e6]
      · rw [← e6]; exact e4
theorem getI_inv (l : List Int) (a : Int) (hb : okB l = true) (h : (getI l a).2.2 = 0) : ∃ m : Nat, a = m ∧ (getI l a).2.1 = a + (grp (zz (getI l a).1)).length ∧ m + (grp (zz (getI l a).1)).length ≤ l.length ∧ (l.drop m).take (grp (zz (getI l a).1)).length = grp (zz (getI l a).1) ∧ ok64 (getI l a).1 = true := by
  obtain ⟨h0, _, h1⟩ := getI_next l a h
  obtain ⟨m, rfl⟩ := Int.eq_ofNat_of_zero_le h0
  have hm : m ≤ l.length := by omega
  rw [getI_at l m hm] at h h1 ⊢
  obtain ⟨u, e1, e2, e3, e4, _⟩ := getL_inv (l.drop m) 0 0 m (okB_drop l m hb) (by omega) (by simp) h
  simp only [Nat.pow_zero, Nat.mul_one, Nat.zero_add] at e3 e4
  rw [e3, zz_unzz]
  refine ⟨m, rfl, by rw [e1]; omega, by rw [e1] at h1; omega, e2, ?_⟩
  simp only [ok64, Bool.and_eq_true, decide_eq_true_eq]
  unfold unzz
  split <;> omega
end Go.Proofs.Ytodobnmfgcmnnaa.Oc
