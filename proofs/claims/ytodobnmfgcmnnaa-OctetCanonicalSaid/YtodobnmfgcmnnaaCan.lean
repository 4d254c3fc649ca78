/- Plain: an integer, a text and a list that were decoded out of bytes: their encoding lies there. -/
import Derived.Test.YtodobnmfgcmnnaaByteP
namespace Go.Proofs.Ytodobnmfgcmnnaa.Pure
open Go.RowKit Go.Proofs.Ytodobnmfgcmnnaa.Pr Go.Proofs.YtodobnmfgcmnnaaW.PrintWords Go.Proofs.YtodobnmfgcmnnaaW.PrintLast
theorem getI_zero (l : List Int) (a : Int) (h : (Oc.getI l a).2.2 ≠ 0) : (Oc.getI l a).1 = 0 ∧ (Oc.getI l a).2.1 = 0 := by
  have hL : ∀ (t : List Int) (i u : Nat), (Oc.getL t a i u).2.2 ≠ 0 → (Oc.getL t a i u).1 = 0 ∧ (Oc.getL t a i u).2.1 = 0 := by
    intro t
    induction t with
    | nil => intro i u _; exact ⟨rfl, rfl⟩
    | cons c t ih =>
      intro i u h
      rw [Oc.getL] at h ⊢
      by_cases h1 : i = 9 ∧ 1 < c
      · rw [if_pos h1]; exact ⟨rfl, rfl⟩
      rw [if_neg h1] at h ⊢
      by_cases h2 : 0 < i ∧ c = 0
      · rw [if_pos h2]; exact ⟨rfl, rfl⟩
      rw [if_neg h2] at h ⊢
      by_cases h3 : c < 128
      · rw [if_pos h3] at h; exact absurd rfl h
      · rw [if_neg h3] at h ⊢; exact ih _ _ h
  unfold Oc.getI at h ⊢
  by_cases h1 : a < 0
  · rw [if_pos h1]; exact ⟨rfl, rfl⟩
  rw [if_neg h1] at h ⊢
  by_cases h2 : (l.length : Int) < a
  · rw [if_pos h2]; exact ⟨rfl, rfl⟩
  rw [if_neg h2] at h ⊢
  exact hL _ _ _ h
theorem getT_zero (l : List Int) (a m : Int) (h : (Oc.getT l a m).2.2 ≠ 0) : (Oc.getT l a m).1 = [] ∧ (Oc.getT l a m).2.1 = 0 := by
  unfold Oc.getT at h ⊢
  by_cases h1 : (Oc.getI l a).2.2 ≠ 0
  · rw [if_pos h1]; exact ⟨rfl, rfl⟩
  rw [if_neg h1] at h ⊢
  by_cases h2 : (Oc.getI l a).1 < 0
  · rw [if_pos h2]; exact ⟨rfl, rfl⟩
  rw [if_neg h2] at h ⊢
  by_cases h3 : m < (Oc.getI l a).1
  · rw [if_pos h3]; exact ⟨rfl, rfl⟩
  rw [if_neg h3] at h ⊢
  by_cases h4 : (l.length : Int) - (Oc.getI l a).2.1 < (Oc.getI l a).1
  · rw [if_pos h4]; exact ⟨rfl, rfl⟩
  rw [if_neg h4] at h ⊢
  exact absurd rfl h
theorem getN_zero (l : List Int) : ∀ (n : Nat) (a : Int) (acc : List Int), (Oc.getN n l a acc).2.2 ≠ 0 → (Oc.getN n l a acc).1 = [] ∧ (Oc.getN n l a acc).2.1 = 0 := by
  intro n
  induction n with
  | zero => intro a acc h; exact absurd rfl h
  | succ n ih =>
    intro a acc h
    rw [Oc.getN] at h ⊢
    by_cases h1 : (Oc.getI l a).2.2 = 0
    · rw [if_pos h1] at h ⊢; exact ih _ _ h
    · rw [if_neg h1]; exact ⟨rfl, rfl⟩
theorem getIs_zero (l : List Int) (a m : Int) (h : (Oc.getIs l a m).2.2 ≠ 0) : (Oc.getIs l a m).1 = [] ∧ (Oc.getIs l a m).2.1 = 0 := by
  unfold Oc.getIs at h ⊢
  by_cases h1 : (Oc.getI l a).2.2 ≠ 0
  · rw [if_pos h1]; exact ⟨rfl, rfl⟩
  rw [if_neg h1] at h ⊢
  by_cases h2 : (Oc.getI l a).1 < 0
  · rw [if_pos h2]; exact ⟨rfl, rfl⟩
  rw [if_neg h2] at h ⊢
  by_cases h3 : m < (Oc.getI l a).1
  · rw [if_pos h3]; exact ⟨rfl, rfl⟩
  rw [if_neg h3] at h ⊢
  exact getN_zero l _ _ _ h
theorem getI_can (l : List Int) (a : Int) (hb : Oc.okB l = true) (h : (Oc.getI l a).2.2 = 0) : ∃ m j : Nat, a = m ∧ (Oc.getI l a).2.1 = ((m + j : Nat) : Int) ∧ 1 ≤ j ∧ j ≤ 10 ∧ m + j ≤ l.length ∧ (l.drop m).take j = Oc.putI [] (Oc.getI l a).1 ∧ Oc.ok64 (Oc.getI l a).1 = true := by
  obtain ⟨m, h0, h1, h2, h3, h4⟩ := Oc.getI_inv l a hb h
  have hp := List.length_pos_iff.2 (Oc.grp_ne (Oc.zz (Oc.getI l a).1))
  have ht := Oc.grp_ten _ (Oc.zz_lt _ h4)
  exact ⟨m, _, h0, by rw [h1, h0]; omega, hp, ht, h2, h3, h4⟩
theorem getT_can (l : List Int) (a most : Int) (hb : Oc.okB l = true) (h : (Oc.getT l a most).2.2 = 0) : (Oc.getI l a).2.2 = 0 ∧ ∃ m k : Nat, a = m ∧ (Oc.getT l a most).2.1 = ((m + k : Nat) : Int) ∧ (Oc.getI l a).2.1 ≤ ((m + k : Nat) : Int) ∧ m + k ≤ l.length ∧ ((Oc.getT l a most).1.length : Int) ≤ most ∧
    (l.drop m).take k = Oc.putI [] ((Oc.getT l a most).1.length : Int) ++ (Oc.getT l a most).1 ∧ Oc.okB (Oc.getT l a most).1 = true := by
  unfold Oc.getT at h ⊢
  by_cases h1 : (Oc.getI l a).2.2 ≠ 0
  · rw [if_pos h1] at h; exact absurd h h1
  rw [if_neg h1] at h ⊢
  by_cases h2 : (Oc.getI l a).1 < 0
  · rw [if_pos h2] at h; exact absurd h (by simp)
  rw [if_neg h2] at h ⊢
  by_cases h3 : most < (Oc.getI l a).1
  · rw [if_pos h3] at h; exact absurd h (by simp)
  rw [if_neg h3] at h ⊢
  by_cases h4 : (l.length : Int) - (Oc.getI l a).2.1 < (Oc.getI l a).1
  · rw [if_pos h4] at h; exact absurd h (by simp)
  rw [if_neg h4]
  have h1' : (Oc.getI l a).2.2 = 0 := by omega
  obtain ⟨m, j, e0, e1, e2, e3, e4, e5, e6⟩ := getI_can l a hb h1'
  obtain ⟨n, hn⟩ := Int.eq_ofNat_of_zero_le (Int.not_lt.1 h2)
  dsimp only
  rw [hn] at h3 h4 e5 ⊢
  rw [e1] at h4 ⊢
  rw [Int.toNat_natCast, Int.toNat_natCast]
  have hl : ((l.drop (m + j)).take n).length = n := by rw [List.length_take, List.length_drop]; omega
  rw [hl]
  refine ⟨h1', m, j + n, e0, by omega, by omega, by omega, by omega, ?_, okB_take _ _ (Oc.okB_drop l _ hb)⟩
  rw [List.take_add, List.drop_drop, e5]
theorem getN_can (l : List Int) (hb : Oc.okB l = true) : ∀ (n p : Nat) (acc : List Int), p ≤ l.length → (Oc.getN n l p acc).2.2 = 0 → ∃ (xs : List Int) (q : Nat), xs.length = n ∧ (Oc.getN n l p acc).1 = acc ++ xs ∧ (Oc.getN n l p acc).2.1 = ((p + q : Nat) : Int) ∧ p + q ≤ l.length ∧ (l.drop p).take q = Oc.C xs ∧ ∀ x ∈ xs, Oc.ok64 x = true := by
  intro n
  induction n with
  | zero => intro p acc hp _; exact ⟨[], 0, rfl, by simp [Oc.getN], by simp [Oc.getN], by omega, by simp [Oc.C], by simp⟩
  | succ n ih =>
    intro p acc hp h
    rw [Oc.getN] at h ⊢
    by_cases h1 : (Oc.getI l p).2.2 = 0
    · rw [if_pos h1] at h ⊢
      obtain ⟨m, j, e0, e1, e2, e3, e4, e5, e6⟩ := getI_can l p hb h1
      obtain rfl : p = m := by omega
      rw [e1] at h ⊢
      obtain ⟨xs, q, f1, f2, f3, f4, f5, f6⟩ := ih (p + j) _ e4 h
      refine ⟨(Oc.getI l p).1 :: xs, j + q, by rw [List.length_cons, f1], by rw [f2, List.append_assoc]; rfl, by rw [f3]; congr 1; omega, by omega, ?_, ?_⟩
      · rw [List.take_add, List.drop_drop, e5, f5, Oc.C_cons]; rfl
      · intro x hx
        rcases List.mem_cons.1 hx with rfl | hx
        · exact e6
        · exact f6 x hx
    · rw [if_neg h1] at h; exact absurd h h1
theorem getIs_can (l : List Int) (a most : Int) (hb : Oc.okB l = true) (h : (Oc.getIs l a most).2.2 = 0) : (Oc.getI l a).2.2 = 0 ∧ ∃ m k : Nat, a = m ∧ (Oc.getIs l a most).2.1 = ((m + k : Nat) : Int) ∧ (Oc.getI l a).2.1 ≤ ((m + k : Nat) : Int) ∧ m + k ≤ l.length ∧ ((Oc.getIs l a most).1.length : Int) ≤ most ∧
    (l.drop m).take k = Oc.putIs [] (Oc.getIs l a most).1 ∧ (Oc.getIs l a most).1.length ≤ l.length ∧ ∀ x ∈ (Oc.getIs l a most).1, Oc.ok64 x = true := by
  unfold Oc.getIs at h ⊢
  by_cases h1 : (Oc.getI l a).2.2 ≠ 0
  · rw [if_pos h1] at h; exact absurd h h1
  rw [if_neg h1] at h ⊢
  by_cases h2 : (Oc.getI l a).1 < 0
  · rw [if_pos h2] at h; exact absurd h (by simp)
  rw [if_neg h2] at h ⊢
  by_cases h3 : most < (Oc.getI l a).1
  · rw [if_pos h3] at h; exact absurd h (by simp)
  rw [if_neg h3] at h ⊢
  have h1' : (Oc.getI l a).2.2 = 0 := by omega
  obtain ⟨m, j, e0, e1, e2, e3, e4, e5, e6⟩ := getI_can l a hb h1'
  obtain ⟨n, hn⟩ := Int.eq_ofNat_of_zero_le (Int.not_lt.1 h2)
  rw [hn] at h3 h e5 ⊢
  rw [e1] at h ⊢
  rw [Int.toNat_natCast] at h ⊢
  obtain ⟨xs, q, f1, f2, f3, f4, f5, f6⟩ := getN_can l hb n (m + j) [] e4 h
  rw [f2, f3, List.nil_append]
  have hc := Oc.C_length xs
  have hq : (Oc.C xs).length ≤ l.length := by rw [← f5, List.length_take, List.length_drop]; omega
  refine ⟨h1', m, j + q, e0, by congr 1; omega, by omega, by omega, by omega, ?_, by omega, f6⟩
  rw [List.take_add, List.drop_drop, e5, f5, Oc.putIs_C, f1]; rfl
theorem bytes_str (l : List Int) (hb : Oc.okB l = true) : bytesOf (strOfNums l) = l := by
  have h := (Oc.okB_iff l).1 hb
  unfold bytesOf strOfNums
  simp only [List.map_map]
  conv => rhs; rw [← List.map_id l]
  apply List.map_congr_left
  intro x hx
  have := h x hx
  simp
  omega
theorem canI (l : List Int) (a : Int) (hb : Oc.okB l = true) (he : (Oc.getI l a).2.2 = 0) : ∃ (n i : Int) (t : List Int), Oc.getI l a = (n, i, 0) ∧ 0 ≤ a ∧ a < i ∧ i ≤ a + 10 ∧ i ≤ l.length ∧ octet_PutInt.f [] n = some t ∧ (l.drop a.toNat).take (i - a).toNat = t := by
  obtain ⟨m, j, e0, e1, e2, e3, e4, e5, e6⟩ := getI_can l a hb he
  subst e0
  refine ⟨(Oc.getI l (m : Int)).1, (Oc.getI l (m : Int)).2.1, Oc.putI [] (Oc.getI l (m : Int)).1, Prod.ext rfl (Prod.ext rfl he), by omega, by rw [e1]; omega, by rw [e1]; omega, by rw [e1]; omega, octPut [] _ e6 (by simp), ?_⟩
  rw [e1, Int.toNat_natCast, show ((m + j : Nat) : Int) - (m : Int) = (j : Int) by omega, Int.toNat_natCast, e5]
theorem canT (l : List Int) (a most : Int) (hb : Oc.okB l = true) (hl : l.length ≤ 3000) (he : (Oc.getT l a most).2.2 = 0) : ∃ (s : ByteArray) (k : Int) (t : List Int), octet_GetText.f l a most = some (s, k, 0) ∧ 0 ≤ a ∧ a ≤ k ∧ (Oc.getI l a).2.1 ≤ k ∧ k ≤ l.length ∧ s.size ≤ most ∧ octet_PutText.f [] s = some t ∧ (l.drop a.toNat).take (k - a).toNat = t := by
  obtain ⟨_, m, k, e0, e1, e2, e3, e4, e5, e6⟩ := getT_can l a most hb he
  subst e0
  have hs : (strOfNums (Oc.getT l (m : Int) most).1).size = (Oc.getT l (m : Int) most).1.length := by rw [← bytesOf_length, bytes_str _ e6]
  have hk : (Oc.getT l (m : Int) most).1.length ≤ 3000 := by
    have h := congrArg List.length e5
    rw [List.length_append, List.length_take, List.length_drop] at h
    omega
  refine ⟨strOfNums (Oc.getT l (m : Int) most).1, (Oc.getT l (m : Int) most).2.1, putT [] (strOfNums (Oc.getT l (m : Int) most).1), by rw [octText l _ most hb, he], by omega, by rw [e1]; omega, by rw [e1]; omega, by rw [e1]; omega, by rw [hs]; omega, octPutT [] _ (by simp) (by omega), ?_⟩
  rw [e1, Int.toNat_natCast, show ((m + k : Nat) : Int) - (m : Int) = (k : Int) by omega, Int.toNat_natCast, e5]
  unfold putT
  rw [hs, bytes_str _ e6]
theorem canS (l : List Int) (a most : Int) (hb : Oc.okB l = true) (hl : l.length ≤ 3000) (he : (Oc.getIs l a most).2.2 = 0) : ∃ (s : List Int) (k : Int) (t : List Int), octet_GetInts.f l a most = some (s, k, 0) ∧ 0 ≤ a ∧ a ≤ k ∧ (Oc.getI l a).2.1 ≤ k ∧ k ≤ l.length ∧ s.length ≤ most ∧ octet_PutInts.f [] s = some t ∧ (l.drop a.toNat).take (k - a).toNat = t := by
  obtain ⟨_, m, k, e0, e1, e2, e3, e4, e5, e6, e7⟩ := getIs_can l a most hb he
  subst e0
  refine ⟨(Oc.getIs l (m : Int) most).1, (Oc.getIs l (m : Int) most).2.1, Oc.putIs [] (Oc.getIs l (m : Int) most).1, by rw [octInts l _ most hb (by omega)]; exact congrArg some (Prod.ext rfl (Prod.ext rfl he)), by omega, by rw [e1]; omega, by rw [e1]; omega, by rw [e1]; omega, e4, octPuts [] _ e7 (by simp) (by omega), ?_⟩
  rw [e1, Int.toNat_natCast, show ((m + k : Nat) : Int) - (m : Int) = (k : Int) by omega, Int.toNat_natCast, e5]
end Go.Proofs.Ytodobnmfgcmnnaa.Pure
