/- SealThree: the checksum of the XOR of three slices of equal length is the XOR of their checksums; every three byte slices; no condition. -/
import Derived.Test.YtkmpjdccogolkaaRefSum
import Derived.Test.YtkmpjdccogolkaaBurst
import Derived.Test.YtkmpjdccogolkaaPr16
namespace Go.Proofs.Ytkmpjdccogolkaa.Pure
open Go.RowKit Go.Proofs.Ytkmpjdccogolkaa.Pr Go.Proofs.YtkmpjdccogolkaaW.PrintWords Go.Proofs.YtkmpjdccogolkaaW.PrintLast
theorem xor8 (x y : Int) (hx : 0 ≤ x ∧ x < 256) (hy : 0 ≤ y ∧ y < 256) : Go.bits .xor .u8 x y = ((x.toNat ^^^ y.toNat : Nat) : Int) := by
  have h := u8_xor_any x.toNat y
  rw [show ((x.toNat : Int) % 256) = x by omega, Nat.mod_eq_of_lt (show x.toNat < 256 by omega), show (y % 256).toNat = y.toNat by omega] at h
  exact h
theorem xor3_snoc : ∀ (l m n : List Int) (a b c : Int), m.length = l.length → n.length = l.length → Pl.xor3 (l ++ [a]) (m ++ [b]) (n ++ [c]) = Pl.xor3 l m n ++ [((a.toNat ^^^ b.toNat ^^^ c.toNat : Nat) : Int)]
  | [], [], [], a, b, c, _, _ => rfl
  | x :: l, y :: m, z :: n, a, b, c, h1, h2 => by
    simp only [List.cons_append, Pl.xor3]
    rw [xor3_snoc l m n a b c (by simpa using h1) (by simpa using h2)]
  | [], _ :: _, _, _, _, _, h1, _ => by simp at h1
  | [], [], _ :: _, _, _, _, _, h2 => by simp at h2
  | _ :: _, [], _, _, _, _, h1, _ => by simp at h1
  | _ :: _, _ :: _, [], _, _, _, _, h2 => by simp at h2
theorem xor3_length : ∀ (l m n : List Int), m.length = l.length → n.length = l.length → (Pl.xor3 l m n).length = l.length
  | [], [], [], _, _ => rfl
  | x :: l, y :: m, z :: n, h1, h2 => by
    simp only [Pl.xor3, List.length_cons]
    rw [xor3_length l m n (by simpa using h1) (by simpa using h2)]
  | [], _ :: _, _, h1, _ => by simp at h1
  | [], [], _ :: _, _, h2 => by simp at h2
  | _ :: _, [], _, h1, _ => by simp at h1
  | _ :: _, _ :: _, [], _, h2 => by simp at h2
theorem rd_take (l : List Int) (i : Nat) (h : i < l.length) : rd l (i : Int) = l[i] := by simp [rd, List.getD_eq_getElem?_getD, List.getElem?_eq_getElem h]
theorem three_loop (l0 l1 l2 : List Int) (h0 : Pl.bytes l0) (h1 : Pl.bytes l1) (h2 : Pl.bytes l2) (n : Nat) (hn : n ≤ 2000) (a0 : n ≤ l0.length) (a1 : n ≤ l1.length) (a2 : n ≤ l2.length) : ∀ (d i : Nat), i + d = n → ∀ e,
    chalklinelaw02_SealThree.l0 (d + 1 + e) l0 l1 l2 (n : Int) (Pl.xor3 (l0.take i) (l1.take i) (l2.take i)) (n : Int) (i : Int) = some true := by
  intro d
  induction d with
  | zero =>
    intro i hi e
    obtain rfl : i = n := by omega
    rw [show 0 + 1 + e = e + 1 by omega]
    simp only [chalklinelaw02_SealThree.l0]
    have t0 : (l0.take i).length = i := by rw [List.length_take]; omega
    have t1 : (l1.take i).length = i := by rw [List.length_take]; omega
    have t2 : (l2.take i).length = i := by rw [List.length_take]; omega
    have hs := Pl.sum_xor3 (l0.take i) (l1.take i) (l2.take i) (Pl.bytes_take h0 _) (Pl.bytes_take h1 _) (Pl.bytes_take h2 _) (by rw [t0, t1]) (by rw [t0, t2])
    have r0 := Pl.sumI_range (l0.take i)
    have r1 := Pl.sumI_range (l1.take i)
    have r2 := Pl.sumI_range (l2.take i)
    have r3 := Pl.sumI_range (Pl.xor3 (l0.take i) (l1.take i) (l2.take i))
    have sm : ∀ l, seal_Sum.f l = some (Pl.sumI l) := fun _ => rfl
    have q0 : (0 : Int) ≤ (i : Int) := Int.natCast_nonneg i
    have q1 : (i : Int) ≤ (l0.length : Int) := by omega
    have q2 : (i : Int) ≤ (l1.length : Int) := by omega
    have q3 : (i : Int) ≤ (l2.length : Int) := by omega
    rw [if_neg (by omega), sm, Option.bind_some, if_pos q0, if_pos q1, sm, Option.bind_some, if_pos q2, sm, Option.bind_some, if_pos q3, sm, Option.bind_some, Int.toNat_natCast]
    generalize Pl.sumI (Pl.xor3 (l0.take i) (l1.take i) (l2.take i)) = s at *
    generalize Pl.sumI (l0.take i) = x at *
    generalize Pl.sumI (l1.take i) = y at *
    generalize Pl.sumI (l2.take i) = z at *
    have e1 : Go.bits .xor .u32 x y = ((x.toNat ^^^ y.toNat : Nat) : Int) := by
      have := Pr.u32_xor x.toNat y.toNat (by omega) (by omega)
      rwa [show ((x.toNat : Nat) : Int) = x by omega, show ((y.toNat : Nat) : Int) = y by omega] at this
    have hxy := Pl.xor_lt x.toNat y.toNat (by omega) (by omega)
    have e2 : Go.bits .xor .u32 ((x.toNat ^^^ y.toNat : Nat) : Int) z = ((x.toNat ^^^ y.toNat ^^^ z.toNat : Nat) : Int) := by
      have := Pr.u32_xor (x.toNat ^^^ y.toNat) z.toNat hxy (by omega)
      rwa [show ((z.toNat : Nat) : Int) = z by omega] at this
    rw [e1, e2, ← hs, show ((s.toNat : Nat) : Int) = s by omega]
    simp
  | succ d ih =>
    intro i hi e
    rw [show d + 1 + 1 + e = (d + 1 + e) + 1 by omega]
    simp only [chalklinelaw02_SealThree.l0]
    have t0 : (l0.take i).length = i := by rw [List.length_take]; omega
    have t1 : (l1.take i).length = i := by rw [List.length_take]; omega
    have t2 : (l2.take i).length = i := by rw [List.length_take]; omega
    have b0 := h0 _ (List.getElem_mem (show i < l0.length by omega))
    have b1 := h1 _ (List.getElem_mem (show i < l1.length by omega))
    have b2 := h2 _ (List.getElem_mem (show i < l2.length by omega))
    have hx := Pl.xor_byte (a := l0[i].toNat) (b := l1[i].toNat) (by omega) (by omega)
    have hl3 := xor3_length (l0.take i) (l1.take i) (l2.take i) (by rw [t0, t1]) (by rw [t0, t2])
    rw [if_pos (by omega), if_pos (by omega), if_pos (by omega), if_pos (by omega), if_pos (by omega), if_pos (by rw [hl3, t0]; omega)]
    rw [rd_take l0 i (by omega), rd_take l1 i (by omega), rd_take l2 i (by omega), xor8 _ _ b0 b1, xor8 _ _ (by omega) b2, Int.toNat_natCast, wrap_one (by omega)]
    have h := ih (i + 1) (by omega) e
    rw [List.take_succ_eq_append_getElem (by omega : i < l0.length), List.take_succ_eq_append_getElem (by omega : i < l1.length), List.take_succ_eq_append_getElem (by omega : i < l2.length), xor3_snoc _ _ _ _ _ _ (by rw [t0, t1]) (by rw [t0, t2])] at h
    exact h
theorem SealThree : chalklinelaw02_SealThree.Pure := by
  intro l0 l1 l2 _ _ h0 _ _ h1 _ _ h2
  have b0 : Pl.bytes l0 := fun x hx => wf_u8 (h0 x hx)
  have b1 : Pl.bytes l1 := fun x hx => wf_u8 (h1 x hx)
  have b2 : Pl.bytes l2 := fun x hx => wf_u8 (h2 x hx)
  obtain ⟨n, hn, a0, a1, a2⟩ : ∃ n : Nat, mn (mn (l0.length : Int) (l1.length : Int)) (l2.length : Int) = n ∧ n ≤ l0.length ∧ n ≤ l1.length ∧ n ≤ l2.length := by
    refine ⟨(mn (mn (l0.length : Int) (l1.length : Int)) (l2.length : Int)).toNat, ?_, ?_, ?_, ?_⟩
    all_goals (unfold mn; repeat' split) <;> omega
  refine ⟨n + 1, ?_⟩
  unfold chalklinelaw02_SealThree.f chalklinelaw02_live.f
  rw [hn]
  simp only [Option.bind_some, if_true]
  by_cases h : (n : Int) > 2000
  · rw [if_pos h]
  · rw [if_neg h]
    exact three_loop l0 l1 l2 b0 b1 b2 n (by omega) a0 a1 a2 n 0 (by omega) 0
end Go.Proofs.Ytkmpjdccogolkaa.Pure
