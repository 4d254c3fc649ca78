/- Plain: four big-endian bytes and their number. -/
import Derived.Test.YtkmpjdccogolkaaPl
namespace Go.Proofs.Ytkmpjdccogolkaa.Pl
def bytes (l : List Int) : Prop := ∀ x ∈ l, 0 ≤ x ∧ x < 256
theorem bytes_take {l : List Int} (h : bytes l) (n : Nat) : bytes (l.take n) := fun x hx => h x (List.mem_of_mem_take hx)
theorem bytes_drop {l : List Int} (h : bytes l) (n : Nat) : bytes (l.drop n) := fun x hx => h x (List.mem_of_mem_drop hx)
theorem bytes_append {l m : List Int} (h : bytes l) (k : bytes m) : bytes (l ++ m) := fun x hx => (List.mem_append.1 hx).elim (h x) (k x)
theorem bytes_be4 (n : Int) : bytes (be4 n) := by
  intro x hx
  simp only [be4, List.mem_cons, List.not_mem_nil, or_false] at hx
  rcases hx with rfl | rfl | rfl | rfl <;> omega
theorem or_add (n y : Nat) (hy : y < 256) : n * 256 ||| y = n * 256 + y := by
  have h := Nat.shiftLeft_add_eq_or_of_lt (i := 8) (b := y) (by omega) n
  rw [Nat.shiftLeft_eq] at h
  exact h.symm
theorem get4_cons (a b c d : Int) (t : List Int) (ha : 0 ≤ a ∧ a < 256) (hb : 0 ≤ b ∧ b < 256) (hc : 0 ≤ c ∧ c < 256) (hd : 0 ≤ d ∧ d < 256) :
    ((get4 (a :: b :: c :: d :: t) : Nat) : Int) = ((a * 256 + b) * 256 + c) * 256 + d := by
  have e : get4 (a :: b :: c :: d :: t) = (((((((0 * 256 % 4294967296) ||| (a % 4294967296).toNat) * 256 % 4294967296) ||| (b % 4294967296).toNat) * 256 % 4294967296) ||| (c % 4294967296).toNat) * 256 % 4294967296) ||| (d % 4294967296).toNat := rfl
  rw [e]
  rw [show (0 * 256 % 4294967296) ||| (a % 4294967296).toNat = a.toNat by rw [Nat.zero_mul, Nat.zero_mod, Nat.zero_or]; omega]
  rw [show (a.toNat * 256 % 4294967296) = a.toNat * 256 by omega, or_add _ _ (by omega)]
  rw [show ((a.toNat * 256 + (b % 4294967296).toNat) * 256 % 4294967296) = (a.toNat * 256 + (b % 4294967296).toNat) * 256 by omega, or_add _ _ (by omega)]
  rw [show (((a.toNat * 256 + (b % 4294967296).toNat) * 256 + (c % 4294967296).toNat) * 256 % 4294967296) = ((a.toNat * 256 + (b % 4294967296).toNat) * 256 + (c % 4294967296).toNat) * 256 by omega, or_add _ _ (by omega)]
  omega
theorem get4_be4 (n : Int) (h0 : 0 ≤ n) (h1 : n < 4294967296) (t : List Int) : ((get4 (be4 n ++ t) : Nat) : Int) = n := by
  unfold be4
  rw [List.cons_append, List.cons_append, List.cons_append, List.cons_append, List.nil_append, get4_cons _ _ _ _ _ (by omega) (by omega) (by omega) (by omega)]
  omega
theorem four_of_length (l : List Int) (h : 4 ≤ l.length) : ∃ a b c d t, l = a :: b :: c :: d :: t := by
  match l, h with
  | a :: b :: c :: d :: t, _ => exact ⟨a, b, c, d, t, rfl⟩
/-- A list of bytes that begins with a number's four bytes. -/
theorem be4_get4 (l : List Int) (hb : bytes l) (h : 4 ≤ l.length) : be4 (get4 l : Nat) = l.take 4 := by
  obtain ⟨a, b, c, d, t, rfl⟩ := four_of_length l h
  have ha := hb a (by simp)
  have hb' := hb b (by simp)
  have hc := hb c (by simp)
  have hd := hb d (by simp)
  unfold be4
  rw [get4_cons a b c d t ha hb' hc hd]
  simp only [List.take_succ_cons, List.take_zero]
  congr 1
  · omega
  congr 1
  · omega
  congr 1
  · omega
  congr 1
  omega
theorem get4_take (l : List Int) (n : Nat) (h : 4 ≤ n) : get4 (l.take n) = get4 l := by
  unfold get4
  rw [List.take_take, Nat.min_eq_left h]
end Go.Proofs.Ytkmpjdccogolkaa.Pl
