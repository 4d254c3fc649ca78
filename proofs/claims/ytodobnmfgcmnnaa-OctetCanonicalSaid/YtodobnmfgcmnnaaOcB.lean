/- Numbers: the program's bit operations on varints, as numbers. -/
import Derived.Test.YtodobnmfgcmnnaaPr0
import Derived.Test.YtodobnmfgcmnnaaOc
namespace Go.Proofs.Ytodobnmfgcmnnaa.Oc
open Go.RowKit Go.Proofs.YtodobnmfgcmnnaaW.PrintWords Go.Proofs.YtodobnmfgcmnnaaW.PrintLast Go.Proofs.YtodobnmfgcmnnaaW.PrintMore
theorem ofNat64 (a : Nat) (ha : a < 18446744073709551616) : (BitVec.ofInt 64 (a : Int)).toNat = a := by
  rw [BitVec.ofInt_natCast, BitVec.toNat_ofNat]; exact Nat.mod_eq_of_lt (by omega)
theorem u64_or_nat (a b : Nat) (ha : a < 18446744073709551616) (hb : b < 18446744073709551616) : Go.bits .or .u64 (a : Int) (b : Int) = ((a ||| b : Nat) : Int) := by
  have hx : a ||| b < 2 ^ 64 := Nat.or_lt_two_pow (by omega) (by omega)
  show IntKind.u64.wrap ((BitVec.ofInt 64 (a : Int) ||| BitVec.ofInt 64 (b : Int)).toNat : Int) = _
  rw [BitVec.toNat_or, ofNat64 a ha, ofNat64 b hb, IntKind.wrap_u64]
  omega
theorem u64_and_one (a : Nat) (ha : a < 18446744073709551616) : Go.bits .and .u64 (a : Int) 1 = ((a % 2 : Nat) : Int) := by
  show IntKind.u64.wrap ((BitVec.ofInt 64 (a : Int) &&& BitVec.ofInt 64 ((1 : Nat) : Int)).toNat : Int) = _
  rw [BitVec.toNat_and, ofNat64 a ha, ofNat64 1 (by omega), Nat.and_one_is_mod, IntKind.wrap_u64]
  omega
theorem u8_and_127 (c : Int) (h0 : 0 ≤ c) (h1 : c < 256) : Go.bits .and .u8 c 127 = c % 128 := by
  obtain ⟨n, rfl⟩ := Int.eq_ofNat_of_zero_le h0
  show IntKind.u8.wrap ((BitVec.ofInt 8 (n : Int) &&& BitVec.ofInt 8 ((127 : Nat) : Int)).toNat : Int) = _
  have e1 : (BitVec.ofInt 8 (n : Int)).toNat = n := by rw [BitVec.ofInt_natCast, BitVec.toNat_ofNat]; exact Nat.mod_eq_of_lt (by omega)
  have e2 : (BitVec.ofInt 8 ((127 : Nat) : Int)).toNat = 2 ^ 7 - 1 := by decide
  rw [BitVec.toNat_and, e1, e2, Nat.and_two_pow_sub_one_eq_mod, IntKind.wrap_u8]
  omega
theorem i64_xor_zero (x : Int) (h0 : 0 ≤ x) (h1 : x < 9223372036854775808) : Go.bits .xor .i64 x 0 = x := by
  obtain ⟨n, rfl⟩ := Int.eq_ofNat_of_zero_le h0
  show IntKind.i64.wrap ((BitVec.ofInt 64 (n : Int) ^^^ BitVec.ofInt 64 ((0 : Nat) : Int)).toNat : Int) = _
  rw [BitVec.toNat_xor, ofNat64 n (by omega), ofNat64 0 (by omega), Nat.xor_zero]
  exact (IntKind.wrap_i64 _).trans (by omega)
theorem i64_xor_ones (x : Int) (h0 : 0 ≤ x) (h1 : x < 9223372036854775808) : Go.bits .xor .i64 x (-1) = -x - 1 := by
  obtain ⟨n, rfl⟩ := Int.eq_ofNat_of_zero_le h0
  have e : BitVec.ofInt 64 (-1) = BitVec.allOnes 64 := by decide
  show IntKind.i64.wrap ((BitVec.ofInt 64 (n : Int) ^^^ BitVec.ofInt 64 (-1)).toNat : Int) = _
  rw [e, BitVec.xor_allOnes, BitVec.toNat_not, ofNat64 n (by omega)]
  exact (IntKind.wrap_i64 _).trans (by omega)
theorem unzz_bits (u : Nat) (h : u < 18446744073709551616) : Go.bits .xor .i64 (wrap64 ((u : Int) / 2)) (wrap64 (-wrap64 (Go.bits .and .u64 (u : Int) 1))) = unzz u := by
  rw [u64_and_one u h]
  have e : wrap64 ((u : Int) / 2) = ((u / 2 : Nat) : Int) := by unfold wrap64; omega
  rw [e]
  unfold unzz
  rcases Nat.mod_two_eq_zero_or_one u with h2 | h2
  · rw [h2, if_pos rfl, show wrap64 (-wrap64 ((0 : Nat) : Int)) = 0 by unfold wrap64; omega, i64_xor_zero _ (by omega) (by omega)]
  · rw [h2, if_neg (by omega), show wrap64 (-wrap64 ((1 : Nat) : Int)) = -1 by unfold wrap64; omega, i64_xor_ones _ (by omega) (by omega)]
theorem pow7 (k : Nat) : (2 : Nat) ^ (7 * k) = 128 ^ k := by rw [Nat.pow_mul]
theorem pow_le (k : Nat) (h : k ≤ 8) : 128 ^ (k + 1) ≤ 9223372036854775808 := by
  have := Nat.pow_le_pow_right (show 1 ≤ 128 by omega) (show k + 1 ≤ 9 by omega)
  omega
/-- One more group, put in its place. -/
theorem group_lt (un k : Nat) (c : Int) (hu : un < 128 ^ k) (h0 : 0 ≤ c) (h1 : c < 256) (hk : k ≤ 9) (h9 : ¬ (k = 9 ∧ 1 < c)) : c.toNat % 128 * 128 ^ k < 18446744073709551616 ∧ un + c.toNat % 128 * 128 ^ k < 18446744073709551616 ∧ (k ≤ 8 → un + c.toNat % 128 * 128 ^ k < 128 ^ (k + 1)) := by
  rcases Nat.lt_or_ge k 9 with h | h
  · have hp := pow_le k (by omega)
    have hm : c.toNat % 128 * 128 ^ k ≤ 127 * 128 ^ k := Nat.mul_le_mul_right _ (by omega)
    rw [Nat.pow_succ] at hp ⊢
    refine ⟨by omega, by omega, fun _ => by omega⟩
  · obtain rfl : k = 9 := by omega
    have hd : c.toNat % 128 ≤ 1 := by omega
    have hm : c.toNat % 128 * 128 ^ 9 ≤ 1 * 128 ^ 9 := Nat.mul_le_mul_right _ hd
    refine ⟨by omega, by omega, fun h => by omega⟩
theorem group_or (un k : Nat) (c : Int) (hu : un < 128 ^ k) (h0 : 0 ≤ c) (h1 : c < 256) (hk : k ≤ 9) (h9 : ¬ (k = 9 ∧ 1 < c)) :
    Go.bits .or .u64 (un : Int) (IntKind.u64.wrap (c % 128 * 2 ^ (7 * k))) = ((un + c.toNat % 128 * 128 ^ k : Nat) : Int) := by
  have hl := group_lt un k c hu h0 h1 hk h9
  have e : c % 128 * 2 ^ (7 * k) = ((c.toNat % 128 * 128 ^ k : Nat) : Int) := by
    rw [← pow7 k, Int.natCast_mul, Int.natCast_pow]
    congr 1
    omega
  have ew : IntKind.u64.wrap (c % 128 * 2 ^ (7 * k)) = ((c.toNat % 128 * 128 ^ k : Nat) : Int) := by rw [e, IntKind.wrap_u64]; omega
  have hu64 : un < 18446744073709551616 := by omega
  rw [ew, u64_or_nat _ _ hu64 hl.1]
  congr 1
  have := Nat.two_pow_add_eq_or_of_lt (i := 7 * k) (b := un) (by rw [pow7]; exact hu) (c.toNat % 128)
  rw [pow7] at this
  rw [Nat.or_comm, Nat.mul_comm, ← this]
  omega
end Go.Proofs.Ytodobnmfgcmnnaa.Oc
