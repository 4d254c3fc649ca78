/- Plain: the checksum and the frames, over numbers and lists; no program in sight. -/
namespace Go.Proofs.Ytkmpjdccogolkaa.Pl
def step (n : Nat) : Nat := if n % 2 = 1 then (n / 2) ^^^ 3988292384 else n / 2
def st8 (n : Nat) : Nat := step (step (step (step (step (step (step (step n)))))))
def crc (n : Nat) (l : List Int) : Nat := l.foldl (fun n x => st8 (n ^^^ (x % 256).toNat)) n
def sumI (l : List Int) : Int := ((crc 4294967295 l ^^^ 4294967295 : Nat) : Int)
def be4 (n : Int) : List Int := [n / 16777216 % 256, n / 65536 % 256, n / 256 % 256, n % 256]
def frameI (l : List Int) : List Int := be4 l.length ++ be4 (sumI l) ++ l

/-- The first four bytes, big-endian, as the program reads them. -/
def get4 (l : List Int) : Nat := (l.take 4).foldl (fun n x => (n * 256 % 4294967296) ||| (x % 4294967296).toNat) 0
def openI (l : List Int) (at_ : Int) : List Int × Int × Int :=
  if at_ < 0 then ([], 0, 1) else if (l.length : Int) < at_ then ([], 0, 1) else
  if (l.drop at_.toNat).length < 8 then ([], 0, 10) else
  if 65536 < get4 (l.drop at_.toNat) then ([], 0, 11) else
  if (l.drop at_.toNat).length - 8 < get4 (l.drop at_.toNat) then ([], 0, 10) else
  if sumI (((l.drop at_.toNat).drop 8).take (get4 (l.drop at_.toNat))) = get4 ((l.drop at_.toNat).drop 4) then
    (((l.drop at_.toNat).drop 8).take (get4 (l.drop at_.toNat)), at_ + 8 + get4 (l.drop at_.toNat), 0)
  else ([], 0, 20)

def scanF : Nat → List Int → Int → List (List Int) → List (List Int) × Int
  | 0, _, at_, acc => (acc, at_)
  | k + 1, l, at_, acc => if (openI l at_).2.2 = 0 then scanF k l (openI l at_).2.1 (acc ++ [(openI l at_).1]) else (acc, at_)
def scanI (l : List Int) : List (List Int) × Int := scanF (l.length + 1) l 0 []

theorem crc_nil (n : Nat) : crc n [] = n := rfl
theorem crc_cons (n : Nat) (x : Int) (l : List Int) : crc n (x :: l) = crc (st8 (n ^^^ (x % 256).toNat)) l := rfl
theorem crc_append (n : Nat) (l m : List Int) : crc n (l ++ m) = crc (crc n l) m := by simp [crc, List.foldl_append]
theorem step_lt (n : Nat) (h : n < 4294967296) : step n < 4294967296 := by
  unfold step
  split
  · exact Nat.xor_lt_two_pow (n := 32) (by omega) (by omega)
  · omega
theorem st8_lt (n : Nat) (h : n < 4294967296) : st8 n < 4294967296 := by
  unfold st8
  exact step_lt _ (step_lt _ (step_lt _ (step_lt _ (step_lt _ (step_lt _ (step_lt _ (step_lt _ h)))))))
theorem xor_lt (a b : Nat) (ha : a < 4294967296) (hb : b < 4294967296) : a ^^^ b < 4294967296 := Nat.xor_lt_two_pow (n := 32) ha hb
theorem crc_lt (l : List Int) : ∀ n, n < 4294967296 → crc n l < 4294967296 := by
  induction l with
  | nil => intro n h; exact h
  | cons x l ih => intro n h; rw [crc_cons]; exact ih _ (st8_lt _ (xor_lt _ _ h (by omega)))
theorem sumI_range (l : List Int) : 0 ≤ sumI l ∧ sumI l < 4294967296 := by
  have := xor_lt _ 4294967295 (crc_lt l 4294967295 (by omega)) (by omega)
  unfold sumI
  omega

/-! ### the step is linear -/
theorem xor_div2 (a b : Nat) : (a ^^^ b) / 2 = (a / 2) ^^^ (b / 2) := by
  apply Nat.eq_of_testBit_eq
  intro i
  rw [Nat.testBit_xor, Nat.testBit_div_two, Nat.testBit_div_two, Nat.testBit_div_two, Nat.testBit_xor]
theorem xor_mod2 (a b : Nat) : (a ^^^ b) % 2 = (a % 2 + b % 2) % 2 := by
  have h : (a ^^^ b) % 2 ^ 1 = (a % 2 ^ 1) ^^^ (b % 2 ^ 1) := Nat.xor_mod_two_pow
  rw [Nat.pow_one] at h
  rw [h]
  rcases Nat.mod_two_eq_zero_or_one a with ha | ha <;> rcases Nat.mod_two_eq_zero_or_one b with hb | hb <;> rw [ha, hb] <;> rfl
theorem step_xor (a b : Nat) : step (a ^^^ b) = step a ^^^ step b := by
  unfold step
  rw [xor_div2]
  have h := xor_mod2 a b
  rcases Nat.mod_two_eq_zero_or_one a with ha | ha <;> rcases Nat.mod_two_eq_zero_or_one b with hb | hb <;> rw [ha, hb] at h
  · rw [if_neg (by omega), if_neg (by omega), if_neg (by omega)]
  · rw [if_pos (by omega), if_neg (by omega), if_pos (by omega), Nat.xor_assoc]
  · rw [if_pos (by omega), if_pos (by omega), if_neg (by omega), Nat.xor_assoc, Nat.xor_assoc, Nat.xor_comm 3988292384]
  · rw [if_neg (by omega), if_pos (by omega), if_pos (by omega), Nat.xor_assoc (a / 2), ← Nat.xor_assoc 3988292384, Nat.xor_comm 3988292384 (b / 2), Nat.xor_assoc (b / 2), Nat.xor_self, Nat.xor_zero]
theorem st8_xor (a b : Nat) : st8 (a ^^^ b) = st8 a ^^^ st8 b := by
  unfold st8
  simp only [step_xor]
theorem step_double (a : Nat) : step (2 * a) = a := by
  unfold step
  rw [if_neg (by omega)]
  omega
theorem st8_256 (a : Nat) : st8 (256 * a) = a := by
  unfold st8
  rw [show 256 * a = 2 * (2 * (2 * (2 * (2 * (2 * (2 * (2 * a))))))) by omega]
  simp only [step_double]
theorem split256 (n : Nat) : n = (n % 256) ^^^ (256 * (n / 256)) := by
  apply Nat.eq_of_testBit_eq
  intro i
  rw [show (256 : Nat) = 2 ^ 8 from rfl, Nat.testBit_xor, Nat.testBit_mod_two_pow, Nat.testBit_two_pow_mul, Nat.testBit_div_two_pow]
  by_cases h : i < 8
  · rw [decide_eq_true h, decide_eq_false (show ¬ i ≥ 8 by omega)]
    simp
  · rw [decide_eq_false h, decide_eq_true (show i ≥ 8 by omega), show i - 8 + 8 = i by omega]
    simp
/-- A byte at once, by the table. -/
theorem st8_table (n y : Nat) : st8 ((n % 256) ^^^ y) ^^^ (n / 256) = st8 (n ^^^ y) := by
  have h := split256 n
  have e : n ^^^ y = ((n % 256) ^^^ y) ^^^ (256 * (n / 256)) := by
    rw [Nat.xor_assoc, Nat.xor_comm y, ← Nat.xor_assoc, ← h]
  rw [e, st8_xor _ (256 * (n / 256)), st8_256]
theorem or_lt (a b : Nat) (ha : a < 4294967296) (hb : b < 4294967296) : a ||| b < 4294967296 := Nat.or_lt_two_pow (n := 32) ha hb
theorem get4_lt (l : List Int) : get4 l < 4294967296 := by
  unfold get4
  have key : ∀ (m : List Int) (n : Nat), n < 4294967296 → m.foldl (fun n x => (n * 256 % 4294967296) ||| (x % 4294967296).toNat) n < 4294967296 := by
    intro m
    induction m with
    | nil => intro n h; exact h
    | cons x m ih => intro n _; exact ih _ (or_lt _ _ (by omega) (by omega))
  exact key _ 0 (by omega)
end Go.Proofs.Ytkmpjdccogolkaa.Pl
