/- The plain side of the walks, over numbers and lists; no condition. -/

section
namespace Go.Proofs.Ytfcdaifaocgjfaa.Pl
def step (n : Nat) : Nat := if n % 2 = 1 then (n / 2) ^^^ 3988292384 else n / 2
def st8 (n : Nat) : Nat := step (step (step (step (step (step (step (step n)))))))
def crc (n : Nat) (l : List Int) : Nat := l.foldl (fun n x => st8 (n ^^^ (x % 256).toNat)) n
def sumI (l : List Int) : Int := ((crc 4294967295 l ^^^ 4294967295 : Nat) : Int)
def be4 (n : Int) : List Int := [n / 16777216 % 256, n / 65536 % 256, n / 256 % 256, n % 256]
def frameI (l : List Int) : List Int := be4 l.length ++ be4 (sumI l) ++ l
/-- The first four bytes, big-endian, as the program reads them. -/
def get4 (l : List Int) : Nat := (l.take 4).foldl (fun n x => (n * 256 % 4294967296) ||| (x % 4294967296).toNat) 0
def openI (l : List Int) (at_ : Int) : List Int × Int × Int :=
  if at_ < 0 then ([], 0, 1) else if (l.length : Int) < at_ then ([], 0, 1) else
  if (l.drop at_.toNat).length < 8 then ([], 0, 10) else
  if 65536 < get4 (l.drop at_.toNat) then ([], 0, 11) else
  if (l.drop at_.toNat).length - 8 < get4 (l.drop at_.toNat) then ([], 0, 10) else
  if sumI (((l.drop at_.toNat).drop 8).take (get4 (l.drop at_.toNat))) = get4 ((l.drop at_.toNat).drop 4) then
    (((l.drop at_.toNat).drop 8).take (get4 (l.drop at_.toNat)), at_ + 8 + get4 (l.drop at_.toNat), 0)
  else ([], 0, 20)
def scanF : Nat → List Int → Int → List (List Int) → List (List Int) × Int
  | 0, _, at_, acc => (acc, at_)
  | k + 1, l, at_, acc => if (openI l at_).2.2 = 0 then scanF k l (openI l at_).2.1 (acc ++ [(openI l at_).1]) else (acc, at_)
def scanI (l : List Int) : List (List Int) × Int := scanF (l.length + 1) l 0 []
theorem crc_nil (n : Nat) : crc n [] = n := rfl
theorem crc_cons (n : Nat) (x : Int) (l : List Int) : crc n (x :: l) = crc (st8 (n ^^^ (x % 256).toNat)) l := rfl
theorem crc_append (n : Nat) (l m : List Int) : crc n (l ++ m) = crc (crc n l) m := by simp [crc, List.foldl_append]
theorem step_lt (n : Nat) (h : n < 4294967296) : step n < 4294967296 := by
  unfold step
  split
  · exact Nat.xor_lt_two_pow (n := 32) (by omega) (by omega)
  · omega
theorem st8_lt (n : Nat) (h : n < 4294967296) : st8 n < 4294967296 := by
  unfold st8
  exact step_lt _ (step_lt _ (step_lt _ (step_lt _ (step_lt _ (step_lt _ (step_lt _ (step_lt _ h)))))))
theorem xor_lt (a b : Nat) (ha : a < 4294967296) (hb : b < 4294967296) : a ^^^ b < 4294967296 := Nat.xor_lt_two_pow (n := 32) ha hb
theorem crc_lt (l : List Int) : ∀ n, n < 4294967296 → crc n l < 4294967296 := by
  induction l with
  | nil => intro n h; exact h
  | cons x l ih => intro n h; rw [crc_cons]; exact ih _ (st8_lt _ (xor_lt _ _ h (by omega)))
theorem sumI_range (l : List Int) : 0 ≤ sumI l ∧ sumI l < 4294967296 := by
  have := xor_lt _ 4294967295 (crc_lt l 4294967295 (by omega)) (by omega)
  unfold sumI
  omega
theorem xor_div2 (a b : Nat) : (a ^^^ b) / 2 = (a / 2) ^^^ (b / 2) := by
  apply Nat.eq_of_testBit_eq
  intro i
  rw [Nat.testBit_xor, Nat.testBit_div_two, Nat.testBit_div_two, Nat.testBit_div_two, Nat.testBit_xor]
theorem xor_mod2 (a b : Nat) : (a ^^^ b) % 2 = (a % 2 + b % 2) % 2 := by
  have h : (a ^^^ b) % 2 ^ 1 = (a % 2 ^ 1) ^^^ (b % 2 ^ 1) := Nat.xor_mod_two_pow
  rw [Nat.pow_one] at h
  rw [h]
  rcases Nat.mod_two_eq_zero_or_one a with ha | ha <;> rcases Nat.mod_two_eq_zero_or_one b with hb | hb <;> rw [ha, hb] <;> rfl
theorem step_xor (a b : Nat) : step (a ^^^ b) = step a ^^^ step b := by
  unfold step
  rw [xor_div2]
  have h := xor_mod2 a b
  rcases Nat.mod_two_eq_zero_or_one a with ha | ha <;> rcases Nat.mod_two_eq_zero_or_one b with hb | hb <;> rw [ha, hb] at h
  · rw [if_neg (by omega), if_neg (by omega), if_neg (by omega)]
  · rw [if_pos (by omega), if_neg (by omega), if_pos (by omega), Nat.xor_assoc]
  · rw [if_pos (by omega), if_pos (by omega), if_neg (by omega), Nat.xor_assoc, Nat.xor_assoc, Nat.xor_comm 3988292384]
  · rw [if_neg (by omega), if_pos (by omega), if_pos (by omega), Nat.xor_assoc (a / 2), ← Nat.xor_assoc 3988292384, Nat.xor_comm 3988292384 (b / 2), Nat.xor_assoc (b / 2), Nat.xor_self, Nat.xor_zero]
theorem st8_xor (a b : Nat) : st8 (a ^^^ b) = st8 a ^^^ st8 b := by
  unfold st8
  simp only [step_xor]
theorem step_double (a : Nat) : step (2 * a) = a := by
  unfold step
  rw [if_neg (by omega)]
  omega
theorem st8_256 (a : Nat) : st8 (256 * a) = a := by
  unfold st8
  rw [show 256 * a = 2 * (2 * (2 * (2 * (2 * (2 * (2 * (2 * a))))))) by omega]
  simp only [step_double]
theorem split256 (n : Nat) : n = (n % 256) ^^^ (256 * (n / 256)) := by
  apply Nat.eq_of_testBit_eq
  intro i
  rw [show (256 : Nat) = 2 ^ 8 from rfl, Nat.testBit_xor, Nat.testBit_mod_two_pow, Nat.testBit_two_pow_mul, Nat.testBit_div_two_pow]
  by_cases h : i < 8
  · rw [decide_eq_true h, decide_eq_false (show ¬ i ≥ 8 by omega)]
    simp
  · rw [decide_eq_false h, decide_eq_true (show i ≥ 8 by omega), show i - 8 + 8 = i by omega]
    simp
/-- A byte at once, by the table. -/
theorem st8_table (n y : Nat) : st8 ((n % 256) ^^^ y) ^^^ (n / 256) = st8 (n ^^^ y) := by
  have h := split256 n
  have e : n ^^^ y = ((n % 256) ^^^ y) ^^^ (256 * (n / 256)) := by
    rw [Nat.xor_assoc, Nat.xor_comm y, ← Nat.xor_assoc, ← h]
  rw [e, st8_xor _ (256 * (n / 256)), st8_256]
theorem or_lt (a b : Nat) (ha : a < 4294967296) (hb : b < 4294967296) : a ||| b < 4294967296 := Nat.or_lt_two_pow (n := 32) ha hb
theorem get4_lt (l : List Int) : get4 l < 4294967296 := by
  unfold get4
  have key : ∀ (m : List Int) (n : Nat), n < 4294967296 → m.foldl (fun n x => (n * 256 % 4294967296) ||| (x % 4294967296).toNat) n < 4294967296 := by
    intro m
    induction m with
    | nil => intro n h; exact h
    | cons x m ih => intro n _; exact ih _ (or_lt _ _ (by omega) (by omega))
  exact key _ 0 (by omega)
end Go.Proofs.Ytfcdaifaocgjfaa.Pl
end
section
namespace Go.Proofs.Ytfcdaifaocgjfaa.Oc
/-- The groups of a varint. -/
def grp (u : Nat) : List Int := if u > 127 then ((u % 128 + 128 : Nat) : Int) :: grp (u / 128) else [((u % 128 : Nat) : Int)]
termination_by u
decreasing_by omega
/-- The zigzag of an integer, by the program's own operations, and as it reads. -/
def zz (n : Int) : Nat := (if 0 ≤ n then 2 * n else -2 * n - 1).toNat
def unzz (u : Nat) : Int := if u % 2 = 0 then ((u / 2 : Nat) : Int) else -((u / 2 : Nat) : Int) - 1
def ok64 (n : Int) : Bool := decide (-9223372036854775808 ≤ n) && decide (n < 9223372036854775808)
def okB (l : List Int) : Bool := l.all fun x => decide (0 ≤ x) && decide (x < 256)
def getL : List Int → Int → Nat → Nat → Int × Int × Int
  | [], _, _, _ => (0, 0, 10)
  | c :: t, a, i, u => if i = 9 ∧ 1 < c then (0, 0, 11) else if 0 < i ∧ c = 0 then (0, 0, 11) else
      if c < 128 then (unzz (u + c.toNat % 128 * 128 ^ i), a + i + 1, 0) else getL t a (i + 1) (u + c.toNat % 128 * 128 ^ i)
def getI (l : List Int) (a : Int) : Int × Int × Int :=
  if a < 0 then (0, 0, 1) else if (l.length : Int) < a then (0, 0, 1) else getL (l.drop a.toNat) a 0 0
def putI (l : List Int) (n : Int) : List Int := l ++ grp (zz n)
theorem zz_lt (n : Int) (h : ok64 n = true) : zz n < 18446744073709551616 := by
  simp only [ok64, Bool.and_eq_true, decide_eq_true_eq] at h
  unfold zz
  split <;> omega
theorem unzz_zz (n : Int) : unzz (zz n) = n := by
  unfold unzz zz
  split <;> split <;> omega
theorem grp_small (u : Nat) (h : u ≤ 127) : grp u = [(u : Int)] := by
  rw [grp, if_neg (by omega)]
  congr 2
  omega
theorem grp_big (u : Nat) (h : 127 < u) : grp u = ((u % 128 + 128 : Nat) : Int) :: grp (u / 128) := by
  rw [grp, if_pos h]
/-- The length of a varint: below 128 ^ k at most k bytes. -/
theorem grp_length (k : Nat) : ∀ u, u < 128 ^ (k + 1) → (grp u).length ≤ k + 1 := by
  induction k with
  | zero => intro u h; rw [grp_small u (by omega)]; simp
  | succ k ih =>
    intro u h
    by_cases h1 : u ≤ 127
    · rw [grp_small u h1]; simp
    · rw [grp_big u (by omega), List.length_cons]
      have := ih (u / 128) (by rw [Nat.div_lt_iff_lt_mul (by omega)]; rw [Nat.pow_succ] at h; exact h)
      omega
theorem grp_ten (u : Nat) (h : u < 18446744073709551616) : (grp u).length ≤ 10 := grp_length 9 u (by omega)
theorem okB_iff (l : List Int) : okB l = true ↔ ∀ x ∈ l, 0 ≤ x ∧ x < 256 := by
  unfold okB
  rw [List.all_eq_true]
  constructor
  · intro h x hx; have := h x hx; simpa using this
  · intro h x hx; have := h x hx; simpa using this
theorem okB_drop (l : List Int) (n : Nat) (h : okB l = true) : okB (l.drop n) = true := by
  rw [okB_iff] at *
  exact fun x hx => h x (List.mem_of_mem_drop hx)
/-- What was read lies within. -/
theorem getL_next : ∀ (l : List Int) (a : Int) (i u : Nat), (getL l a i u).2.2 = 0 → a + i + 1 ≤ (getL l a i u).2.1 ∧ (getL l a i u).2.1 ≤ a + i + l.length := by
  intro l
  induction l with
  | nil => intro a i u h; simp [getL] at h
  | cons c t ih =>
    intro a i u h
    rw [getL] at h ⊢
    by_cases h1 : i = 9 ∧ 1 < c
    · rw [if_pos h1] at h; simp at h
    rw [if_neg h1] at h ⊢
    by_cases h2 : 0 < i ∧ c = 0
    · rw [if_pos h2] at h; simp at h
    rw [if_neg h2] at h ⊢
    by_cases h3 : c < 128
    · rw [if_pos h3] at h ⊢
      simp only [List.length_cons]
      omega
    · rw [if_neg h3] at h ⊢
      have := ih a (i + 1) _ h
      simp only [List.length_cons]
      omega
theorem getI_next (l : List Int) (a : Int) (h : (getI l a).2.2 = 0) : 0 ≤ a ∧ a + 1 ≤ (getI l a).2.1 ∧ (getI l a).2.1 ≤ l.length := by
  unfold getI at h ⊢
  by_cases h1 : a < 0
  · rw [if_pos h1] at h; simp at h
  rw [if_neg h1] at h ⊢
  by_cases h2 : (l.length : Int) < a
  · rw [if_pos h2] at h; simp at h
  rw [if_neg h2] at h ⊢
  have := getL_next _ _ _ _ h
  rw [List.length_drop] at this
  omega
end Go.Proofs.Ytfcdaifaocgjfaa.Oc
end
section
namespace Go.Proofs.Ytfcdaifaocgjfaa.Pl
def bytes (l : List Int) : Prop := ∀ x ∈ l, 0 ≤ x ∧ x < 256
theorem bytes_take {l : List Int} (h : bytes l) (n : Nat) : bytes (l.take n) := fun x hx => h x (List.mem_of_mem_take hx)
theorem bytes_drop {l : List Int} (h : bytes l) (n : Nat) : bytes (l.drop n) := fun x hx => h x (List.mem_of_mem_drop hx)
theorem bytes_append {l m : List Int} (h : bytes l) (k : bytes m) : bytes (l ++ m) := fun x hx => (List.mem_append.1 hx).elim (h x) (k x)
theorem bytes_be4 (n : Int) : bytes (be4 n) := by
  intro x hx
  simp only [be4, List.mem_cons, List.not_mem_nil, or_false] at hx
  rcases hx with rfl | rfl | rfl | rfl <;> omega
theorem or_add (n y : Nat) (hy : y < 256) : n * 256 ||| y = n * 256 + y := by
  have h := Nat.shiftLeft_add_eq_or_of_lt (i := 8) (b := y) (by omega) n
  rw [Nat.shiftLeft_eq] at h
  exact h.symm
theorem get4_cons (a b c d : Int) (t : List Int) (ha : 0 ≤ a ∧ a < 256) (hb : 0 ≤ b ∧ b < 256) (hc : 0 ≤ c ∧ c < 256) (hd : 0 ≤ d ∧ d < 256) :
    ((get4 (a :: b :: c :: d :: t) : Nat) : Int) = ((a * 256 + b) * 256 + c) * 256 + d := by
  have e : get4 (a :: b :: c :: d :: t) = (((((((0 * 256 % 4294967296) ||| (a % 4294967296).toNat) * 256 % 4294967296) ||| (b % 4294967296).toNat) * 256 % 4294967296) ||| (c % 4294967296).toNat) * 256 % 4294967296) ||| (d % 4294967296).toNat := rfl
  rw [e]
  rw [show (0 * 256 % 4294967296) ||| (a % 4294967296).toNat = a.toNat by rw [Nat.zero_mul, Nat.zero_mod, Nat.zero_or]; omega]
  rw [show (a.toNat * 256 % 4294967296) = a.toNat * 256 by omega, or_add _ _ (by omega)]
  rw [show ((a.toNat * 256 + (b % 4294967296).toNat) * 256 % 4294967296) = (a.toNat * 256 + (b % 4294967296).toNat) * 256 by omega, or_add _ _ (by omega)]
  rw [show (((a.toNat * 256 + (b % 4294967296).toNat) * 256 + (c % 4294967296).toNat) * 256 % 4294967296) = ((a.toNat * 256 + (b % 4294967296).toNat) * 256 + (c % 4294967296).toNat) * 256 by omega, or_add _ _ (by omega)]
  omega
theorem get4_be4 (n : Int) (h0 : 0 ≤ n) (h1 : n < 4294967296) (t : List Int) : ((get4 (be4 n ++ t) : Nat) : Int) = n := by
  unfold be4
  rw [List.cons_append, List.cons_append, List.cons_append, List.cons_append, List.nil_append, get4_cons _ _ _ _ _ (by omega) (by omega) (by omega) (by omega)]
  omega
theorem four_of_length (l : List Int) (h : 4 ≤ l.length) : ∃ a b c d t, l = a :: b :: c :: d :: t := by
  match l, h with
  | a :: b :: c :: d :: t, _ => exact ⟨a, b, c, d, t, rfl⟩
/-- A list of bytes that begins with a number's four bytes. -/
theorem be4_get4 (l : List Int) (hb : bytes l) (h : 4 ≤ l.length) : be4 (get4 l : Nat) = l.take 4 := by
  obtain ⟨a, b, c, d, t, rfl⟩ := four_of_length l h
  have ha := hb a (by simp)
  have hb' := hb b (by simp)
  have hc := hb c (by simp)
  have hd := hb d (by simp)
  unfold be4
  rw [get4_cons a b c d t ha hb' hc hd]
  simp only [List.take_succ_cons, List.take_zero]
  congr 1
  · omega
  congr 1
  · omega
  congr 1
  · omega
  congr 1
  omega
theorem get4_take (l : List Int) (n : Nat) (h : 4 ≤ n) : get4 (l.take n) = get4 l := by
  unfold get4
  rw [List.take_take, Nat.min_eq_left h]
end Go.Proofs.Ytfcdaifaocgjfaa.Pl
end
section
namespace Go.Proofs.Ytfcdaifaocgjfaa.Pl
theorem take8 (r : List Int) (n : Nat) : r.take (8 + n) = r.take 4 ++ (r.drop 4).take 4 ++ (r.drop 8).take n := by
  rw [show 8 + n = 4 + (4 + n) by omega, List.take_add, List.take_add, List.drop_drop, List.append_assoc]
theorem frameI_length (l : List Int) : (frameI l).length = 8 + l.length := by simp [frameI, be4]; omega
theorem openI_spec (l : List Int) (hb : bytes l) (at_ : Int) :
    (∃ e, openI l at_ = ([], 0, e) ∧ e ≠ 0) ∨
    ∃ (body : List Int) (a : Nat), at_ = a ∧ openI l at_ = (body, (a : Int) + 8 + body.length, 0) ∧ a + 8 + body.length ≤ l.length ∧ body.length ≤ 65536 ∧ (l.drop a).take (8 + body.length) = frameI body ∧ bytes body := by
  unfold openI
  by_cases h0 : at_ < 0
  · exact .inl ⟨1, by rw [if_pos h0], by decide⟩
  rw [if_neg h0]
  by_cases h1 : (l.length : Int) < at_
  · exact .inl ⟨1, by rw [if_pos h1], by decide⟩
  rw [if_neg h1]
  by_cases h2 : (l.drop at_.toNat).length < 8
  · exact .inl ⟨10, by rw [if_pos h2], by decide⟩
  rw [if_neg h2]
  by_cases h3 : 65536 < get4 (l.drop at_.toNat)
  · exact .inl ⟨11, by rw [if_pos h3], by decide⟩
  rw [if_neg h3]
  by_cases h4 : (l.drop at_.toNat).length - 8 < get4 (l.drop at_.toNat)
  · exact .inl ⟨10, by rw [if_pos h4], by decide⟩
  rw [if_neg h4]
  by_cases h5 : sumI (((l.drop at_.toNat).drop 8).take (get4 (l.drop at_.toNat))) = get4 ((l.drop at_.toNat).drop 4)
  · rw [if_pos h5]
    obtain ⟨a, rfl⟩ := Int.eq_ofNat_of_zero_le (show 0 ≤ at_ by omega)
    rw [Int.toNat_natCast] at h2 h3 h4 h5 ⊢
    have hrl : (l.drop a).length = l.length - a := List.length_drop
    have hbl : (((l.drop a).drop 8).take (get4 (l.drop a))).length = get4 (l.drop a) := by rw [List.length_take, List.length_drop]; omega
    have hrb := bytes_drop hb a
    refine .inr ⟨((l.drop a).drop 8).take (get4 (l.drop a)), a, rfl, by rw [hbl], by rw [hbl]; omega, by rw [hbl]; omega, ?_, bytes_take (bytes_drop hrb _) _⟩
    rw [hbl]
    unfold frameI
    rw [hbl, h5, be4_get4 _ hrb (by omega), be4_get4 _ (bytes_drop hrb 4) (by rw [List.length_drop]; omega), take8]
  · exact .inl ⟨20, by rw [if_neg h5], by decide⟩
/-- A frame, wherever it stands, is opened. -/
theorem openI_frame (pre body post : List Int) (h : body.length ≤ 65536) :
    openI (pre ++ (frameI body ++ post)) pre.length = (body, (pre.length : Int) + 8 + body.length, 0) := by
  have hf := frameI_length body
  have hd : (pre ++ (frameI body ++ post)).drop pre.length = frameI body ++ post := by rw [List.drop_left]
  have hg : get4 (frameI body ++ post) = body.length := by
    have := get4_be4 (body.length : Int) (by omega) (by omega) (be4 (sumI body) ++ body ++ post)
    have e : frameI body ++ post = be4 body.length ++ (be4 (sumI body) ++ body ++ post) := by simp [frameI, List.append_assoc]
    rw [e]
    omega
  have h4 : (frameI body ++ post).drop 4 = be4 (sumI body) ++ (body ++ post) := by
    simp [frameI, be4]
  have h8 : (frameI body ++ post).drop 8 = body ++ post := by
    simp [frameI, be4]
  have hs := sumI_range body
  have hg4 := get4_be4 (sumI body) hs.1 (by omega) (body ++ post)
  unfold openI
  rw [if_neg (by omega), if_neg (by rw [List.length_append]; omega), Int.toNat_natCast, hd, hg, h4, h8, List.take_left, List.length_append, hf]
  rw [if_neg (by omega), if_neg (by omega), if_neg (by omega), if_pos hg4.symm]
end Go.Proofs.Ytfcdaifaocgjfaa.Pl
end
section
namespace Go.Proofs.Ytfcdaifaocgjfaa.Pl
def Y : List Nat → Nat
  | [] => 0
  | c :: cs => c + 256 * Y cs
end Go.Proofs.Ytfcdaifaocgjfaa.Pl
end
section
namespace Go.Proofs.Ytfcdaifaocgjfaa.Pl
def F (l : List (List Int)) : List Int := (l.map frameI).flatten
theorem F_nil : F [] = [] := rfl
theorem F_cons (x : List Int) (l : List (List Int)) : F (x :: l) = frameI x ++ F l := by simp [F]
theorem F_append (l m : List (List Int)) : F (l ++ m) = F l ++ F m := by simp [F]
theorem F_one (x : List Int) : F [x] = frameI x := by simp [F]
def G (l : List (List Int)) (j : Nat) : Nat := (F (l.take j)).length
theorem G_zero (l : List (List Int)) : G l 0 = 0 := by simp [G, F]
theorem G_succ (l : List (List Int)) (j : Nat) (h : j < l.length) : G l (j + 1) = G l j + 8 + (l[j]).length := by
  unfold G
  rw [List.take_succ_eq_append_getElem h, F_append, F_one, List.length_append, frameI_length]
  omega
theorem F_split (l : List (List Int)) (j : Nat) : F l = F (l.take j) ++ F (l.drop j) := by rw [← F_append, List.take_append_drop]
theorem G_all (l : List (List Int)) (j : Nat) (h : l.length ≤ j) : G l j = (F l).length := by unfold G; rw [List.take_of_length_le h]
theorem G_mono (l : List (List Int)) : ∀ {i j : Nat}, i ≤ j → G l i ≤ G l j := by
  intro i j h
  obtain ⟨d, rfl⟩ : ∃ d, j = i + d := ⟨j - i, by omega⟩
  clear h
  induction d with
  | zero => exact Nat.le_refl _
  | succ d ih =>
    rcases Nat.lt_or_ge (i + d) l.length with h | h
    · have := G_succ l (i + d) h
      have e : i + (d + 1) = i + d + 1 := rfl
      rw [e]; omega
    · rw [G_all l (i + (d + 1)) (by omega), ← G_all l (i + d) h]; exact ih
theorem len_le_F : ∀ l : List (List Int), l.length ≤ (F l).length
  | [] => Nat.le_refl _
  | x :: l => by rw [F_cons, List.length_append, frameI_length, List.length_cons]; have := len_le_F l; omega
theorem openI_at (pre rest : List Int) : openI (pre ++ rest) pre.length =
    (if rest.length < 8 then ([], 0, 10) else if 65536 < get4 rest then ([], 0, 11) else if rest.length - 8 < get4 rest then ([], 0, 10) else
      if sumI ((rest.drop 8).take (get4 rest)) = get4 (rest.drop 4) then ((rest.drop 8).take (get4 rest), (pre.length : Int) + 8 + get4 rest, 0) else ([], 0, 20)) := by
  have hd : (pre ++ rest).drop pre.length = rest := by rw [List.drop_left]
  unfold openI
  rw [if_neg (by omega), if_neg (by rw [List.length_append]; omega), Int.toNat_natCast, hd]
theorem get4_frame (body post : List Int) (h : body.length ≤ 65536) : get4 (frameI body ++ post) = body.length := by
  have := get4_be4 (body.length : Int) (by omega) (by omega) (be4 (sumI body) ++ body ++ post)
  have e : frameI body ++ post = be4 body.length ++ (be4 (sumI body) ++ body ++ post) := by simp [frameI, List.append_assoc]
  rw [e]
  omega
theorem openI_cut (pre body : List Int) (h : body.length ≤ 65536) (j : Nat) (hj : j < 8 + body.length) : (openI (pre ++ (frameI body).take j) pre.length).2.2 ≠ 0 := by
  have hf := frameI_length body
  rw [openI_at]
  have hl : ((frameI body).take j).length = j := by rw [List.length_take, hf]; omega
  rw [hl]
  by_cases h8 : j < 8
  · rw [if_pos h8]; decide
  have hg : get4 ((frameI body).take j) = body.length := by
    rw [get4_take _ _ (by omega)]
    have := get4_frame body [] h
    rwa [List.append_nil] at this
  rw [if_neg h8, hg, if_neg (by omega), if_pos (by omega)]
  decide
theorem openI_end (pre : List Int) : (openI (pre ++ []) pre.length).2.2 ≠ 0 := by
  rw [openI_at, if_pos (by simp)]; decide
theorem scanF_stop (l : List Int) (a : Int) (acc : List (List Int)) (h : (openI l a).2.2 ≠ 0) : ∀ n, scanF n l a acc = (acc, a)
  | 0 => rfl
  | n + 1 => by rw [scanF, if_neg h]
theorem scanF_frames : ∀ (m : List (List Int)) (pre post : List Int) (acc : List (List Int)) (n : Nat), (∀ x ∈ m, x.length ≤ 65536) →
    scanF (m.length + n) (pre ++ (F m ++ post)) pre.length acc = scanF n (pre ++ (F m ++ post)) ((pre ++ F m).length : Nat) (acc ++ m)
  | [], pre, post, acc, n, _ => by simp [F_nil]
  | x :: m, pre, post, acc, n, h => by
    have hx := openI_frame pre x (F m ++ post) (h x List.mem_cons_self)
    have ih := scanF_frames m (pre ++ frameI x) post (acc ++ [x]) n (fun y hy => h y (List.mem_cons_of_mem _ hy))
    rw [List.length_cons, show m.length + 1 + n = (m.length + n) + 1 by omega, scanF, F_cons, List.append_assoc, hx]
    rw [if_pos rfl]
    have e1 : ((pre.length : Int) + 8 + x.length) = ((pre ++ frameI x).length : Nat) := by rw [List.length_append, frameI_length]; omega
    show scanF (m.length + n) _ ((pre.length : Int) + 8 + x.length) (acc ++ [x]) = _
    rw [e1]
    simp only [List.append_assoc, List.cons_append, List.nil_append] at ih ⊢
    exact ih
theorem scan_stop (m : List (List Int)) (post : List Int) (hm : ∀ x ∈ m, x.length ≤ 65536) (h : (openI (F m ++ post) (F m).length).2.2 ≠ 0) : scanI (F m ++ post) = (m, (((F m).length : Nat) : Int)) := by
  have hl := len_le_F m
  obtain ⟨n, hn⟩ : ∃ n, (F m ++ post).length + 1 = m.length + n := ⟨(F m ++ post).length + 1 - m.length, by rw [List.length_append]; omega⟩
  unfold scanI
  rw [hn]
  have := scanF_frames m [] post [] n hm
  simp only [List.nil_append, List.length_nil] at this
  rw [show ((0 : Nat) : Int) = 0 from rfl] at this
  rw [this, scanF_stop _ _ _ h]
/-- Where a place lies among the frames. -/
theorem place (l : List (List Int)) (c : Nat) : ∃ W, W ≤ l.length ∧ (∀ j, j ≤ W → G l j ≤ c) ∧ (∀ j, W < j → j ≤ l.length → c < G l j) := by
  suffices h : ∀ n, n ≤ l.length → ∃ W, W ≤ n ∧ (∀ j, j ≤ W → G l j ≤ c) ∧ (∀ j, W < j → j ≤ n → c < G l j) from h l.length (Nat.le_refl _)
  intro n
  induction n with
  | zero => intro _; exact ⟨0, Nat.le_refl _, fun j hj => by rw [show j = 0 by omega, G_zero]; omega, fun j h1 h2 => by omega⟩
  | succ n ih =>
    intro hn
    obtain ⟨W, hW, h1, h2⟩ := ih (by omega)
    by_cases hc : G l (n + 1) ≤ c
    · exact ⟨n + 1, Nat.le_refl _, fun j hj => Nat.le_trans (G_mono l hj) hc, fun j h3 h4 => by omega⟩
    · refine ⟨W, by omega, h1, fun j h3 h4 => ?_⟩
      rcases Nat.lt_or_ge n j with h5 | h5
      · rw [show j = n + 1 by omega]; omega
      · exact h2 j h3 h5
end Go.Proofs.Ytfcdaifaocgjfaa.Pl
end
