/- Plain: the varints, over numbers and lists; no program in sight. -/
namespace Go.Proofs.Ytodobnmfgcmnnaa.Oc
/-- The groups of a varint. -/
def grp (u : Nat) : List Int := if u > 127 then ((u % 128 + 128 : Nat) : Int) :: grp (u / 128) else [((u % 128 : Nat) : Int)]
termination_by u
decreasing_by omega
/-- The zigzag of an integer, by the program's own operations, and as it reads. -/
def zz (n : Int) : Nat := (if 0 ≤ n then 2 * n else -2 * n - 1).toNat
def unzz (u : Nat) : Int := if u % 2 = 0 then ((u / 2 : Nat) : Int) else -((u / 2 : Nat) : Int) - 1
def ok64 (n : Int) : Bool := decide (-9223372036854775808 ≤ n) && decide (n < 9223372036854775808)
def okB (l : List Int) : Bool := l.all fun x => decide (0 ≤ x) && decide (x < 256)
def getL : List Int → Int → Nat → Nat → Int × Int × Int
  | [], _, _, _ => (0, 0, 10)
  | c :: t, a, i, u => if i = 9 ∧ 1 < c then (0, 0, 11) else if 0 < i ∧ c = 0 then (0, 0, 11) else
      if c < 128 then (unzz (u + c.toNat % 128 * 128 ^ i), a + i + 1, 0) else getL t a (i + 1) (u + c.toNat % 128 * 128 ^ i)
def getI (l : List Int) (a : Int) : Int × Int × Int :=
  if a < 0 then (0, 0, 1) else if (l.length : Int) < a then (0, 0, 1) else getL (l.drop a.toNat) a 0 0
def getN : Nat → List Int → Int → List Int → List Int × Int × Int
  | 0, _, a, acc => (acc, a, 0)
  | m + 1, l, a, acc => if (getI l a).2.2 = 0 then getN m l (getI l a).2.1 (acc ++ [(getI l a).1]) else ([], 0, (getI l a).2.2)
def getIs (l : List Int) (a most : Int) : List Int × Int × Int :=
  if (getI l a).2.2 ≠ 0 then ([], 0, (getI l a).2.2) else if (getI l a).1 < 0 then ([], 0, 11) else if most < (getI l a).1 then ([], 0, 2) else
  getN (getI l a).1.toNat l (getI l a).2.1 []
/-- A text as its bytes. -/
def getT (l : List Int) (a most : Int) : List Int × Int × Int :=
  if (getI l a).2.2 ≠ 0 then ([], 0, (getI l a).2.2) else if (getI l a).1 < 0 then ([], 0, 11) else if most < (getI l a).1 then ([], 0, 2) else
  if (l.length : Int) - (getI l a).2.1 < (getI l a).1 then ([], 0, 10) else
  ((l.drop (getI l a).2.1.toNat).take (getI l a).1.toNat, (getI l a).2.1 + (getI l a).1, 0)
def putI (l : List Int) (n : Int) : List Int := l ++ grp (zz n)
def putIs (l xs : List Int) : List Int := xs.foldl putI (putI l xs.length)

theorem zz_lt (n : Int) (h : ok64 n = true) : zz n < 18446744073709551616 := by
  simp only [ok64, Bool.and_eq_true, decide_eq_true_eq] at h
  unfold zz
  split <;> omega
theorem unzz_zz (n : Int) : unzz (zz n) = n := by
  unfold unzz zz
  split <;> split <;> omega
theorem zz_unzz (u : Nat) : zz (unzz u) = u := by
  unfold unzz zz
  split <;> split <;> omega
theorem grp_small (u : Nat) (h : u ≤ 127) : grp u = [(u : Int)] := by
  rw [grp, if_neg (by omega)]
  congr 2
  omega
theorem grp_big (u : Nat) (h : 127 < u) : grp u = ((u % 128 + 128 : Nat) : Int) :: grp (u / 128) := by
  rw [grp, if_pos h]
theorem grp_ne (u : Nat) : grp u ≠ [] := by
  rw [grp]
  split <;> simp
/-- The length of a varint: below 128 ^ k at most k bytes. -/
theorem grp_length (k : Nat) : ∀ u, u < 128 ^ (k + 1) → (grp u).length ≤ k + 1 := by
  induction k with
  | zero => intro u h; rw [grp_small u (by omega)]; simp
  | succ k ih =>
    intro u h
    by_cases h1 : u ≤ 127
    · rw [grp_small u h1]; simp
    · rw [grp_big u (by omega), List.length_cons]
      have := ih (u / 128) (by rw [Nat.div_lt_iff_lt_mul (by omega)]; rw [Nat.pow_succ] at h; exact h)
      omega
theorem grp_ten (u : Nat) (h : u < 18446744073709551616) : (grp u).length ≤ 10 := grp_length 9 u (by omega)
theorem okB_iff (l : List Int) : okB l = true ↔ ∀ x ∈ l, 0 ≤ x ∧ x < 256 := by
  unfold okB
  rw [List.all_eq_true]
  constructor
  · intro h x hx; have := h x hx; simpa using this
  · intro h x hx; have := h x hx; simpa using this
theorem okB_drop (l : List Int) (n : Nat) (h : okB l = true) : okB (l.drop n) = true := by
  rw [okB_iff] at *
  exact fun x hx => h x (List.mem_of_mem_drop hx)
/-- What was read lies within. -/
theorem getL_next : ∀ (l : List Int) (a : Int) (i u : Nat), (getL l a i u).2.2 = 0 → a + i + 1 ≤ (getL l a i u).2.1 ∧ (getL l a i u).2.1 ≤ a + i + l.length := by
  intro l
  induction l with
  | nil => intro a i u h; simp [getL] at h
  | cons c t ih =>
    intro a i u h
    rw [getL] at h ⊢
    by_cases h1 : i = 9 ∧ 1 < c
    · rw [if_pos h1] at h; simp at h
    rw [if_neg h1] at h ⊢
    by_cases h2 : 0 < i ∧ c = 0
    · rw [if_pos h2] at h; simp at h
    rw [if_neg h2] at h ⊢
    by_cases h3 : c < 128
    · rw [if_pos h3] at h ⊢
      simp only [List.length_cons]
      omega
    · rw [if_neg h3] at h ⊢
      have := ih a (i + 1) _ h
      simp only [List.length_cons]
      omega
theorem getI_next (l : List Int) (a : Int) (h : (getI l a).2.2 = 0) : 0 ≤ a ∧ a + 1 ≤ (getI l a).2.1 ∧ (getI l a).2.1 ≤ l.length := by
  unfold getI at h ⊢
  by_cases h1 : a < 0
  · rw [if_pos h1] at h; simp at h
  rw [if_neg h1] at h ⊢
  by_cases h2 : (l.length : Int) < a
  · rw [if_pos h2] at h; simp at h
  rw [if_neg h2] at h ⊢
  have := getL_next _ _ _ _ h
  rw [List.length_drop] at this
  omega
end Go.Proofs.Ytodobnmfgcmnnaa.Oc
