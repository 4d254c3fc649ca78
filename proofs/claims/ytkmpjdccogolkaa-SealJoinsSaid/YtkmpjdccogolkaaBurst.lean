/- Plain: the checksum is affine, and a change of up to four consecutive bytes changes it. -/
import Derived.Test.YtkmpjdccogolkaaNum
namespace Go.Proofs.Ytkmpjdccogolkaa.Pl

/-- The effect of a list of changes on the state. -/
def lin (d : Nat) (cs : List Nat) : Nat := cs.foldl (fun n c => st8 (n ^^^ c)) d
theorem lin_nil (d : Nat) : lin d [] = d := rfl
theorem lin_cons (d c : Nat) (cs : List Nat) : lin d (c :: cs) = lin (st8 (d ^^^ c)) cs := rfl
def xorL : List Int → List Nat → List Int
  | x :: l, c :: cs => ((x.toNat ^^^ c : Nat) : Int) :: xorL l cs
  | _, _ => []
theorem byte_nat {x : Int} (h : 0 ≤ x ∧ x < 256) : (x % 256).toNat = x.toNat := by omega
theorem xor_byte {a b : Nat} (ha : a < 256) (hb : b < 256) : a ^^^ b < 256 := Nat.xor_lt_two_pow (n := 8) ha hb
theorem crc_xorL : ∀ (l : List Int) (cs : List Nat) (s d : Nat), bytes l → (∀ c ∈ cs, c < 256) → cs.length = l.length → crc (s ^^^ d) (xorL l cs) = crc s l ^^^ lin d cs
  | [], [], s, d, _, _, _ => rfl
  | x :: l, c :: cs, s, d, hl, hc, hlen => by
    have hx := hl x (List.mem_cons_self)
    have hcc := hc c (List.mem_cons_self)
    have hb := xor_byte (a := x.toNat) (b := c) (by omega) hcc
    rw [xorL, crc_cons, crc_cons, lin_cons, byte_nat hx, show ((((x.toNat ^^^ c : Nat) : Int) % 256).toNat) = x.toNat ^^^ c by omega]
    rw [show s ^^^ d ^^^ (x.toNat ^^^ c) = (s ^^^ x.toNat) ^^^ (d ^^^ c) by rw [Nat.xor_assoc, ← Nat.xor_assoc d, Nat.xor_comm d x.toNat, Nat.xor_assoc x.toNat, ← Nat.xor_assoc], st8_xor]
    exact crc_xorL l cs _ _ (fun y hy => hl y (List.mem_cons_of_mem _ hy)) (fun y hy => hc y (List.mem_cons_of_mem _ hy)) (by simpa using hlen)
  | [], _ :: _, _, _, _, _, hlen => by simp at hlen
  | _ :: _, [], _, _, _, _, hlen => by simp at hlen

theorem step_zero {n : Nat} (h : n < 4294967296) (hz : step n = 0) : n = 0 := by
  unfold step at hz
  split at hz
  · rename_i h1
    have h2 : n / 2 = 3988292384 := by
      have := congrArg (fun z => z ^^^ 3988292384) hz
      simp only [Nat.xor_assoc, Nat.xor_self, Nat.xor_zero, Nat.zero_xor] at this
      exact this
    omega
  · omega
theorem st8_zero {n : Nat} (h : n < 4294967296) (hz : st8 n = 0) : n = 0 := by
  unfold st8 at hz
  have l1 := step_lt n h
  have l2 := step_lt _ l1
  have l3 := step_lt _ l2
  have l4 := step_lt _ l3
  have l5 := step_lt _ l4
  have l6 := step_lt _ l5
  have l7 := step_lt _ l6
  exact step_zero h (step_zero l1 (step_zero l2 (step_zero l3 (step_zero l4 (step_zero l5 (step_zero l6 (step_zero l7 hz)))))))
theorem xor_eq_zero {a b : Nat} (h : a ^^^ b = 0) : a = b := by
  have := congrArg (fun z => z ^^^ b) h
  simp only [Nat.xor_assoc, Nat.xor_self, Nat.xor_zero, Nat.zero_xor] at this
  exact this
theorem st8_inj {a b : Nat} (ha : a < 4294967296) (hb : b < 4294967296) (h : st8 a = st8 b) : a = b := by
  apply xor_eq_zero
  apply st8_zero (xor_lt a b ha hb)
  rw [st8_xor, h, Nat.xor_self]
theorem crc_inj : ∀ (l : List Int) (a b : Nat), a < 4294967296 → b < 4294967296 → crc a l = crc b l → a = b
  | [], a, b, _, _, h => h
  | x :: l, a, b, ha, hb, h => by
    rw [crc_cons, crc_cons] at h
    have hx : (x % 256).toNat < 4294967296 := by omega
    have h1 := crc_inj l _ _ (st8_lt _ (xor_lt _ _ ha hx)) (st8_lt _ (xor_lt _ _ hb hx)) h
    have h2 := st8_inj (xor_lt _ _ ha hx) (xor_lt _ _ hb hx) h1
    have := congrArg (fun z => z ^^^ (x % 256).toNat) h2
    simp only [Nat.xor_assoc, Nat.xor_self, Nat.xor_zero] at this
    exact this

def Y : List Nat → Nat
  | [] => 0
  | c :: cs => c + 256 * Y cs
theorem xor_add (c y : Nat) (hc : c < 256) : c ^^^ (256 * y) = c + 256 * y := by
  have h := split256 (c + 256 * y)
  rw [show (c + 256 * y) % 256 = c by omega, show (c + 256 * y) / 256 = y by omega] at h
  exact h.symm
theorem Y_lt : ∀ (cs : List Nat), (∀ c ∈ cs, c < 256) → Y cs < 256 ^ cs.length
  | [], _ => by simp [Y]
  | c :: cs, h => by
    have h1 := h c (List.mem_cons_self)
    have h2 := Y_lt cs (fun y hy => h y (List.mem_cons_of_mem _ hy))
    rw [Y, List.length_cons, Nat.pow_succ]
    omega
theorem lin_zero : ∀ (cs : List Nat) (d : Nat), (∀ c ∈ cs, c < 256) → cs.length ≤ 4 → d < 4294967296 → lin d cs = 0 → d = Y cs
  | [], d, _, _, _, h => h
  | c :: cs, d, hc, hl, hd, h => by
    have hcc := hc c (List.mem_cons_self)
    have hcs := fun y hy => hc y (List.mem_cons_of_mem c hy)
    rw [lin_cons] at h
    have hdc := xor_lt d c hd (by omega)
    have h1 := lin_zero cs _ hcs (by simp at hl; omega) (st8_lt _ hdc) h
    have hY := Y_lt cs hcs
    have hY' : 256 * Y cs < 4294967296 := by
      have : 256 ^ cs.length ≤ 256 ^ 3 := Nat.pow_le_pow_right (by omega) (by simp at hl; omega)
      omega
    rw [← st8_256 (Y cs)] at h1
    have h2 := st8_inj hdc hY' h1
    rw [Y, ← xor_add c (Y cs) hcc, ← h2, Nat.xor_comm d c, ← Nat.xor_assoc, Nat.xor_self, Nat.zero_xor]
theorem Y_zero : ∀ (cs : List Nat), Y cs = 0 → ∀ c ∈ cs, c = 0
  | [], _, c, hc => by simp at hc
  | b :: cs, h, c, hc => by
    rw [Y] at h
    rcases List.mem_cons.1 hc with rfl | hc
    · omega
    · exact Y_zero cs (by omega) c hc
theorem xorL_zero : ∀ (l : List Int) (cs : List Nat), bytes l → (∀ c ∈ cs, c = 0) → cs.length = l.length → xorL l cs = l
  | [], [], _, _, _ => rfl
  | x :: l, c :: cs, hb, hc, hl => by
    have hx := hb x (List.mem_cons_self)
    rw [xorL, hc c (List.mem_cons_self), Nat.xor_zero, xorL_zero l cs (fun y hy => hb y (List.mem_cons_of_mem _ hy)) (fun y hy => hc y (List.mem_cons_of_mem _ hy)) (by simpa using hl)]
    congr 1
    omega
  | [], _ :: _, _, _, hl => by simp at hl
  | _ :: _, [], _, _, hl => by simp at hl
theorem xor_cancel {a b c : Nat} (h : a ^^^ c = b ^^^ c) : a = b := by
  have := congrArg (fun z => z ^^^ c) h
  simp only [Nat.xor_assoc, Nat.xor_self, Nat.xor_zero] at this
  exact this
/-- A change of up to four consecutive bytes changes the checksum, unless it is none. -/
theorem burst (pre mid post : List Int) (cs : List Nat) (hm : bytes mid) (hc : ∀ c ∈ cs, c < 256) (hl : cs.length = mid.length) (h4 : cs.length ≤ 4) :
    sumI (pre ++ xorL mid cs ++ post) = sumI (pre ++ mid ++ post) ↔ ∀ c ∈ cs, c = 0 := by
  constructor
  · intro h
    unfold sumI at h
    have h1 := xor_cancel (Int.ofNat.inj h)
    rw [crc_append, crc_append, crc_append, crc_append] at h1
    have hp := crc_lt pre 4294967295 (by omega)
    have h2 := crc_inj post _ _ (crc_lt _ _ hp) (crc_lt _ _ hp) h1
    have h3 := crc_xorL mid cs (crc 4294967295 pre) 0 hm hc hl
    rw [Nat.xor_zero, h2] at h3
    have h4' : lin 0 cs = 0 := by
      have := congrArg (fun z => crc (crc 4294967295 pre) mid ^^^ z) h3
      simp only [← Nat.xor_assoc, Nat.xor_self, Nat.zero_xor] at this
      exact this.symm
    exact Y_zero cs (lin_zero cs 0 hc h4 (by omega) h4').symm
  · intro h
    rw [xorL_zero mid cs hm h hl]

/-! ### three lists -/
def xor3 : List Int → List Int → List Int → List Int
  | a :: l, b :: m, c :: n => ((a.toNat ^^^ b.toNat ^^^ c.toNat : Nat) : Int) :: xor3 l m n
  | _, _, _ => []
theorem crc_xor3 : ∀ (l m n : List Int) (s t u : Nat), bytes l → bytes m → bytes n → m.length = l.length → n.length = l.length → crc (s ^^^ t ^^^ u) (xor3 l m n) = crc s l ^^^ crc t m ^^^ crc u n
  | [], [], [], s, t, u, _, _, _, _, _ => rfl
  | a :: l, b :: m, c :: n, s, t, u, hl, hm, hn, h1, h2 => by
    have ha := hl a (List.mem_cons_self)
    have hb := hm b (List.mem_cons_self)
    have hc := hn c (List.mem_cons_self)
    have hx := xor_byte (xor_byte (a := a.toNat) (b := b.toNat) (by omega) (by omega)) (b := c.toNat) (by omega)
    rw [xor3, crc_cons, crc_cons, crc_cons, crc_cons, byte_nat ha, byte_nat hb, byte_nat hc, show ((((a.toNat ^^^ b.toNat ^^^ c.toNat : Nat) : Int) % 256).toNat) = a.toNat ^^^ b.toNat ^^^ c.toNat by omega]
    have e : s ^^^ t ^^^ u ^^^ (a.toNat ^^^ b.toNat ^^^ c.toNat) = (s ^^^ a.toNat) ^^^ (t ^^^ b.toNat) ^^^ (u ^^^ c.toNat) := by
      generalize a.toNat = x
      generalize b.toNat = y
      generalize c.toNat = z
      apply Nat.eq_of_testBit_eq
      intro i
      simp only [Nat.testBit_xor]
      cases s.testBit i <;> cases t.testBit i <;> cases u.testBit i <;> cases x.testBit i <;> cases y.testBit i <;> cases z.testBit i <;> rfl
    rw [e, st8_xor, st8_xor]
    exact crc_xor3 l m n _ _ _ (fun y hy => hl y (List.mem_cons_of_mem _ hy)) (fun y hy => hm y (List.mem_cons_of_mem _ hy)) (fun y hy => hn y (List.mem_cons_of_mem _ hy)) (by simpa using h1) (by simpa using h2)
  | [], _ :: _, _, _, _, _, _, _, _, h1, _ => by simp at h1
  | [], [], _ :: _, _, _, _, _, _, _, _, h2 => by simp at h2
  | _ :: _, [], _, _, _, _, _, _, _, h1, _ => by simp at h1
  | _ :: _, _ :: _, [], _, _, _, _, _, _, _, h2 => by simp at h2
theorem sum_xor3 (l m n : List Int) (hl : bytes l) (hm : bytes m) (hn : bytes n) (h1 : m.length = l.length) (h2 : n.length = l.length) :
    (sumI (xor3 l m n)).toNat = (sumI l).toNat ^^^ (sumI m).toNat ^^^ (sumI n).toNat := by
  have h := crc_xor3 l m n 4294967295 4294967295 4294967295 hl hm hn h1 h2
  rw [show (4294967295 ^^^ 4294967295 ^^^ 4294967295 : Nat) = 4294967295 from rfl] at h
  unfold sumI
  rw [h]
  simp only [Int.toNat_natCast]
  generalize crc 4294967295 l = x
  generalize crc 4294967295 m = y
  generalize crc 4294967295 n = z
  apply Nat.eq_of_testBit_eq
  intro i
  simp only [Nat.testBit_xor]
  generalize Nat.testBit 4294967295 i = q
  cases x.testBit i <;> cases y.testBit i <;> cases z.testBit i <;> cases q <;> rfl
end Go.Proofs.Ytkmpjdccogolkaa.Pl
