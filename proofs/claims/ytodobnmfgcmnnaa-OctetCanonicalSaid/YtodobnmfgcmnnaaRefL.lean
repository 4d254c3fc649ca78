/- The reference's texts and lists: what they answer, over numbers and lists. -/
import Derived.Test.YtodobnmfgcmnnaaRefP
import Derived.Test.YtodobnmfgcmnnaaPr17
import Derived.Test.YtodobnmfgcmnnaaPr18
import Derived.Test.YtodobnmfgcmnnaaPr20
import Derived.Test.YtodobnmfgcmnnaaPr11
import Derived.Test.YtodobnmfgcmnnaaPr6
import Derived.Test.YtodobnmfgcmnnaaPr7
import Derived.Test.YtodobnmfgcmnnaaPr8
import Derived.Test.YtodobnmfgcmnnaaPr10
namespace Go.Proofs.Ytodobnmfgcmnnaa.Pure
open Go.RowKit Go.Proofs.Ytodobnmfgcmnnaa.Pr Go.Proofs.YtodobnmfgcmnnaaW.PrintWords Go.Proofs.YtodobnmfgcmnnaaW.PrintLast
theorem octGet (l : List Int) (a : Int) (hb : Oc.okB l = true) : octet_GetInt.f l a = some (Oc.getI l a) := by unfold octet_GetInt.f; rw [if_pos hb]
theorem octPut (l : List Int) (n : Int) (hn : Oc.ok64 n = true) (hl : l.length ≤ 1000000000000) : octet_PutInt.f l n = some (Oc.putI l n) := by unfold octet_PutInt.f; rw [if_pos ⟨hn, hl⟩]
theorem octText (l : List Int) (a m : Int) (hb : Oc.okB l = true) : octet_GetText.f l a m = some (strOfNums (Oc.getT l a m).1, (Oc.getT l a m).2.1, (Oc.getT l a m).2.2) := by unfold octet_GetText.f; rw [if_pos hb]
theorem octInts (l : List Int) (a m : Int) (hb : Oc.okB l = true) (hl : l.length ≤ 1000000000000) : octet_GetInts.f l a m = some (Oc.getIs l a m) := by unfold octet_GetInts.f; rw [if_pos ⟨hb, hl⟩]
theorem octPuts (l xs : List Int) (hx : ∀ x ∈ xs, Oc.ok64 x = true) (hl : l.length ≤ 100000000000) (hm : xs.length ≤ 10000000000) : octet_PutInts.f l xs = some (Oc.putIs l xs) := by
  unfold octet_PutInts.f; rw [if_pos ⟨List.all_eq_true.2 hx, hl, hm⟩]
theorem ok64_nat (n : Nat) (h : n ≤ 1000000000000000) : Oc.ok64 (n : Int) = true := by simp [Oc.ok64]; omega
theorem putI_length (l : List Int) (n : Int) (h : Oc.ok64 n = true) : (Oc.putI l n).length ≤ l.length + 10 := by
  have := Oc.grp_ten _ (Oc.zz_lt n h)
  unfold Oc.putI
  rw [List.length_append]
  omega
/-- A text behind its length. -/
def putT (l : List Int) (s : ByteArray) : List Int := Oc.putI l (s.size : Int) ++ bytesOf s
theorem octPutT (l : List Int) (s : ByteArray) (hl : l.length ≤ 1000000000000) (hs : s.size ≤ 1000000000000) : octet_PutText.f l s = some (putT l s) := by
  have h64 := ok64_nat s.size (by omega)
  have := putI_length l (s.size : Int) h64
  unfold octet_PutText.f
  rw [octPut l _ h64 hl, Option.bind_some, if_pos (by omega)]
  rfl
theorem refPutT (l : List Int) (s : ByteArray) (hl : l.length ≤ 1000000000000) (hs : s.size ≤ 1000000000000) (k : Nat) (hk : 11 ≤ k) : chalklineref01_PutText.f k l s = some (putT l s) := by
  have h64 := ok64_nat s.size (by omega)
  have := putI_length l (s.size : Int) h64
  unfold chalklineref01_PutText.f
  rw [refPut l _ h64 (by omega) k hk, Option.bind_some, if_pos (by omega)]
  rfl
theorem refCount (l : List Int) (a m : Int) (hb : Oc.okB l = true) (hl : l.length ≤ 1000000000000) (k : Nat) (hk : 21 ≤ k) : chalklineref01_count.f k l a m =
    some (if (Oc.getI l a).2.2 ≠ 0 then (0, 0, (Oc.getI l a).2.2) else if (Oc.getI l a).1 < 0 then (0, 0, 11) else if m < (Oc.getI l a).1 then (0, 0, 2) else ((Oc.getI l a).1, (Oc.getI l a).2.1, 0)) := by
  unfold chalklineref01_count.f
  rw [refGet l a hb hl k hk, Option.bind_some]
  by_cases c : (Oc.getI l a).2.2 = 0
  · have e : ¬ (Oc.getI l a).2.2 ≠ 0 := fun h => h c
    rw [if_pos c, if_neg e]
    by_cases c1 : (Oc.getI l a).1 < 0
    · rw [if_pos c1, if_pos c1]
    rw [if_neg c1, if_neg c1]
    by_cases c2 : m < (Oc.getI l a).1
    · rw [if_pos c2, if_pos c2]
    rw [if_neg c2, if_neg c2]
  · rw [if_neg c, if_pos c]
theorem refText (l : List Int) (a m : Int) (hb : Oc.okB l = true) (hl : l.length ≤ 1000000000000) (k : Nat) (hk : 21 ≤ k) : chalklineref01_GetText.f k l a m = some (strOfNums (Oc.getT l a m).1, (Oc.getT l a m).2.1, (Oc.getT l a m).2.2) := by
  unfold chalklineref01_GetText.f
  rw [refCount l a m hb hl k hk, Option.bind_some]
  have hn := Oc.getI_next l a
  unfold Oc.getT
  generalize Oc.getI l a = g at hn ⊢
  obtain ⟨n, f, e⟩ := g
  dsimp only at hn ⊢
  by_cases c : e ≠ 0
  · rw [if_pos c, if_pos c, if_neg c]; rfl
  rw [if_neg c, if_neg c]
  have hn := hn (Decidable.not_not.1 c)
  by_cases c1 : n < 0
  · rw [if_pos c1, if_pos c1]; rfl
  rw [if_neg c1, if_neg c1]
  by_cases c2 : m < n
  · rw [if_pos c2, if_pos c2]; rfl
  have h3 : 0 ≤ n ∧ 0 ≤ f ∧ f ≤ (l.length : Int) := ⟨by omega, by omega, hn.2.2⟩
  rw [if_neg c2, if_neg c2, if_pos rfl, if_pos h3]
  by_cases c3 : (l.length : Int) - f < n
  · rw [if_pos c3, if_pos c3]; rfl
  · rw [if_neg c3, if_neg c3]
theorem ints_loop (l : List Int) (hb : Oc.okB l = true) (hl : l.length ≤ 1000000000000) : ∀ (d m i : Nat) (x : Int) (acc : List Int), 0 ≤ x → x ≤ l.length → (l.length : Int) - x < d → acc.length = i → (i : Int) ≤ x → (i : Int) + m < 9223372036854775808 →
    ∀ k, d + 21 ≤ k → chalklineref01_GetInts.l0 k l ((i + m : Nat) : Int) x acc (i : Int) = some (Oc.getN m l x acc) := by
  intro d
  induction d with
  | zero => intro m i x acc h0 h1 h2; omega
  | succ d ih =>
    intro m i x acc h0 h1 h2 ha hi hm k hk
    obtain ⟨k, rfl⟩ : ∃ j, k = j + 1 := ⟨k - 1, by omega⟩
    rw [chalklineref01_GetInts.l0]
    cases m with
    | zero => rw [if_neg (by omega)]; rfl
    | succ m =>
      have hn := Oc.getI_next l x
      rw [if_pos (by omega), refGet l x hb hl k (by omega), Option.bind_some, Oc.getN]
      by_cases c : (Oc.getI l x).2.2 = 0
      · have hn := hn c
        rw [if_pos c, if_pos c, if_pos (by omega), w64 (n := (i : Int) + 1) (by omega) (by omega), show i + (m + 1) = (i + 1) + m by omega]
        exact ih m (i + 1) _ _ (by omega) hn.2.2 (by omega) (by simp [ha]) (by omega) (by omega) k (by omega)
      · rw [if_neg c, if_neg c]
theorem getI_range (l : List Int) (a : Int) (hb : Oc.okB l = true) : Oc.ok64 (Oc.getI l a).1 = true := by
  have key : ∀ (l : List Int) (i u : Nat), i ≤ 9 → u < 128 ^ i → Oc.okB l = true → Oc.ok64 (Oc.getL l a i u).1 = true := by
    intro l
    induction l with
    | nil => intro i u _ _ _; rfl
    | cons c t ih =>
      intro i u h9 hu hb
      have hc := (Oc.okB_iff _).1 hb c List.mem_cons_self
      have hbt : Oc.okB t = true := (Oc.okB_iff _).2 fun x hx => (Oc.okB_iff _).1 hb x (List.mem_cons_of_mem _ hx)
      rw [Oc.getL]
      by_cases h1 : i = 9 ∧ 1 < c
      · rw [if_pos h1]; rfl
      rw [if_neg h1]
      by_cases h2 : 0 < i ∧ c = 0
      · rw [if_pos h2]; rfl
      rw [if_neg h2]
      have hg := Oc.group_lt u i c hu hc.1 hc.2 h9 h1
      by_cases h3 : c < 128
      · rw [if_pos h3]
        have hlt := hg.2.1
        generalize u + c.toNat % 128 * 128 ^ i = U at hlt
        simp only [Oc.ok64, Bool.and_eq_true, decide_eq_true_eq]
        unfold Oc.unzz
        split <;> omega
      · rw [if_neg h3]
        have hi8 : i ≤ 8 := by
          rcases Nat.lt_or_ge i 9 with h | h
          · omega
          · exact absurd ⟨show i = 9 by omega, show 1 < c by omega⟩ h1
        exact ih (i + 1) _ (by omega) (hg.2.2 hi8) hbt
  unfold Oc.getI
  split
  · rfl
  · split
    · rfl
    · exact key _ 0 0 (by omega) (by simp) (Oc.okB_drop l _ hb)
theorem refInts (l : List Int) (a m : Int) (hb : Oc.okB l = true) (hl : l.length ≤ 1000000000000) (k : Nat) (hk : l.length + 22 ≤ k) : chalklineref01_GetInts.f k l a m = some (Oc.getIs l a m) := by
  unfold chalklineref01_GetInts.f
  rw [refCount l a m hb hl k (by omega), Option.bind_some]
  have hn := Oc.getI_next l a
  have hr := getI_range l a hb
  unfold Oc.getIs
  generalize Oc.getI l a = g at hn hr ⊢
  obtain ⟨n, f, e⟩ := g
  dsimp only at hn hr ⊢
  by_cases c : e ≠ 0
  · rw [if_pos c, if_pos c, if_neg c]
  rw [if_neg c, if_neg c]
  have hn := hn (Decidable.not_not.1 c)
  by_cases c1 : n < 0
  · rw [if_pos c1, if_pos c1]; rfl
  rw [if_neg c1, if_neg c1]
  by_cases c2 : m < n
  · rw [if_pos c2, if_pos c2]; rfl
  rw [if_neg c2, if_neg c2, if_pos rfl]
  obtain ⟨j, rfl⟩ := Int.eq_ofNat_of_zero_le (show 0 ≤ n by omega)
  simp only [Oc.ok64, Bool.and_eq_true, decide_eq_true_eq] at hr
  have := ints_loop l hb hl (l.length + 1) j 0 f [] (by omega) hn.2.2 (by omega) rfl (by omega) (by omega) k (by omega)
  rw [Nat.zero_add] at this
  exact this
theorem puts_loop (xs : List Int) (hx : ∀ x ∈ xs, Oc.ok64 x = true) (hm : xs.length ≤ 10000000000) : ∀ (d i : Nat) (acc : List Int), i + d = xs.length → acc.length ≤ 100000000000 + 10 * (i + 1) → ∀ k, d + 12 ≤ k →
    chalklineref01_PutInts.l0 k xs acc (i : Int) = some ((xs.drop i).foldl Oc.putI acc) := by
  intro d
  induction d with
  | zero =>
    intro i acc hi ha k hk
    obtain ⟨k, rfl⟩ : ∃ j, k = j + 1 := ⟨k - 1, by omega⟩
    rw [chalklineref01_PutInts.l0, if_neg (by omega), List.drop_of_length_le (by omega)]
    rfl
  | succ d ih =>
    intro i acc hi ha k hk
    obtain ⟨k, rfl⟩ : ∃ j, k = j + 1 := ⟨k - 1, by omega⟩
    have hlt : i < xs.length := by omega
    have hok := hx xs[i] (List.getElem_mem hlt)
    have hpl := putI_length acc xs[i] hok
    rw [chalklineref01_PutInts.l0, if_pos (by omega), if_pos (by omega), rd_get xs i hlt, refPut acc _ hok (by omega) k (by omega), Option.bind_some, w64 (n := (i : Int) + 1) (by omega) (by omega), List.drop_eq_getElem_cons hlt]
    exact ih (i + 1) _ (by omega) (by omega) k (by omega)
theorem refPuts (l xs : List Int) (hx : ∀ x ∈ xs, Oc.ok64 x = true) (hl : l.length ≤ 100000000000) (hm : xs.length ≤ 10000000000) (k : Nat) (hk : xs.length + 12 ≤ k) : chalklineref01_PutInts.f k l xs = some (Oc.putIs l xs) := by
  have h64 := ok64_nat xs.length (by omega)
  have hpl := putI_length l (xs.length : Int) h64
  unfold chalklineref01_PutInts.f
  rw [refPut l _ h64 (by omega) k (by omega), Option.bind_some]
  exact puts_loop xs hx hm xs.length 0 _ (by omega) (by omega) k hk
theorem ints_refl (l : List Int) (hl : l.length ≤ 1000000000000) : ∀ k, l.length + 1 ≤ k → chalklineref01_Ints.f k l l = some true := by
  refine up (f := fun k => chalklineref01_Ints.f k l l) (chalklineref01_Ints.mono l l) (k := l.length + 1) ?_
  have key : ∀ (d i : Nat), i + d = l.length → chalklineref01_Ints.l0 (d + 1) l l (i : Int) = some true := by
    intro d
    induction d with
    | zero => intro i h; rw [chalklineref01_Ints.l0, if_neg (by omega)]
    | succ d ih =>
      intro i h
      rw [chalklineref01_Ints.l0, if_pos (by omega), if_pos (by omega), if_pos (by omega), if_pos rfl, w64 (n := (i : Int) + 1) (by omega) (by omega)]
      exact ih (i + 1) (by omega)
  show chalklineref01_Ints.f _ _ _ = _
  unfold chalklineref01_Ints.f
  rw [if_pos rfl]
  exact key l.length 0 (by omega)
end Go.Proofs.Ytodobnmfgcmnnaa.Pure
