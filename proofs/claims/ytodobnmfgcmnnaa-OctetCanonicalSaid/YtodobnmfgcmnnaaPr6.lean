-- Written by this session's own program (wip/pp.sh: a patched run of the kit's print, with contracts of my own).
import Derived.Test.YtodobnmfgcmnnaaPr0
import Derived.Test.YtodobnmfgcmnnaaPr1
import Derived.Test.YtodobnmfgcmnnaaCutText
namespace Go.Proofs.Ytodobnmfgcmnnaa.Pr
open Go.RowKit Go.Proofs.YtodobnmfgcmnnaaW.PrintWords Go.Proofs.YtodobnmfgcmnnaaW.PrintLast Go.Proofs.YtodobnmfgcmnnaaW.PrintMore
attribute [local go_sem] max2_int min2_int max_two min_two max_three min_three max_four min_four   -- for this text's walks alone
set_option linter.unusedVariables false
set_option linter.unusedSimpArgs false

-- HAND Derived.Test.YtodobnmfgcmnnaaCutText
/-! ### octet_GetText: function 17 -/
theorem str_nil : strOfNums [] = (⟨#[]⟩ : ByteArray) := rfl
def getT1 (l0 : List Int) (n a : Int) : List Int × Int × Int := if (l0.length : Int) - a < n then ([], 0, 10) else ((l0.drop a.toNat).take n.toNat, a + n, 0)
set_option maxHeartbeats 1000000 in
set_option maxRecDepth 100000 in
theorem GetText1 (A0 : Option Addr) (c0 : Nat) (l0 : List Int) (n a : Int) (p : Addr) (w : World) (hr0 : Kd.C (Kd.int .u8) w A0 l0.length l0) (hc0 : l0.length ≤ c0) (hp : w.cell? p = some (.slice A0 l0.length c0)) (h0 : 0 ≤ n) (h1 : 0 ≤ a) (h2 : a ≤ l0.length) :
    Calls Try.prog 29 #[.int .i64 n, .int .i64 a, .pointer (some p)] w fun e w' => e = .returned (.tuple #[.string (strOfNums (getT1 l0 n a).1), .int .i64 (getT1 l0 n a).2.1, .int .i64 (getT1 l0 n a).2.2]) ∧ w' = w := by
  have hm : l0.length ≤ 9223372036854775807 := hr0.2.1
  unfold getT1
  by_cases c : (l0.length : Int) - a < n
  · have cb : decide ((l0.length : Int) - a < n) = true := decide_eq_true c
    rw [if_pos c]
    clear c hr0
    go_enter Try.func29, Try.ntmps29
    go_wp2
    go_ret3
    exact ⟨rfl, rfl⟩
  · have cb : decide ((l0.length : Int) - a < n) = false := decide_eq_false c
    rw [if_neg c]
    obtain ⟨A1, c1, m, hs, hv⟩ := cut_text A0 c0 l0 a n w hr0 hc0 h1 h0 (by omega)
    have hb : a + n ≤ 9223372036854775807 := by omega
    clear c hr0
    generalize strOfNums ((l0.drop a.toNat).take n.toNat) = s at hv ⊢
    go_enter Try.func29, Try.ntmps29
    go_wp2
    go_ret3
    exact ⟨rfl, rfl⟩
theorem getT_eq (l : List Int) (a most : Int) : Oc.getT l a most = if (Oc.getI l a).2.2 ≠ 0 then ([], 0, (Oc.getI l a).2.2) else if (Oc.getI l a).1 < 0 then ([], 0, 11) else if most < (Oc.getI l a).1 then ([], 0, 2) else getT1 l (Oc.getI l a).1 (Oc.getI l a).2.1 := rfl
theorem getT1_err (l : List Int) (n a : Int) (h : (getT1 l n a).2.2 ≠ 0) : getT1 l n a = ([], 0, 10) := by
  unfold getT1 at h ⊢
  by_cases c : (l.length : Int) - a < n
  · rw [if_pos c]
  · rw [if_neg c] at h; exact absurd rfl h
set_option maxHeartbeats 2000000 in
set_option maxRecDepth 100000 in
theorem readT (A0 : Option Addr) (c0 : Nat) (l0 : List Int) (a most : Int) (p : Addr) (w : World) (hr0 : Kd.C (Kd.int .u8) w A0 l0.length l0) (hc0 : l0.length ≤ c0) (hb : Oc.okB l0 = true) (hp : w.cell? p = some (.slice A0 l0.length c0)) :
    Calls Try.prog 28 #[.slice A0 l0.length c0, .int .i64 a, .int .i64 most, .func (.func 29) #[] #[.pointer (some p)]] w fun e w' => e = .returned (.tuple #[.string (strOfNums (Oc.getT l0 a most).1), .int .i64 (Oc.getT l0 a most).2.1, .int .i64 (Oc.getT l0 a most).2.2]) ∧ w' = w := by
  rw [getT_eq]
  have hn := Oc.getI_next l0 a
  have G := Aside0.mk (octet_GetInt.same A0 c0 l0 a (Oc.getI l0 a).1 (Oc.getI l0 a).2.1 (Oc.getI l0 a).2.2 w hr0 hc0 hb rfl)
  have HT := Aside0.mk (fun n f h0 h1 h2 => GetText1 A0 c0 l0 n f p w hr0 hc0 hp h0 h1 h2)
  generalize Oc.getI l0 a = g at G hn ⊢
  obtain ⟨n, f, e⟩ := g
  dsimp only at G hn ⊢
  clear hr0 hc0 hb hp
  by_cases he : e = 0
  · subst he
    have hn := hn rfl
    rw [if_neg (by simp)]
    by_cases h0 : n < 0
    · rw [if_pos h0]
      have hb0 : decide (n < 0) = true := decide_eq_true h0
      clear h0 hn
      go_enter Try.func28, Try.ntmps28
      go_wp2_with fail
      refine G.out.mono ?_
      rintro e w1 ⟨rfl, rfl⟩
      go_wp2_with fail
      go_ret3
      exact ⟨rfl, rfl⟩
    rw [if_neg h0]
    have hb0 : decide (n < 0) = false := decide_eq_false h0
    by_cases hm : most < n
    · rw [if_pos hm]
      have hb1 : decide (most < n) = true := decide_eq_true hm
      clear h0 hn hm
      go_enter Try.func28, Try.ntmps28
      go_wp2_with fail
      refine G.out.mono ?_
      rintro e w1 ⟨rfl, rfl⟩
      go_wp2_with fail
      go_ret3
      exact ⟨rfl, rfl⟩
    rw [if_neg hm]
    have hb1 : decide (most < n) = false := decide_eq_false hm
    have T := Aside0.mk (HT.out n f (by omega) (by omega) hn.2.2)
    have hz := getT1_err l0 n f
    clear hm h0 hn HT
    generalize getT1 l0 n f = g at T hz ⊢
    obtain ⟨s, x, e⟩ := g
    dsimp only at T hz ⊢
    by_cases he : e = 0
    · subst he
      clear hz
      generalize strOfNums s = t at T ⊢
      go_enter Try.func28, Try.ntmps28
      go_wp2_with fail
      refine G.out.mono ?_
      rintro e w1 ⟨rfl, rfl⟩
      go_wp2_with fail
      refine T.out.mono ?_
      rintro e w1 ⟨rfl, rfl⟩
      go_wp2_with fail
      go_ret3
      exact ⟨rfl, rfl⟩
    · have hz := hz he
      simp only [Prod.mk.injEq] at hz
      obtain ⟨rfl, rfl, rfl⟩ := hz
      rw [str_nil] at T ⊢
      clear he
      go_enter Try.func28, Try.ntmps28
      go_wp2_with fail
      refine G.out.mono ?_
      rintro e w1 ⟨rfl, rfl⟩
      go_wp2_with fail
      refine T.out.mono ?_
      rintro e w1 ⟨rfl, rfl⟩
      go_wp2_with fail
      go_ret3
      exact ⟨rfl, rfl⟩
  · rw [if_pos he]
    have hb0 : (e != 0) = true := bne_iff_ne.mpr he
    clear hn he
    go_enter Try.func28, Try.ntmps28
    go_wp2_with fail
    refine G.out.mono ?_
    rintro e w1 ⟨rfl, rfl⟩
    go_wp2_with fail
    go_ret3
    exact ⟨rfl, rfl⟩
def octet_GetText.f (l0 : List Int) (a1 : Int) (a2 : Int) : Option (ByteArray × Int × Int) := if Oc.okB l0 = true then some (strOfNums (Oc.getT l0 a1 a2).1, (Oc.getT l0 a1 a2).2.1, (Oc.getT l0 a1 a2).2.2) else none
set_option maxHeartbeats 2000000 in
set_option maxRecDepth 100000 in
theorem octet_GetText.calls (A0 : Option Addr) (c0 : Nat) (l0 : List Int) (a1 : Int) (a2 : Int) (r1 : ByteArray) (r2 : Int) (r3 : Int) (w : World) (hr0 : Kd.C (Kd.int .u8) w A0 l0.length l0) (hc0 : l0.length ≤ c0) (h : octet_GetText.f l0 a1 a2 = some (r1, r2, r3)) :
    Calls Try.prog 17 #[.slice A0 l0.length c0, .int .i64 a1, .int .i64 a2] w fun e w' => e = .returned (.tuple #[.string r1, .int .i64 r2, .int .i64 r3]) ∧ Below w.heap.size w w' := by
  unfold octet_GetText.f at h
  by_cases hb : Oc.okB l0 = true
  case neg => rw [if_neg hb] at h; cases h
  rw [if_pos hb] at h
  simp only [Option.some.injEq, Prod.mk.injEq] at h
  obtain ⟨rfl, rfl, rfl⟩ := h
  have T := Aside0.mk (fun hp => readT A0 c0 l0 a1 a2 ⟨w.heap.size, 0, none⟩ (w.alloc (.cells #[.slice A0 l0.length c0] 22)) (Kd.C_below hr0 (below_alloc (Below.refl _ _) _)) hc0 hb hp)
  clear hr0 hc0 hb
  go_enter Try.func17, Try.ntmps17
  go_wp2_with fail
  refine (T.out (by simp [go_sem])).mono ?_
  rintro e w1 ⟨rfl, rfl⟩
  go_wp2_with fail
  go_ret3
  exact ⟨rfl, below_alloc (Below.refl _ _) _⟩

end Go.Proofs.Ytodobnmfgcmnnaa.Pr
