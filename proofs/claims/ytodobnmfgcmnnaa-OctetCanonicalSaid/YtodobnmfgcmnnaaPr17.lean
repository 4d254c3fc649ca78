-- Written by this session's own program (wip/pp.sh: a patched run of the kit's print, with contracts of my own).
import Derived.Test.YtodobnmfgcmnnaaPr0
import Derived.Test.YtodobnmfgcmnnaaPr16
import Derived.Test.YtodobnmfgcmnnaaCutText
namespace Go.Proofs.Ytodobnmfgcmnnaa.Pr
open Go.RowKit Go.Proofs.YtodobnmfgcmnnaaW.PrintWords Go.Proofs.YtodobnmfgcmnnaaW.PrintLast Go.Proofs.YtodobnmfgcmnnaaW.PrintMore
attribute [local go_sem] max2_int min2_int max_two min_two max_three min_three max_four min_four   -- for this text's walks alone
set_option linter.unusedVariables false
set_option linter.unusedSimpArgs false

-- HAND Derived.Test.YtodobnmfgcmnnaaCutText
/-! ### chalklineref01_GetText: function 18 -/
def chalklineref01_GetText.f (k : Nat) (l0 : List Int) (a1 : Int) (a2 : Int) : Option (ByteArray × Int × Int) := (chalklineref01_count.f k l0 a1 a2).bind fun b => if b.2.2 = 0 then (if 0 ≤ b.1 ∧ 0 ≤ b.2.1 ∧ b.2.1 ≤ (l0.length : Int) then some (if (l0.length : Int) - b.2.1 < b.1 then ((⟨#[]⟩ : ByteArray), 0, 10) else (strOfNums ((l0.drop b.2.1.toNat).take b.1.toNat), b.2.1 + b.1, 0)) else none) else some ((⟨#[]⟩ : ByteArray), 0, b.2.2)
theorem chalklineref01_GetText.mono : ∀ a0 a1 a2 k, LeO (chalklineref01_GetText.f k a0 a1 a2) (chalklineref01_GetText.f (k + 1) a0 a1 a2) := by
  intro a0 a1 a2 k
  unfold chalklineref01_GetText.f
  exact LeO.bind (chalklineref01_count.mono _ _ _ _) (fun _ => LeO.refl _)
set_option maxHeartbeats 2000000 in
set_option maxRecDepth 100000 in
theorem chalklineref01_GetText.calls (k : Nat) (A0 : Option Addr) (c0 : Nat) (l0 : List Int) (a1 : Int) (a2 : Int) (r1 : ByteArray) (r2 : Int) (r3 : Int) (w : World) (hr0 : Kd.C (Kd.int .u8) w A0 l0.length l0) (hc0 : l0.length ≤ c0) (h : chalklineref01_GetText.f k l0 a1 a2 = some (r1, r2, r3)) :
    Calls Try.prog 18 #[.slice A0 l0.length c0, .int .i64 a1, .int .i64 a2] w fun e w' => e = .returned (.tuple #[.string r1, .int .i64 r2, .int .i64 r3]) ∧ Drawn0 w w' := by
  unfold chalklineref01_GetText.f at h
  replace h := Option.bind_eq_some_iff.1 h
  obtain ⟨⟨n, f, e⟩, hc, h⟩ := h
  dsimp only at h
  have G := Aside0.mk (chalklineref01_count.calls k A0 c0 l0 a1 a2 n f e w hr0 hc0 hc)
  have hm : l0.length ≤ 9223372036854775807 := hr0.2.1
  by_cases he : e = 0
  · subst he
    rw [if_pos rfl] at h
    by_cases hb : 0 ≤ n ∧ 0 ≤ f ∧ f ≤ (l0.length : Int)
    case neg => rw [if_neg hb] at h; cases h
    rw [if_pos hb] at h
    replace h := Option.some.inj h
    obtain ⟨h0, h1, h2⟩ := hb
    by_cases c : (l0.length : Int) - f < n
    · rw [if_pos c] at h
      simp only [Prod.mk.injEq] at h
      obtain ⟨rfl, rfl, rfl⟩ := h
      have cb : decide ((l0.length : Int) - f < n) = true := decide_eq_true c
      clear hr0 hc0 hc c
      go_enter Try.func18, Try.ntmps18
      go_wp2_with fail
      refine G.out.mono ?_
      rintro e w1 ⟨rfl, ⟨nd, rfl⟩⟩
      go_wp2
      go_ret3
      exact ⟨rfl, by repeat (first | exact Drawn0.refl _ | apply Drawn0.step)⟩
    · rw [if_neg c] at h
      simp only [Prod.mk.injEq] at h
      obtain ⟨rfl, rfl, rfl⟩ := h
      have cb : decide ((l0.length : Int) - f < n) = false := decide_eq_false c
      have hCT := fun m => cut_text A0 c0 l0 f n (w.drewN m) (Kd.C_drewN hr0 m) hc0 h1 h0 (by omega)
      have hb : f + n ≤ 9223372036854775807 := by omega
      have HCT := Aside0.mk hCT
      clear hr0 hc0 hc c hCT
      generalize strOfNums ((l0.drop f.toNat).take n.toNat) = s at HCT ⊢
      go_enter Try.func18, Try.ntmps18
      go_wp2_with fail
      refine G.out.mono ?_
      rintro e w1 ⟨rfl, ⟨nd, rfl⟩⟩
      obtain ⟨A1, c1, m, hs, hv⟩ := HCT.out nd
      go_wp2
      go_ret3
      exact ⟨rfl, by repeat (first | exact Drawn0.refl _ | apply Drawn0.step)⟩
  · rw [if_neg he] at h
    simp only [Option.some.injEq, Prod.mk.injEq] at h
    obtain ⟨rfl, rfl, rfl⟩ := h
    have hb0 : (e != 0) = true := bne_iff_ne.mpr he
    clear hr0 hc0 hc he
    go_enter Try.func18, Try.ntmps18
    go_wp2_with fail
    refine G.out.mono ?_
    rintro e w1 ⟨rfl, ⟨nd, rfl⟩⟩
    go_wp2
    go_ret3
    exact ⟨rfl, by repeat (first | exact Drawn0.refl _ | apply Drawn0.step)⟩

end Go.Proofs.Ytodobnmfgcmnnaa.Pr
