-- Written by this session's own program (wip/pp.sh: a patched run of the kit's print, with contracts of my own).
import Derived.Test.YtodobnmfgcmnnaaPr0
import Derived.Test.YtodobnmfgcmnnaaOcB
namespace Go.Proofs.Ytodobnmfgcmnnaa.Pr
open Go.RowKit Go.Proofs.YtodobnmfgcmnnaaW.PrintWords Go.Proofs.YtodobnmfgcmnnaaW.PrintLast Go.Proofs.YtodobnmfgcmnnaaW.PrintMore
attribute [local go_sem] max2_int min2_int max_two min_two max_three min_three max_four min_four   -- for this text's walks alone
set_option linter.unusedVariables false
set_option linter.unusedSimpArgs false

-- HAND Derived.Test.YtodobnmfgcmnnaaOcB
/-! ### octet_GetInt: function 13 -/
def octet_GetInt.f (l0 : List Int) (a1 : Int) : Option (Int × Int × Int) := if Oc.okB l0 = true then some (Oc.getI l0 a1) else none
set_option maxHeartbeats 4000000 in
set_option maxRecDepth 100000 in
theorem octet_GetInt.same (A0 : Option Addr) (c0 : Nat) (l0 : List Int) (a1 : Int) (r1 r2 r3 : Int) (w : World) (hr0 : Kd.C (Kd.int .u8) w A0 l0.length l0) (hc0 : l0.length ≤ c0) (hb : Oc.okB l0 = true) (h : Oc.getI l0 a1 = (r1, r2, r3)) :
    Calls Try.prog 13 #[.slice A0 l0.length c0, .int .i64 a1] w fun e w' => e = .returned (.tuple #[.int .i64 r1, .int .i64 r2, .int .i64 r3]) ∧ w' = w := by
  unfold Oc.getI at h
  by_cases h0 : a1 < 0
  · rw [if_pos h0] at h
    simp only [Prod.mk.injEq] at h
    obtain ⟨rfl, rfl, rfl⟩ := h
    have hd : decide (a1 < 0) = true := decide_eq_true h0
    clear hr0 hc0 hb
    go_enter Try.func13, Try.ntmps13
    go_wp2
    go_ret3
    exact ⟨rfl, rfl⟩
  rw [if_neg h0] at h
  have hd0 : decide (a1 < 0) = false := decide_eq_false h0
  by_cases h1 : (l0.length : Int) < a1
  · rw [if_pos h1] at h
    simp only [Prod.mk.injEq] at h
    obtain ⟨rfl, rfl, rfl⟩ := h
    have hd : decide ((l0.length : Int) < a1) = true := decide_eq_true h1
    clear hr0 hc0 hb
    go_enter Try.func13, Try.ntmps13
    go_wp2
    go_ret3
    exact ⟨rfl, rfl⟩
  rw [if_neg h1] at h
  have hd1 : decide ((l0.length : Int) < a1) = false := decide_eq_false h1
  obtain ⟨i0, hi, hz0, hz1, hz2⟩ := info_parts info5
  obtain ⟨A1, hcut1, hA1, hC1⟩ := print_cut_int (P := Try.prog) (k := .u8) 22 5 Try.underlying22 hi hz1 A0 c0 l0 a1 (by omega) (by omega) hc0
  have hR : Kd.C (Kd.int .u8) w A1 (l0.drop a1.toNat).length (l0.drop a1.toNat) := Kd.C_of_reads (h1 := fun _ => rfl) (hA1 w (Kd.reads_of_C hr0))
  have hbr := (Oc.okB_iff _).1 (Oc.okB_drop l0 a1.toNat hb)
  have hal : a1 + (l0.drop a1.toNat).length ≤ 9223372036854775807 := by have := hr0.2.1; rw [List.length_drop]; omega
  clear hA1 h1 hr0 hC1 hb hz0 hz1 hz2 hi
  generalize hrest : l0.drop a1.toNat = rest at h hcut1 hR hbr hal
  generalize hcc : c0 - a1.toNat = c1 at hcut1
  clear hcc hc0 hrest
  have h0' : (0 : Int) ≤ a1 := by omega
  clear h0
  have HB := Aside0.mk hbr
  have HR := Aside0.mk hR
  have H := Aside0.mk h
  clear hbr h
  have hm : rest.length ≤ 9223372036854775807 := by omega
  clear hR
  go_enter Try.func13, Try.ntmps13
  go_wp2
  go_loop [7, 22] (fun u i => ∃ (k un : Nat), k ≤ rest.length ∧ k ≤ 9 ∧ un < 128 ^ k ∧ i = .int .i64 k ∧ u = .int .u64 un ∧ Aside0 (Oc.getL (rest.drop k) a1 k un = (r1, r2, r3))) (fun _ i => rest.length - (intOf i).toNat)
  case atStart => exact ⟨0, 0, Nat.zero_le _, by omega, by simp, rfl, rfl, H⟩
  case round =>
    clear H
    obtain ⟨k, un, hk, hk9, hun, rfl, rfl, HA⟩ := hrel
    by_cases hlt : k < rest.length
    · have HU := Aside0.mk hun
      clear hun
      obtain ⟨ad, rfl, hcell⟩ := Kd.at_int HR.out (k : Int) (by omega) (by omega)
      rw [Int.toNat_natCast] at hcell
      have hc := HB.out (rd rest k) (by simp [rd, List.getD_eq_getElem?_getD, List.getElem?_eq_getElem hlt])
      have hg := HA.out
      rw [List.drop_eq_getElem_cons hlt, Oc.getL] at hg
      rw [show rest[k] = rd rest k by simp [rd, List.getD_eq_getElem?_getD, List.getElem?_eq_getElem hlt]] at hg
      generalize rd rest k = c at hcell hc hg
      clear HA
      by_cases h9 : (k = 9 ∧ 1 < c)
      · rw [if_pos h9] at hg
        simp only [Prod.mk.injEq] at hg
        obtain ⟨rfl, rfl, rfl⟩ := hg
        have hb9 : ((k : Int) == 9) = true := beq_iff_eq.mpr (by omega)
        have hb1 : decide (1 < c) = true := decide_eq_true h9.2
        clear h9 hc
        go_wp2
        go_ret3
        exact ⟨rfl, rfl⟩
      rw [if_neg h9] at hg
      by_cases hz : (0 < k ∧ c = 0)
      · rw [if_pos hz] at hg
        simp only [Prod.mk.injEq] at hg
        obtain ⟨rfl, rfl, rfl⟩ := hg
        obtain ⟨hk0, rfl⟩ := hz
        have hb1 : decide (0 < (k : Int)) = true := decide_eq_true (by omega)
        have hb2 : decide (0 < k) = true := decide_eq_true hk0
        by_cases e9 : k = 9
        · have hb9 : ((k : Int) == 9) = true := beq_iff_eq.mpr (by omega)
          clear hc h9 e9
          go_wp2
          go_ret3
          exact ⟨rfl, rfl⟩
        · have hb9 : ((k : Int) == 9) = false := beq_eq_false_iff_ne.mpr (by omega)
          clear hc h9 e9
          go_wp2
          go_ret3
          exact ⟨rfl, rfl⟩
      rw [if_neg hz] at hg
      have hvc := Oc.u8_and_127 c hc.1 hc.2
      have HV := Aside0.mk (Oc.group_or un k c HU.out hc.1 hc.2 hk9 h9)
      have HL := Aside0.mk (Oc.group_lt un k c HU.out hc.1 hc.2 hk9 h9)
      have H9 := Aside0.mk h9
      clear h9
      generalize hU : un + c.toNat % 128 * 128 ^ k = U at hg HV HL
      clear hU
      have hbs : ∃ b9 b1 bz : Bool, ((k : Int) == 9) = b9 ∧ (b9 = true → decide (1 < c) = false) ∧ decide (0 < (k : Int)) = b1 ∧ decide (0 < k) = b1 ∧ (b1 = true → (c == 0) = false) :=
        ⟨_, _, true, rfl, fun h => decide_eq_false (fun h2 => H9.out ⟨by have := beq_iff_eq.mp h; omega, h2⟩), rfl, by simp, fun h => beq_eq_false_iff_ne.mpr (fun h2 => hz ⟨by have := of_decide_eq_true h; omega, h2⟩)⟩
      obtain ⟨b9, b1, _, hb9, hb9', hb1, hb1', hbz⟩ := hbs
      clear hz
      by_cases h128 : c < 128
      · rw [if_pos h128] at hg
        simp only [Prod.mk.injEq] at hg
        obtain ⟨rfl, rfl, rfl⟩ := hg
        have hb3 : decide (c < 128) = true := decide_eq_true h128
        cases b9 <;> cases b1
        all_goals
          first | replace hb9' := hb9' rfl | clear hb9'
          first | replace hbz := hbz rfl | clear hbz
          go_wp2
          rw [HV.out]
          go_ret3
          exact ⟨by rw [Oc.unzz_bits _ HL.out.2.1]; rfl, rfl⟩
      · rw [if_neg h128] at hg
        have hk8 : k ≤ 8 := by
          rcases Nat.lt_or_ge k 9 with h | h
          · omega
          · exact absurd ⟨show k = 9 by omega, show 1 < c by omega⟩ H9.out
        have HG := Aside0.mk hg
        have HL' := Aside0.mk (HL.out.2.2 hk8)
        have hb3 : decide (c < 128) = false := decide_eq_false h128
        have HV' := HV
        clear hg h128 HV
        cases b9 <;> cases b1
        all_goals
          first | replace hb9' := hb9' rfl | clear hb9'
          first | replace hbz := hbz rfl | clear hbz
          go_wp2
          go_round
          case rel => exact ⟨k + 1, U, by omega, by omega, HL'.out, by go_num, by rw [HV'.out], HG⟩
          case measure => simp [intOf]; omega
    · obtain rfl : k = rest.length := by omega
      have hg := HA.out
      rw [List.drop_length, Oc.getL] at hg
      simp only [Prod.mk.injEq] at hg
      obtain ⟨rfl, rfl, rfl⟩ := hg
      clear HA hk
      go_wp2
      go_ret3
      exact ⟨rfl, rfl⟩
theorem octet_GetInt.calls (A0 : Option Addr) (c0 : Nat) (l0 : List Int) (a1 : Int) (r1 : Int) (r2 : Int) (r3 : Int) (w : World) (hr0 : Kd.C (Kd.int .u8) w A0 l0.length l0) (hc0 : l0.length ≤ c0) (h : octet_GetInt.f l0 a1 = some (r1, r2, r3)) :
    Calls Try.prog 13 #[.slice A0 l0.length c0, .int .i64 a1] w fun e w' => e = .returned (.tuple #[.int .i64 r1, .int .i64 r2, .int .i64 r3]) ∧ Drawn0 w w' := by
  unfold octet_GetInt.f at h
  split at h
  · rename_i hb
    exact (octet_GetInt.same A0 c0 l0 a1 r1 r2 r3 w hr0 hc0 hb (Option.some.inj h)).mono fun _ _ ⟨he, hw⟩ => ⟨he, hw ▸ Drawn0.refl _⟩
  · exact absurd h (by simp)

end Go.Proofs.Ytodobnmfgcmnnaa.Pr
