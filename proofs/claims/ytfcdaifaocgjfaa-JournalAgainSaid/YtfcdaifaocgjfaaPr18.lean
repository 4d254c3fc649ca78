/- A part of the proof of JournalAgain; no condition. -/
import Derived.Test.YtfcdaifaocgjfaaPr0
import Derived.Test.YtfcdaifaocgjfaaPla
import Derived.Test.YtfcdaifaocgjfaaTab
namespace Go.Proofs.Ytfcdaifaocgjfaa.Pr
open Go.RowKit Go.Proofs.YtfcdaifaocgjfaaW.PrintWords Go.Proofs.YtfcdaifaocgjfaaW.PrintLast Go.Proofs.YtfcdaifaocgjfaaW.PrintMore
attribute [local go_sem] max2_int min2_int max_two min_two max_three min_three max_four min_four   -- for this text's walks alone
set_option linter.unusedVariables false
set_option linter.unusedSimpArgs false
theorem u8_xor_any (n : Nat) (x : Int) : Go.bits .xor .u8 ((n : Int) % 256) x = ((n % 256 ^^^ (x % 256).toNat : Nat) : Int) := by
  show IntKind.u8.wrap ((BitVec.ofInt 8 ((n : Int) % 256) ^^^ BitVec.ofInt 8 x).toNat : Int) = _
  have h1 : (BitVec.ofInt 8 ((n : Int) % 256)).toNat = n % 256 := by rw [BitVec.toNat_ofInt]; omega
  have h2 : (BitVec.ofInt 8 x).toNat = (x % 256).toNat := by rw [BitVec.toNat_ofInt]; rfl
  have h3 : n % 256 ^^^ (x % 256).toNat < 2 ^ 8 := Nat.xor_lt_two_pow (by omega) (by omega)
  rw [BitVec.toNat_xor, h1, h2, IntKind.wrap_u8]
  omega
def seal_Sum.f (l0 : List Int) : Option (Int) := some (Pl.sumI l0)
set_option maxHeartbeats 2000000 in
set_option maxRecDepth 100000 in
theorem seal_Sum.calls (A0 : Option Addr) (c0 : Nat) (l0 : List Int) (r : Int) (w : World) (hr0 : Kd.C (Kd.int .u8) w A0 l0.length l0) (hc0 : l0.length ≤ c0) (h : seal_Sum.f l0 = some r) :
    Calls Try.prog 34 #[.slice A0 l0.length c0] w fun e w' => e = .returned (.int .u32 r) ∧ Below w.heap.size w w' := by
  obtain rfl := Option.some.inj h
  clear h
  have hm : l0.length ≤ 9223372036854775807 := hr0.2.1
  have HR := Aside0.mk hr0
  clear hr0 hc0
  go_enter Try.func34, Try.ntmps34
  go_wp2_with (first
    | (go_at_call 50; refine (table_calls _).mono ?_; rintro e w1 ⟨rfl, hb⟩; have HB := Aside0.mk hb; clear hb)
    | (refine alloc82 rfl rfl ?_; intro g hg w2 hb1 hB1 hs1; have HG := Aside0.mk (show w1.heap.size ≤ g by omega); have HC := Aside0.mk hb1; have HW := Aside0.mk hB1; clear hg hs1 hb1 hB1)
    | (refine store82 rfl _ _ rfl g tabV zeros256 rfl rfl tabV_size zeros256_size tabV_one HC.out HG.out HW.out ?_; intro w3 hb3 hB3; have H3 := Aside0.mk hb3; have H4 := Aside0.mk (HB.out.trans (hB3.mono HB.out.size)); clear hb3 hB3))
  have HR3 := Aside0.mk (Kd.C_below HR.out H4.out)
  clear HR HC HW HG HB
  go_loop [4, 10] (fun n i => ∃ k : Nat, k ≤ l0.length ∧ i = .int .i64 k ∧ n = .int .u32 (Pl.crc 4294967295 (l0.take k) : Nat)) (fun _ i => l0.length - (intOf i).toNat)
  case atStart => exact ⟨0, Nat.zero_le _, rfl, by simp [Pl.crc]⟩
  case round =>
    obtain ⟨k, hk, rfl, rfl⟩ := hrel
    by_cases hlt : k < l0.length
    · obtain ⟨ad, rfl, hcell⟩ := Kd.at_int HR3.out (k : Int) (by omega) (by omega)
      rw [Int.toNat_natCast] at hcell
      have hn : Pl.crc 4294967295 (l0.take k) < 4294967296 := Pl.crc_lt _ _ (by omega)
      have hs : Pl.crc 4294967295 (l0.take (k + 1)) = Pl.st8 (Pl.crc 4294967295 (l0.take k) ^^^ (rd l0 k % 256).toNat) := by
        rw [List.take_succ_eq_append_getElem hlt, Pl.crc_append, Pl.crc_cons, Pl.crc_nil]
        simp [rd, List.getD_eq_getElem?_getD, List.getElem?_eq_getElem hlt]
      generalize hc : Pl.crc 4294967295 (l0.take k) = c at hn hs ⊢
      generalize hx : rd l0 k = x at hcell hs
      have hb8 := u8_xor_any c x
      have hm8 : c % 256 ^^^ (x % 256).toNat < 256 := Nat.xor_lt_two_pow (n := 8) (by omega) (by omega)
      generalize hmm : c % 256 ^^^ (x % 256).toNat = m at hb8 hm8
      have hct : w3.cell? ⟨g, m, none⟩ = some (.int .u32 (Pl.st8 m : Nat)) := by rw [blk_cell H3.out, tabV_at _ hm8]
      have hst : Pl.st8 m < 4294967296 := Pl.st8_lt _ (by omega)
      have hx2 : Go.bits .xor .u32 (Pl.st8 m : Nat) ((c : Int) / 256) = ((Pl.st8 (c ^^^ (x % 256).toNat) : Nat) : Int) := by
        rw [show ((c : Int) / 256) = ((c / 256 : Nat) : Int) by omega, u32_xor _ _ hst (by omega), ← hmm, Pl.st8_table]
      have HS := Aside0.mk hs
      have HX := Aside0.mk hx2
      clear hs hx2 hmm hx hc
      generalize hsm : Pl.st8 m = sm at *
      clear hsm
      go_wp2
      go_round
      case rel => exact ⟨k + 1, by omega, by go_num, by rw [HS.out, ← HX.out]⟩
      case measure => simp [intOf]; omega
    · obtain rfl : k = l0.length := by omega
      go_wp2
      go_ret
      refine ⟨?_, H4.out⟩
      have hc : Pl.crc 4294967295 l0 < 4294967296 := Pl.crc_lt _ _ (by omega)
      have e : Go.bits .xor .u32 IntKind.u32.max ((Pl.crc 4294967295 l0 : Nat) : Int) = Pl.sumI l0 := by
        rw [show IntKind.u32.max = ((4294967295 : Nat) : Int) by decide, u32_xor _ _ (by omega) hc, Nat.xor_comm]
        rfl
      rw [← e]
      rfl
end Go.Proofs.Ytfcdaifaocgjfaa.Pr
