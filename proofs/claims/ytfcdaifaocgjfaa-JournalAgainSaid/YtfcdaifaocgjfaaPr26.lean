/- A part of the proof of JournalAgain; no condition. -/
import Derived.Test.YtfcdaifaocgjfaaPr0
import Derived.Test.YtfcdaifaocgjfaaPla
namespace Go.Proofs.Ytfcdaifaocgjfaa.Pr
open Go.RowKit Go.Proofs.YtfcdaifaocgjfaaW.PrintWords Go.Proofs.YtfcdaifaocgjfaaW.PrintLast Go.Proofs.YtfcdaifaocgjfaaW.PrintMore
attribute [local go_sem] max2_int min2_int max_two min_two max_three min_three max_four min_four   -- for this text's walks alone
set_option linter.unusedVariables false
set_option linter.unusedSimpArgs false
def seal_get.acc (l0 : List Int) (k : Nat) : Nat := (l0.take k).foldl (fun n x => (n * 256 % 4294967296) ||| (x % 4294967296).toNat) 0
def seal_get.f (l0 : List Int) : Option (Int) := if 4 ≤ l0.length then some (Pl.get4 l0 : Nat) else none
theorem u32_or_nat_ (a b : Nat) (ha : a < 4294967296) (hb : b < 4294967296) : Go.bits .or .u32 (a : Int) (b : Int) = ((a ||| b : Nat) : Int) := by
  have hx : a ||| b < 2 ^ 32 := Nat.or_lt_two_pow (by omega) (by omega)
  have e1 : (BitVec.ofInt 32 (a : Int)).toNat = a := by rw [BitVec.ofInt_natCast, BitVec.toNat_ofNat]; exact Nat.mod_eq_of_lt (by omega)
  have e2 : (BitVec.ofInt 32 (b : Int)).toNat = b := by rw [BitVec.ofInt_natCast, BitVec.toNat_ofNat]; exact Nat.mod_eq_of_lt (by omega)
  show IntKind.u32.wrap ((BitVec.ofInt 32 (a : Int) ||| BitVec.ofInt 32 (b : Int)).toNat : Int) = _
  rw [BitVec.toNat_or, e1, e2, IntKind.wrap_u32]
  omega
theorem seal_get.acc_succ (l0 : List Int) (k : Nat) (hk : k < l0.length) : ((seal_get.acc l0 (k + 1) : Nat) : Int) = Go.bits .or .u32 (((seal_get.acc l0 k : Nat) : Int) * 256 % 4294967296) ((rd l0 k) % 4294967296) := by
  have e : seal_get.acc l0 (k + 1) = (seal_get.acc l0 k * 256 % 4294967296) ||| (rd l0 k % 4294967296).toNat := by
    unfold seal_get.acc
    rw [List.take_succ_eq_append_getElem hk, List.foldl_append]
    simp [rd, List.getD_eq_getElem?_getD, List.getElem?_eq_getElem hk]
  rw [e, ← u32_or_nat_ _ _ (by omega) (by omega)]
  congr 1
  · omega
set_option maxHeartbeats 1000000 in
set_option maxRecDepth 100000 in
theorem seal_get.same (A0 : Option Addr) (c0 : Nat) (l0 : List Int) (r : Int) (w : World) (hr0 : Kd.C (Kd.int .u8) w A0 l0.length l0) (hc0 : l0.length ≤ c0) (h : seal_get.f l0 = some r) :
    Calls Try.prog 32 #[.slice A0 l0.length c0] w fun e w' => e = .returned (.int .u32 r) ∧ w' = w := by
  unfold seal_get.f at h
  split at h
  · rename_i h4
    obtain rfl := Option.some.inj h
    clear h
    obtain ⟨i03, hi03, _, hsz3, _⟩ := info_parts info5
    obtain ⟨hcut3, _, _⟩ := print_take_of (P := Try.prog) (Value.int .u8) 0 22 5 .i64 Try.underlying22 hi03 hsz3 A0 c0 l0 4 (by omega) (by omega) hc0
    have ht : (l0.take (Int.toNat 4)).length = 4 := by simp; omega
    rw [ht] at hcut3
    clear ht hi03 hsz3
    have hx : ∀ k, k < 4 → ∃ ad, A0 = some ad ∧ w.cell? (ad.add k) = some (.int .u8 (rd l0 k)) := fun k hk => by
      obtain ⟨ad, e, hc⟩ := Kd.at_int hr0 (k : Int) (by omega) (by omega)
      exact ⟨ad, e, by simpa using hc⟩
    obtain ⟨ad, rfl, _⟩ := hx 0 (by omega)
    have HX := Aside0.mk hx
    clear hx hr0 hc0
    have H4 := Aside0.mk h4
    clear h4
    go_enter Try.func32, Try.ntmps32
    go_wp2
    go_loop [2, 8] (fun n i => ∃ k : Nat, k ≤ 4 ∧ i = .int .i64 k ∧ n = .int .u32 ((seal_get.acc l0 k : Nat) : Int)) (fun _ i => 4 - (intOf i).toNat)
    case atStart => exact ⟨0, by omega, rfl, by simp [seal_get.acc]⟩
    case round =>
      obtain ⟨k, hk, rfl, rfl⟩ := hrel
      by_cases hlt : k < 4
      · obtain ⟨ad', e, hcell⟩ := HX.out k hlt
        obtain rfl : ad = ad' := by injection e
        clear e
        have HS := Aside0.mk (seal_get.acc_succ l0 k (by have := H4.out; omega))
        go_wp2
        go_round
        case rel => exact ⟨k + 1, by omega, by go_num, by rw [HS.out]⟩
        case measure => simp [intOf]; omega
      · obtain rfl : k = 4 := by omega
        go_wp2
        go_ret
        exact ⟨rfl, rfl⟩
  · exact absurd h (by simp)
theorem seal_get.calls (A0 : Option Addr) (c0 : Nat) (l0 : List Int) (r : Int) (w : World) (hr0 : Kd.C (Kd.int .u8) w A0 l0.length l0) (hc0 : l0.length ≤ c0) (h : seal_get.f l0 = some r) :
    Calls Try.prog 32 #[.slice A0 l0.length c0] w fun e w' => e = .returned (.int .u32 r) ∧ Drawn0 w w' :=
  (seal_get.same A0 c0 l0 r w hr0 hc0 h).mono fun _ _ ⟨he, hw⟩ => ⟨he, hw ▸ Drawn0.refl _⟩
end Go.Proofs.Ytfcdaifaocgjfaa.Pr
