/- Parts of the proof of JournalBack; no condition. -/
import Derived.Test.YtfcdaifaocgjfaaGa0
import Derived.Test.YtfcdaifaocgjfaaPla
import Derived.RegionTactic
section
namespace Go.Proofs.Ytfcdaifaocgjfaa.Oc
open Go.RowKit Go.Proofs.YtfcdaifaocgjfaaW.PrintWords Go.Proofs.YtfcdaifaocgjfaaW.PrintLast Go.Proofs.YtfcdaifaocgjfaaW.PrintMore
theorem ofNat64 (a : Nat) (ha : a < 18446744073709551616) : (BitVec.ofInt 64 (a : Int)).toNat = a := by
  rw [BitVec.ofInt_natCast, BitVec.toNat_ofNat]; exact Nat.mod_eq_of_lt (by omega)
theorem u64_or_nat (a b : Nat) (ha : a < 18446744073709551616) (hb : b < 18446744073709551616) : Go.bits .or .u64 (a : Int) (b : Int) = ((a ||| b : Nat) : Int) := by
  have hx : a ||| b < 2 ^ 64 := Nat.or_lt_two_pow (by omega) (by omega)
  show IntKind.u64.wrap ((BitVec.ofInt 64 (a : Int) ||| BitVec.ofInt 64 (b : Int)).toNat : Int) = _
  rw [BitVec.toNat_or, ofNat64 a ha, ofNat64 b hb, IntKind.wrap_u64]
  omega
theorem u64_and_one (a : Nat) (ha : a < 18446744073709551616) : Go.bits .and .u64 (a : Int) 1 = ((a % 2 : Nat) : Int) := by
  show IntKind.u64.wrap ((BitVec.ofInt 64 (a : Int) &&& BitVec.ofInt 64 ((1 : Nat) : Int)).toNat : Int) = _
  rw [BitVec.toNat_and, ofNat64 a ha, ofNat64 1 (by omega), Nat.and_one_is_mod, IntKind.wrap_u64]
  omega
theorem u8_and_127 (c : Int) (h0 : 0 ≤ c) (h1 : c < 256) : Go.bits .and .u8 c 127 = c % 128 := by
  obtain ⟨n, rfl⟩ := Int.eq_ofNat_of_zero_le h0
  show IntKind.u8.wrap ((BitVec.ofInt 8 (n : Int) &&& BitVec.ofInt 8 ((127 : Nat) : Int)).toNat : Int) = _
  have e1 : (BitVec.ofInt 8 (n : Int)).toNat = n := by rw [BitVec.ofInt_natCast, BitVec.toNat_ofNat]; exact Nat.mod_eq_of_lt (by omega)
  have e2 : (BitVec.ofInt 8 ((127 : Nat) : Int)).toNat = 2 ^ 7 - 1 := by decide
  rw [BitVec.toNat_and, e1, e2, Nat.and_two_pow_sub_one_eq_mod, IntKind.wrap_u8]
  omega
theorem i64_xor_zero (x : Int) (h0 : 0 ≤ x) (h1 : x < 9223372036854775808) : Go.bits .xor .i64 x 0 = x := by
  obtain ⟨n, rfl⟩ := Int.eq_ofNat_of_zero_le h0
  show IntKind.i64.wrap ((BitVec.ofInt 64 (n : Int) ^^^ BitVec.ofInt 64 ((0 : Nat) : Int)).toNat : Int) = _
  rw [BitVec.toNat_xor, ofNat64 n (by omega), ofNat64 0 (by omega), Nat.xor_zero]
  exact (IntKind.wrap_i64 _).trans (by omega)
theorem i64_xor_ones (x : Int) (h0 : 0 ≤ x) (h1 : x < 9223372036854775808) : Go.bits .xor .i64 x (-1) = -x - 1 := by
  obtain ⟨n, rfl⟩ := Int.eq_ofNat_of_zero_le h0
  have e : BitVec.ofInt 64 (-1) = BitVec.allOnes 64 := by decide
  show IntKind.i64.wrap ((BitVec.ofInt 64 (n : Int) ^^^ BitVec.ofInt 64 (-1)).toNat : Int) = _
  rw [e, BitVec.xor_allOnes, BitVec.toNat_not, ofNat64 n (by omega)]
  exact (IntKind.wrap_i64 _).trans (by omega)
theorem unzz_bits (u : Nat) (h : u < 18446744073709551616) : Go.bits .xor .i64 (wrap64 ((u : Int) / 2)) (wrap64 (-wrap64 (Go.bits .and .u64 (u : Int) 1))) = unzz u := by
  rw [u64_and_one u h]
  have e : wrap64 ((u : Int) / 2) = ((u / 2 : Nat) : Int) := by unfold wrap64; omega
  rw [e]
  unfold unzz
  rcases Nat.mod_two_eq_zero_or_one u with h2 | h2
  · rw [h2, if_pos rfl, show wrap64 (-wrap64 ((0 : Nat) : Int)) = 0 by unfold wrap64; omega, i64_xor_zero _ (by omega) (by omega)]
  · rw [h2, if_neg (by omega), show wrap64 (-wrap64 ((1 : Nat) : Int)) = -1 by unfold wrap64; omega, i64_xor_ones _ (by omega) (by omega)]
theorem pow7 (k : Nat) : (2 : Nat) ^ (7 * k) = 128 ^ k := by rw [Nat.pow_mul]
theorem pow_le (k : Nat) (h : k ≤ 8) : 128 ^ (k + 1) ≤ 9223372036854775808 := by
  have := Nat.pow_le_pow_right (show 1 ≤ 128 by omega) (show k + 1 ≤ 9 by omega)
  omega
/-- One more group, put in its place. -/
theorem group_lt (un k : Nat) (c : Int) (hu : un < 128 ^ k) (h0 : 0 ≤ c) (h1 : c < 256) (hk : k ≤ 9) (h9 : ¬ (k = 9 ∧ 1 < c)) : c.toNat % 128 * 128 ^ k < 18446744073709551616 ∧ un + c.toNat % 128 * 128 ^ k < 18446744073709551616 ∧ (k ≤ 8 → un + c.toNat % 128 * 128 ^ k < 128 ^ (k + 1)) := by
  rcases Nat.lt_or_ge k 9 with h | h
  · have hp := pow_le k (by omega)
    have hm : c.toNat % 128 * 128 ^ k ≤ 127 * 128 ^ k := Nat.mul_le_mul_right _ (by omega)
    rw [Nat.pow_succ] at hp ⊢
    refine ⟨by omega, by omega, fun _ => by omega⟩
  · obtain rfl : k = 9 := by omega
    have hd : c.toNat % 128 ≤ 1 := by omega
    have hm : c.toNat % 128 * 128 ^ 9 ≤ 1 * 128 ^ 9 := Nat.mul_le_mul_right _ hd
    refine ⟨by omega, by omega, fun h => by omega⟩
theorem group_or (un k : Nat) (c : Int) (hu : un < 128 ^ k) (h0 : 0 ≤ c) (h1 : c < 256) (hk : k ≤ 9) (h9 : ¬ (k = 9 ∧ 1 < c)) :
    Go.bits .or .u64 (un : Int) (IntKind.u64.wrap (c % 128 * 2 ^ (7 * k))) = ((un + c.toNat % 128 * 128 ^ k : Nat) : Int) := by
  have hl := group_lt un k c hu h0 h1 hk h9
  have e : c % 128 * 2 ^ (7 * k) = ((c.toNat % 128 * 128 ^ k : Nat) : Int) := by
    rw [← pow7 k, Int.natCast_mul, Int.natCast_pow]
    congr 1
    omega
  have ew : IntKind.u64.wrap (c % 128 * 2 ^ (7 * k)) = ((c.toNat % 128 * 128 ^ k : Nat) : Int) := by rw [e, IntKind.wrap_u64]; omega
  have hu64 : un < 18446744073709551616 := by omega
  rw [ew, u64_or_nat _ _ hu64 hl.1]
  congr 1
  have := Nat.two_pow_add_eq_or_of_lt (i := 7 * k) (b := un) (by rw [pow7]; exact hu) (c.toNat % 128)
  rw [pow7] at this
  rw [Nat.or_comm, Nat.mul_comm, ← this]
  omega
end Go.Proofs.Ytfcdaifaocgjfaa.Oc
end
section
namespace Go.Proofs.Ytfcdaifaocgjfaa.Pr
open Go.RowKit Go.Proofs.YtfcdaifaocgjfaaW.PrintWords Go.Proofs.YtfcdaifaocgjfaaW.PrintLast Go.Proofs.YtfcdaifaocgjfaaW.PrintMore
attribute [local go_sem] max2_int min2_int max_two min_two max_three min_three max_four min_four   -- for this text's walks alone
set_option linter.unusedVariables false
set_option linter.unusedSimpArgs false
set_option maxHeartbeats 4000000 in
set_option maxRecDepth 100000 in
theorem octet_GetInt.same (A0 : Option Addr) (c0 : Nat) (l0 : List Int) (a1 : Int) (r1 r2 r3 : Int) (w : World) (hr0 : Kd.C (Kd.int .u8) w A0 l0.length l0) (hc0 : l0.length ≤ c0) (hb : Oc.okB l0 = true) (h : Oc.getI l0 a1 = (r1, r2, r3)) :
    Calls Try.prog 73 #[.slice A0 l0.length c0, .int .i64 a1] w fun e w' => e = .returned (.tuple #[.int .i64 r1, .int .i64 r2, .int .i64 r3]) ∧ w' = w := by
  unfold Oc.getI at h
  by_cases h0 : a1 < 0
  · rw [if_pos h0] at h
    simp only [Prod.mk.injEq] at h
    obtain ⟨rfl, rfl, rfl⟩ := h
    have hd : decide (a1 < 0) = true := decide_eq_true h0
    clear hr0 hc0 hb
    go_enter Try.func73, Try.ntmps73
    go_wp2
    go_ret3
    exact ⟨rfl, rfl⟩
  rw [if_neg h0] at h
  have hd0 : decide (a1 < 0) = false := decide_eq_false h0
  by_cases h1 : (l0.length : Int) < a1
  · rw [if_pos h1] at h
    simp only [Prod.mk.injEq] at h
    obtain ⟨rfl, rfl, rfl⟩ := h
    have hd : decide ((l0.length : Int) < a1) = true := decide_eq_true h1
    clear hr0 hc0 hb
    go_enter Try.func73, Try.ntmps73
    go_wp2
    go_ret3
    exact ⟨rfl, rfl⟩
  rw [if_neg h1] at h
  have hd1 : decide ((l0.length : Int) < a1) = false := decide_eq_false h1
  obtain ⟨i0, hi, hz0, hz1, hz2⟩ := info_parts info5
  obtain ⟨A1, hcut1, hA1, hC1⟩ := print_cut_int (P := Try.prog) (k := .u8) 22 5 Try.underlying22 hi hz1 A0 c0 l0 a1 (by omega) (by omega) hc0
  have hR : Kd.C (Kd.int .u8) w A1 (l0.drop a1.toNat).length (l0.drop a1.toNat) := Kd.C_of_reads (h1 := fun _ => rfl) (hA1 w (Kd.reads_of_C hr0))
  have hbr := (Oc.okB_iff _).1 (Oc.okB_drop l0 a1.toNat hb)
  have hal : a1 + (l0.drop a1.toNat).length ≤ 9223372036854775807 := by have := hr0.2.1; rw [List.length_drop]; omega
  clear hA1 h1 hr0 hC1 hb hz0 hz1 hz2 hi
  generalize hrest : l0.drop a1.toNat = rest at h hcut1 hR hbr hal
  generalize hcc : c0 - a1.toNat = c1 at hcut1
  clear hcc hc0 hrest
  have h0' : (0 : Int) ≤ a1 := by omega
  clear h0
  have HB := Aside0.mk hbr
  have HR := Aside0.mk hR
  have H := Aside0.mk h
  clear hbr h
  have hm : rest.length ≤ 9223372036854775807 := by omega
  clear hR
  go_enter Try.func73, Try.ntmps73
  go_wp2
  go_loop [7, 22] (fun u i => ∃ (k un : Nat), k ≤ rest.length ∧ k ≤ 9 ∧ un < 128 ^ k ∧ i = .int .i64 k ∧ u = .int .u64 un ∧ Aside0 (Oc.getL (rest.drop k) a1 k un = (r1, r2, r3))) (fun _ i => rest.length - (intOf i).toNat)
  case atStart => exact ⟨0, 0, Nat.zero_le _, by omega, by simp, rfl, rfl, H⟩
  case round =>
    clear H
    obtain ⟨k, un, hk, hk9, hun, rfl, rfl, HA⟩ := hrel
    by_cases hlt : k < rest.length
    · have HU := Aside0.mk hun
      clear hun
      obtain ⟨ad, rfl, hcell⟩ := Kd.at_int HR.out (k : Int) (by omega) (by omega)
      rw [Int.toNat_natCast] at hcell
      have hc := HB.out (rd rest k) (by simp [rd, List.getD_eq_getElem?_getD, List.getElem?_eq_getElem hlt])
      have hg := HA.out
      rw [List.drop_eq_getElem_cons hlt, Oc.getL] at hg
      rw [show rest[k] = rd rest k by simp [rd, List.getD_eq_getElem?_getD, List.getElem?_eq_getElem hlt]] at hg
      generalize rd rest k = c at hcell hc hg
      clear HA
      by_cases h9 : (k = 9 ∧ 1 < c)
      · rw [if_pos h9] at hg
        simp only [Prod.mk.injEq] at hg
        obtain ⟨rfl, rfl, rfl⟩ := hg
        have hb9 : ((k : Int) == 9) = true := beq_iff_eq.mpr (by omega)
        have hb1 : decide (1 < c) = true := decide_eq_true h9.2
        clear h9 hc
        go_wp2
        go_ret3
        exact ⟨rfl, rfl⟩
      rw [if_neg h9] at hg
      by_cases hz : (0 < k ∧ c = 0)
      · rw [if_pos hz] at hg
        simp only [Prod.mk.injEq] at hg
        obtain ⟨rfl, rfl, rfl⟩ := hg
        obtain ⟨hk0, rfl⟩ := hz
        have hb1 : decide (0 < (k : Int)) = true := decide_eq_true (by omega)
        have hb2 : decide (0 < k) = true := decide_eq_true hk0
        by_cases e9 : k = 9
        · have hb9 : ((k : Int) == 9) = true := beq_iff_eq.mpr (by omega)
          clear hc h9 e9
          go_wp2
          go_ret3
          exact ⟨rfl, rfl⟩
        · have hb9 : ((k : Int) == 9) = false := beq_eq_false_iff_ne.mpr (by omega)
          clear hc h9 e9
          go_wp2
          go_ret3
          exact ⟨rfl, rfl⟩
      rw [if_neg hz] at hg
      have hvc := Oc.u8_and_127 c hc.1 hc.2
      have HV := Aside0.mk (Oc.group_or un k c HU.out hc.1 hc.2 hk9 h9)
      have HL := Aside0.mk (Oc.group_lt un k c HU.out hc.1 hc.2 hk9 h9)
      have H9 := Aside0.mk h9
      clear h9
      generalize hU : un + c.toNat % 128 * 128 ^ k = U at hg HV HL
      clear hU
      have hbs : ∃ b9 b1 bz : Bool, ((k : Int) == 9) = b9 ∧ (b9 = true → decide (1 < c) = false) ∧ decide (0 < (k : Int)) = b1 ∧ decide (0 < k) = b1 ∧ (b1 = true → (c == 0) = false) :=
        ⟨_, _, true, rfl, fun h => decide_eq_false (fun h2 => H9.out ⟨by have := beq_iff_eq.mp h; omega, h2⟩), rfl, by simp, fun h => beq_eq_false_iff_ne.mpr (fun h2 => hz ⟨by have := of_decide_eq_true h; omega, h2⟩)⟩
      obtain ⟨b9, b1, _, hb9, hb9', hb1, hb1', hbz⟩ := hbs
      clear hz
      by_cases h128 : c < 128
      · rw [if_pos h128] at hg
        simp only [Prod.mk.injEq] at hg
        obtain ⟨rfl, rfl, rfl⟩ := hg
        have hb3 : decide (c < 128) = true := decide_eq_true h128
        cases b9 <;> cases b1
        all_goals
          first | replace hb9' := hb9' rfl | clear hb9'
          first | replace hbz := hbz rfl | clear hbz
          go_wp2
          rw [HV.out]
          go_ret3
          exact ⟨by rw [Oc.unzz_bits _ HL.out.2.1]; rfl, rfl⟩
      · rw [if_neg h128] at hg
        have hk8 : k ≤ 8 := by
          rcases Nat.lt_or_ge k 9 with h | h
          · omega
          · exact absurd ⟨show k = 9 by omega, show 1 < c by omega⟩ H9.out
        have HG := Aside0.mk hg
        have HL' := Aside0.mk (HL.out.2.2 hk8)
        have hb3 : decide (c < 128) = false := decide_eq_false h128
        have HV' := HV
        clear hg h128 HV
        cases b9 <;> cases b1
        all_goals
          first | replace hb9' := hb9' rfl | clear hb9'
          first | replace hbz := hbz rfl | clear hbz
          go_wp2
          go_round
          case rel => exact ⟨k + 1, U, by omega, by omega, HL'.out, by go_num, by rw [HV'.out], HG⟩
          case measure => simp [intOf]; omega
    · obtain rfl : k = rest.length := by omega
      have hg := HA.out
      rw [List.drop_length, Oc.getL] at hg
      simp only [Prod.mk.injEq] at hg
      obtain ⟨rfl, rfl, rfl⟩ := hg
      clear HA hk
      go_wp2
      go_ret3
      exact ⟨rfl, rfl⟩
end Go.Proofs.Ytfcdaifaocgjfaa.Pr
end
section
namespace Go.Proofs.Ytfcdaifaocgjfaa.Pr
open Go.RowKit Go.Proofs.YtfcdaifaocgjfaaW.PrintWords Go.Proofs.YtfcdaifaocgjfaaW.PrintLast Go.Proofs.YtfcdaifaocgjfaaW.PrintMore
attribute [local go_sem] max2_int min2_int max_two min_two max_three min_three max_four min_four   -- for this text's walks alone
set_option linter.unusedVariables false
set_option linter.unusedSimpArgs false
/-- The places of a week, one behind another. -/
def week_Get_ws : Nat → List Int → Int → List S76 → List S76 × Int × Int
  | 0, _, a, acc => (acc, a, 0)
  | m + 1, l, a, acc => if (Oc.getI l a).2.2 ≠ 0 then ([], 0, (Oc.getI l a).2.2) else if (Oc.getI l (Oc.getI l a).2.1).2.2 ≠ 0 then ([], 0, (Oc.getI l (Oc.getI l a).2.1).2.2) else
      week_Get_ws m l (Oc.getI l (Oc.getI l a).2.1).2.1 (acc ++ [⟨(Oc.getI l a).1, (Oc.getI l (Oc.getI l a).2.1).1⟩])
def week_Get_w (l : List Int) (a : Int) : List S76 × Int × Int :=
  if (Oc.getI l a).2.2 ≠ 0 then ([], 0, (Oc.getI l a).2.2) else if (Oc.getI l a).1 < 0 then ([], 0, 11) else if 64 < (Oc.getI l a).1 then ([], 0, 2) else
  week_Get_ws (Oc.getI l a).1.toNat l (Oc.getI l a).2.1 []
theorem pad_set (acc : List S76) (m : Nat) (x : S76) : (acc ++ List.replicate (m + 1) z76).set acc.length x = (acc ++ [x]) ++ List.replicate m z76 := by
  rw [List.set_append_right _ _ (Nat.le_refl _), Nat.sub_self, List.replicate_succ, List.set_cons_zero, List.append_assoc]; rfl
theorem pad_get (acc : List S76) (k N : Nat) (h : acc.length = k) (hk : k < N) : (acc ++ List.replicate (N - k) z76).getD k z76 = z76 := by
  subst h
  rw [List.getD_eq_getElem?_getD, List.getElem?_append_right (Nat.le_refl _), Nat.sub_self, List.getElem?_replicate, if_pos (by omega)]
  rfl
theorem set_get (l : List S76) (k : Nat) (x : S76) (h : k < l.length) : (l.set k x).getD k z76 = x := by
  rw [List.getD_eq_getElem?_getD, List.getElem?_set_self h]; rfl
theorem pad_done (acc : List S76) (k N : Nat) (h : acc.length = k) (hk : k < N) (x : S76) : (acc ++ List.replicate (N - k) z76).set k x = (acc ++ [x]) ++ List.replicate (N - (k + 1)) z76 := by
  subst h
  rw [show N - acc.length = (N - (acc.length + 1)) + 1 by omega]
  exact pad_set acc _ x
theorem pad_len (acc : List S76) (k N : Nat) (h : acc.length = k) (hk : k < N) : k < (acc ++ List.replicate (N - k) z76).length := by rw [List.length_append, List.length_replicate]; omega
theorem week_elem {W : World} {base : Nat} {ok : Nat → Prop} {g n cap : Nat} {xs : List S76} (h : Kd.R k76 76 W base ok (.slice (some ⟨g, 0, none⟩) n cap) xs) (k : Nat) (hk : k < n) :
    (∀ j u, ([.int .i64 (xs.getD k z76).f0, .int .i64 (xs.getD k z76).f1] : List Value)[j]? = some u → W.cell? ⟨g, (k : Int).toNat * k76.sz + j, none⟩ = some u) ∧ W.cell? ⟨g, k * 2, none⟩ = some (.int .i64 (xs.getD k z76).f0) ∧ W.cell? ⟨g, k * 2 + 1, none⟩ = some (.int .i64 (xs.getD k z76).f1) ∧ W.frozen? ⟨g, k * 2, none⟩ = false ∧ W.frozen? ⟨g, k * 2 + 1, none⟩ = false := by
  obtain ⟨c, _, hM, hc, hf⟩ := Kd.R_elem h z76 (k : Int) (by omega) (by omega)
  rw [Int.toNat_natCast] at hM hc hf ⊢
  obtain rfl := k76_openM hM
  exact ⟨hc, hc 0 _ rfl, hc 1 _ rfl, hf 0, hf 1⟩
theorem week_put {W : World} {base : Nat} {ok : Nat → Prop} {g n cap : Nat} {xs : List S76} (h : Kd.R k76 76 W base ok (.slice (some ⟨g, 0, none⟩) n cap) xs) (k : Nat) (hk : k < n) (v : Int) :
    (Kd.R k76 76 (W.setCell ⟨g, k * 2, none⟩ (.int .i64 v)) base ok (.slice (some ⟨g, 0, none⟩) n cap) (xs.set k ⟨v, (xs.getD k z76).f1⟩) ∧ W.grownBy (W.setCell ⟨g, k * 2, none⟩ (.int .i64 v)) (some g)) ∧
    (Kd.R k76 76 (W.setCell ⟨g, k * 2 + 1, none⟩ (.int .i64 v)) base ok (.slice (some ⟨g, 0, none⟩) n cap) (xs.set k ⟨(xs.getD k z76).f0, v⟩) ∧ W.grownBy (W.setCell ⟨g, k * 2 + 1, none⟩ (.int .i64 v)) (some g)) := by
  have hc := (week_elem h k hk).1
  have h1 := Kd.R_seg h (k : Int) (by omega) (by omega) (seg := [.int .i64 v]) (j := 0) rfl hc (by show 0 + 1 ≤ 2; omega) (k76_mkM W base (fun _ => False) ⟨v, (xs.getD k z76).f1⟩) (fun _ h => h.elim)
  have h2 := Kd.R_seg h (k : Int) (by omega) (by omega) (seg := [.int .i64 v]) (j := 1) rfl hc (by show 1 + 1 ≤ 2; omega) (k76_mkM W base (fun _ => False) ⟨(xs.getD k z76).f0, v⟩) (fun _ h => h.elim)
  exact ⟨h1, h2⟩
/-- While a week is filled: the result's own cell, the struct in the making, its row. -/
structure Wk (w : World) (X : Nat) (A1 : Option Addr) (N c1 : Nat) (xs : List S76) (W : World) : Prop where
  hb : Below w.heap.size w W
  c0 : W.heap[w.heap.size]? = some (.cells #[.slice none 0 0] 48)
  cx : W.heap[X]? = some (.cells #[.slice A1 N c1] 48)
  row : Kd.R k76 76 W w.heap.size (fun k => k ≠ w.heap.size ∧ k ≠ X) (.slice A1 N c1) xs
  ord : w.heap.size < X ∧ X < W.heap.size
theorem Wk.below {w : World} {X : Nat} {A1 : Option Addr} {N c1 : Nat} {xs : List S76} {W W' : World} (h : Wk w X A1 N c1 xs W) (hb : Below W.heap.size W W') : Wk w X A1 N c1 xs W' :=
  ⟨below_step h.hb hb, (hb.block _ (by have := h.ord; omega)).trans h.c0, (hb.block _ h.ord.2).trans h.cx, Kd.R_below h.row hb, h.ord.1, by have := hb.size; have := h.ord; omega⟩
theorem Wk.grown {w : World} {X g : Nat} {A1 : Option Addr} {N c1 : Nat} {xs xs' : List S76} {W W' : World} (h : Wk w X A1 N c1 xs W) (hr : Kd.R k76 76 W' w.heap.size (fun k => k ≠ w.heap.size ∧ k ≠ X) (.slice A1 N c1) xs') (hb : Below w.heap.size w W') (hg : W.grownBy W' (some g)) (h1 : g ≠ w.heap.size) (h2 : g ≠ X) : Wk w X A1 N c1 xs' W' :=
  ⟨hb, (hg.block _ (by have := h.ord; omega) (fun e => h1 (by injection e with e; omega))).trans h.c0, (hg.block _ h.ord.2 (fun e => h2 (by injection e with e; omega))).trans h.cx, hr, h.ord.1, by have := hg.size; have := h.ord; omega⟩
set_option maxHeartbeats 4000000 in
set_option maxRecDepth 100000 in
theorem week_Get.calls_ (A0 : Option Addr) (c0 : Nat) (l0 : List Int) (a1 : Int) (r1 : List S76) (r2 : Int) (r3 : Int) (w : World) (hr0 : Kd.C (Kd.int .u8) w A0 l0.length l0) (hc0 : l0.length ≤ c0) (hb : Oc.okB l0 = true) (h : week_Get_w l0 a1 = (r1, r2, r3)) :
    Calls Try.prog 74 #[.slice A0 l0.length c0, .int .i64 a1] w fun e w' => ∃ v0_ : Value, e = .returned (.tuple #[.agg #[v0_], .int .i64 r2, .int .i64 r3]) ∧ Kd.R k76 76 w' w.heap.size (fun _ => True) v0_ r1 ∧ Below w.heap.size w w' := by
  unfold week_Get_w at h
  have hn := Oc.getI_next l0 a1
  have GG := Aside0.mk (fun (x : Int) (W : World) (hW : Kd.C (Kd.int .u8) W A0 l0.length l0) => octet_GetInt.same A0 c0 l0 x (Oc.getI l0 x).1 (Oc.getI l0 x).2.1 (Oc.getI l0 x).2.2 W hW hc0 hb rfl)
  have G := Aside0.mk (GG.out a1 (w.alloc (.cells #[.slice none 0 0] 48)) (Kd.C_below hr0 (below_alloc (Below.refl _ _) _)))
  have HR := Aside0.mk hr0
  clear hr0 hb hc0
  generalize Oc.getI l0 a1 = g at G hn h
  obtain ⟨n, f, e⟩ := g
  dsimp only at G hn h
  by_cases he : e = 0
  case neg =>
    rw [if_pos he] at h
    simp only [Prod.mk.injEq] at h
    obtain ⟨rfl, rfl, rfl⟩ := h
    have hb0 : (e != 0) = true := bne_iff_ne.mpr he
    clear hn he
    go_enter Try.func74, Try.ntmps74
    go_wp2_with fail
    refine G.out.mono ?_
    rintro e w1 ⟨rfl, rfl⟩
    go_wp2
    refine bodyPost_ret (v := .tuple #[.agg #[.slice none 0 0], .int .i64 0, .int .i64 e]) (by simp [results, Try.results74, go_sem]) rfl ⟨_, rfl, Kd.R_nil _ _ _ _ _, below_alloc (Below.refl _ _) _⟩
  subst he
  have hn := hn rfl
  rw [if_neg (by simp)] at h
  have hb0 : ((0 : Int) != 0) = false := rfl
  by_cases h0 : n < 0
  · rw [if_pos h0] at h
    simp only [Prod.mk.injEq] at h
    obtain ⟨rfl, rfl, rfl⟩ := h
    have hb1 : decide (n < 0) = true := decide_eq_true h0
    clear hn h0
    go_enter Try.func74, Try.ntmps74
    go_wp2_with fail
    refine G.out.mono ?_
    rintro e w1 ⟨rfl, rfl⟩
    go_wp2
    refine bodyPost_ret (v := .tuple #[.agg #[.slice none 0 0], .int .i64 0, .int .i64 11]) (by simp [results, Try.results74, go_sem]) rfl ⟨_, rfl, Kd.R_nil _ _ _ _ _, below_alloc (Below.refl _ _) _⟩
  rw [if_neg h0] at h
  have hb1 : decide (n < 0) = false := decide_eq_false h0
  by_cases h64 : 64 < n
  · rw [if_pos h64] at h
    simp only [Prod.mk.injEq] at h
    obtain ⟨rfl, rfl, rfl⟩ := h
    have hb2 : decide (64 < n) = true := decide_eq_true h64
    clear hn h0 h64
    go_enter Try.func74, Try.ntmps74
    go_wp2_with fail
    refine G.out.mono ?_
    rintro e w1 ⟨rfl, rfl⟩
    go_wp2
    refine bodyPost_ret (v := .tuple #[.agg #[.slice none 0 0], .int .i64 0, .int .i64 2]) (by simp [results, Try.results74, go_sem]) rfl ⟨_, rfl, Kd.R_nil _ _ _ _ _, below_alloc (Below.refl _ _) _⟩
  rw [if_neg h64] at h
  have hb2 : decide (64 < n) = false := decide_eq_false h64
  obtain ⟨N, rfl⟩ := Int.eq_ofNat_of_zero_le (show 0 ≤ n by omega)
  rw [Int.toNat_natCast] at h
  have hN : N ≤ 64 := by omega
  have H := Aside0.mk h
  clear h h0 h64
  go_enter Try.func74, Try.ntmps74
  go_wp2_with fail
  refine G.out.mono ?_
  rintro e w1 ⟨rfl, rfl⟩
  have HB0 := Aside0.mk (below_alloc (Below.refl w.heap.size w) (.cells #[.slice none 0 0] 48))
  have hc0 : (w.alloc (.cells #[.slice none 0 0] 48)).heap[w.heap.size]? = some (.cells #[.slice none 0 0] 48) := heap_alloc_new w _
  have hs0 : (w.alloc (.cells #[.slice none 0 0] 48)).heap.size = w.heap.size + 1 := by simp
  obtain ⟨W0, hW0⟩ : ∃ W0, w.alloc (.cells #[.slice none 0 0] 48) = W0 := ⟨_, rfl⟩
  rw [hW0] at HB0 hc0 hs0
  rw [hW0]
  have HC0 := Aside0.mk hc0
  have HS0 := Aside0.mk hs0
  clear hc0 hs0 hW0 G
  go_wp2_with (refine Kd.R_make k76 (w0 := w) w.heap.size 76 rfl (N := 33) rfl 46 _ _ rfl (N : Int) rfl rfl Try.underlying46 (.agg #[.int .i64 0, .int .i64 0]) 16 info76 rfl (by decide) (by omega) z76 (ok := fun k => k ≠ w.heap.size) (okp := fun _ => False) (k76_mkM _ _ _ z76) (fun _ h => h.elim) (by have := HS0.out; omega) (by omega) (by omega) HB0.out (by have := HS0.out; omega) ?_; intro v1 w1 ho0 hb1 hg1 hat1; have ho1 : Kd.R k76 76 w1 w.heap.size (fun k => k ≠ w.heap.size) v1 (List.replicate N z76) := ho0; clear ho0; obtain ⟨A1, c1, rfl⟩ := Kd.R_slice ho1; rw [List.length_replicate] at *; have HO1 := Aside0.mk ho1; have HB1 := Aside0.mk hb1; have HG1 := Aside0.mk hg1; clear ho1 hb1 hg1 hat1)
  have hX : Wk w w1.heap.size A1 N c1 (List.replicate N z76) (w1.alloc (.cells #[.slice A1 N c1] 48)) :=
    ⟨below_alloc HB1.out _, (Below.heap_alloc _ _ _ (by have := HB1.out.size; have := HG1.out.size; have := HS0.out; omega)).trans ((HG1.out.block _ (by have := HS0.out; omega) (fun e => by cases e)).trans HC0.out), heap_alloc_new w1 _,
      Kd.R_mono (Kd.R_bound (Kd.R_alloc (Kd.R_bound HO1.out) _)) (fun k hk => ⟨hk.1.1, by have := hk.1.2.2.1; omega⟩), by have := HG1.out.size; have := HS0.out; omega, by simp⟩
  have HX := Aside0.mk hX
  obtain ⟨W2, hW2⟩ : ∃ W2, w1.alloc (.cells #[.slice A1 N c1] 48) = W2 := ⟨_, rfl⟩
  obtain ⟨X, hXe⟩ : ∃ X, w1.heap.size = X := ⟨_, rfl⟩
  rw [hW2, hXe] at HX
  rw [hW2, hXe]
  clear hX hW2 hXe HO1 HB1 HG1 HS0 HC0 HB0
  have hf0 : 0 ≤ f := by have := hn trivial; omega
  have hf1 : f ≤ l0.length := (hn trivial).2.2
  clear hn hb1 hb2
  go_loopw [5, 6, 38] (fun nx e i wr => ∃ (k : Nat) (a : Int) (acc : List S76), k ≤ N ∧ i = .int .i64 k ∧ nx = .int .i64 a ∧ e = .int .i64 0 ∧ 0 ≤ a ∧ a ≤ l0.length ∧ Aside0 (acc.length = k) ∧ Aside0 (week_Get_ws (N - k) l0 a acc = (r1, r2, r3)) ∧ Aside0 (Wk w X A1 N c1 (acc ++ List.replicate (N - k) z76) wr)) (fun _ _ i _ => N - (intOf i).toNat)
  case atStart => exact ⟨0, f, [], Nat.zero_le _, rfl, rfl, rfl, hf0, hf1, ⟨rfl⟩, H, HX⟩
  case round =>
    clear H HX
    obtain ⟨k, a, acc, hk, rfl, rfl, rfl, ha0, ha1, HL, HG, HW⟩ := hrel
    by_cases hlt : k < N
    · obtain ⟨g, cap, hge, hg0, hg1, cells, hgc⟩ := Kd.R_form HW.out.row (by rw [List.length_append, List.length_replicate]; omega)
      have hA : A1 = some ⟨g, 0, none⟩ := by injection hge
      subst hA
      clear hge hgc cells cap
      have hcx : wr.cell? ⟨X, 0, none⟩ = some (.slice (some ⟨g, 0, none⟩) N c1) := by simp [World.cell?, HW.out.cx]
      go_wp2_with fail
      clear hf0 hf1
      have GGs := Aside0.mk (And.intro GG HR)
      clear GG HR
      go_region
      have hblk : ((wr.alloc (.cells #[.pointer (some ⟨g, k * 2, none⟩), .pointer (some ⟨g, k * 2 + 1, none⟩)] 106)).drew).heap[wr.heap.size]? = some (.cells #[.pointer (some ⟨g, k * 2, none⟩), .pointer (some ⟨g, k * 2 + 1, none⟩)] 106) := heap_alloc_new wr _
      have HW3 := Aside0.mk (And.intro (HW.out.below (below_drew (below_alloc (Below.refl _ _) (.cells #[.pointer (some ⟨g, k * 2, none⟩), .pointer (some ⟨g, k * 2 + 1, none⟩)] 106)))) hblk)
      have HPX := Aside0.mk HW.out.ord
      obtain ⟨W3, hW3⟩ : ∃ W3, (wr.alloc (.cells #[.pointer (some ⟨g, k * 2, none⟩), .pointer (some ⟨g, k * 2 + 1, none⟩)] 106)).drew = W3 := ⟨_, rfl⟩
      obtain ⟨P, hP⟩ : ∃ P, wr.heap.size = P := ⟨_, rfl⟩
      rw [hW3, hP] at HW3
      rw [hP] at HPX
      rw [hW3]
      have hPg : g < P := by omega
      clear hblk hW3 HW hcx
      have HG1 := Aside0.mk (And.intro hg1 hP)
      clear hg1
      simp only [hP]
      clear hP
      go_wp2_with fail
      have hHG := HG.out
      rw [show N - k = (N - (k + 1)) + 1 by omega, week_Get_ws] at hHG
      have HG' := Aside0.mk hHG
      clear hHG HG
      go_loopw [5, 6, 53] (fun nx e i wr => ∃ (j : Nat) (b : Int) (xs : List S76), j ≤ 2 ∧ i = .int .i64 j ∧ nx = .int .i64 b ∧ e = .int .i64 0 ∧ 0 ≤ b ∧ b ≤ l0.length ∧ Aside0 (Wk w X (some ⟨g, 0, none⟩) N c1 xs wr ∧ wr.heap[P]? = some (.cells #[.pointer (some ⟨g, k * 2, none⟩), .pointer (some ⟨g, k * 2 + 1, none⟩)] 106)) ∧
        Aside0 ((j = 0 ∧ b = a ∧ xs = acc ++ List.replicate (N - k) z76) ∨ (j = 1 ∧ (Oc.getI l0 a).2.2 = 0 ∧ b = (Oc.getI l0 a).2.1 ∧ xs = (acc ++ List.replicate (N - k) z76).set k ⟨(Oc.getI l0 a).1, 0⟩) ∨
          (j = 2 ∧ (Oc.getI l0 a).2.2 = 0 ∧ (Oc.getI l0 (Oc.getI l0 a).2.1).2.2 = 0 ∧ b = (Oc.getI l0 (Oc.getI l0 a).2.1).2.1 ∧ xs = (acc ++ List.replicate (N - k) z76).set k ⟨(Oc.getI l0 a).1, (Oc.getI l0 (Oc.getI l0 a).2.1).1⟩))) (fun _ _ i _ => 2 - (intOf i).toNat)
      case atStart => exact ⟨0, a, _, by omega, rfl, rfl, rfl, ha0, ha1, HW3, ⟨Or.inl ⟨rfl, rfl, rfl⟩⟩⟩
      case round =>
        clear HW3
        obtain ⟨j, b, xs, hj, rfl, rfl, rfl, hb0', hb1', HW, HI⟩ := hrel
        obtain ⟨hcs, he0, he1, hf0, hf1⟩ := week_elem HW.out.1.row k hlt
        have HCS := Aside0.mk hcs
        clear hcs
        have hp0 : wr.cell? ⟨P, 0, none⟩ = some (.pointer (some ⟨g, k * 2, none⟩)) := by simp [World.cell?, HW.out.2]
        have hp1 : wr.cell? ⟨P, 1, none⟩ = some (.pointer (some ⟨g, k * 2 + 1, none⟩)) := by simp [World.cell?, HW.out.2]
        have hB0 : wr.cell? ⟨w.heap.size, 0, none⟩ = some (.slice none 0 0) := by simp [World.cell?, HW.out.1.c0]
        have hBf : wr.frozen? ⟨w.heap.size, 0, none⟩ = false := by simp [World.frozen?, HW.out.1.c0]
        have G := Aside0.mk (GGs.out.1.out b wr (Kd.C_below GGs.out.2.out HW.out.1.hb))
        have hn := Oc.getI_next l0 b
        have HX := Aside0.mk HW.out.1.hb
        rcases Nat.lt_or_ge j 2 with hj2 | hj2
        · have hjb : ((j : Int) < 2) := by omega
          rcases Nat.lt_or_ge j 1 with hj1 | hj1
          · obtain rfl : j = 0 := by omega
            clear hp1 he1 hf1 hj hj1 hj2 hjb
            have hI : b = a ∧ xs = acc ++ List.replicate (N - k) z76 := by
              rcases HI.out with h | h | h
              · exact h.2
              · omega
              · omega
            obtain ⟨rfl, hxs⟩ := hI
            have HXS := Aside0.mk hxs
            clear hxs HI
            generalize Oc.getI l0 b = gg at G hn HG' ⊢
            obtain ⟨v, nx, e⟩ := gg
            dsimp only at G hn HG'
            have hst := (week_put HW.out.1.row k hlt v).1
            have hgg := HW.out.1.row.1 g (by simp [Value.ownBlock])
            have hW5 := HW.out.1.grown hst.1 (HW.out.1.hb.setCell (p := ⟨g, k * 2, none⟩) hg0 (.int .i64 v)) hst.2 hgg.1 hgg.2
            have hB5 : (wr.setCell ⟨g, k * 2, none⟩ (.int .i64 v)).cell? ⟨w.heap.size, 0, none⟩ = some (.slice none 0 0) := by rw [World.cell?, hW5.c0]; rfl
            have hBf5 : (wr.setCell ⟨g, k * 2, none⟩ (.int .i64 v)).frozen? ⟨w.heap.size, 0, none⟩ = false := by rw [World.frozen?, hW5.c0]; rfl
            have hP5 : (wr.setCell ⟨g, k * 2, none⟩ (.int .i64 v)).heap[P]? = some (.cells #[.pointer (some ⟨g, k * 2, none⟩), .pointer (some ⟨g, k * 2 + 1, none⟩)] 106) := (Below.heap_setCell _ _ _ _ (by show P ≠ g; omega)).trans HW.out.2
            have H5 := Aside0.mk (And.intro hW5 hP5)
            clear hst hgg hW5 hP5 hB0 hBf
            by_cases he : e = 0
            · subst he
              clear hB5 hBf5
              go_wp2_with fail
              refine G.out.mono ?_
              rintro e wr ⟨rfl, rfl⟩
              go_wp2_with fail
              go_roundw
              case rel => exact ⟨1, nx, _, by omega, rfl, rfl, rfl, by have := hn (by first | rfl | trivial); omega, (hn (by first | rfl | trivial)).2.2, H5, ⟨Or.inr (Or.inl ⟨rfl, by first | rfl | trivial, rfl, by rw [HXS.out, pad_get acc k N HL.out hlt]; rfl⟩)⟩⟩
              case measure => simp [intOf]
            · have hb2 : (e != 0) = true := bne_iff_ne.mpr he
              have hg := HG'.out
              rw [if_pos he] at hg
              simp only [Prod.mk.injEq] at hg
              obtain ⟨rfl, rfl, rfl⟩ := hg
              clear hn he
              go_wp2_with fail
              refine G.out.mono ?_
              rintro e wr ⟨rfl, rfl⟩
              go_wp2
              refine bodyPost_ret (v := .tuple #[.agg #[.slice none 0 0], .int .i64 0, .int .i64 e]) (by simp [results, Try.results74, go_sem, hB5]) rfl ⟨_, rfl, Kd.R_nil _ _ _ _ _, by first | exact H5.out.1.hb | exact H5.out.1.hb.setCell (Nat.le_refl _) _⟩
          · obtain rfl : j = 1 := by omega
            clear hp0 he0 hf0 hj hj1 hj2 hjb
            have hI : (Oc.getI l0 a).2.2 = 0 ∧ b = (Oc.getI l0 a).2.1 ∧ xs = (acc ++ List.replicate (N - k) z76).set k ⟨(Oc.getI l0 a).1, 0⟩ := by
              rcases HI.out with h | h | h
              · omega
              · exact h.2
              · omega
            obtain ⟨hE1, rfl, hxs⟩ := hI
            have HXS := Aside0.mk hxs
            have HE1 := Aside0.mk hE1
            clear hxs HI hE1
            generalize Oc.getI l0 (Oc.getI l0 a).2.1 = gg at G hn HG' ⊢
            obtain ⟨v, nx, e⟩ := gg
            dsimp only at G hn HG'
            generalize Oc.getI l0 a = ga at *
            have hst := (week_put HW.out.1.row k hlt v).2
            have hgg := HW.out.1.row.1 g (by simp [Value.ownBlock])
            have hW5 := HW.out.1.grown hst.1 (HW.out.1.hb.setCell (p := ⟨g, k * 2 + 1, none⟩) hg0 (.int .i64 v)) hst.2 hgg.1 hgg.2
            have hB5 : (wr.setCell ⟨g, k * 2 + 1, none⟩ (.int .i64 v)).cell? ⟨w.heap.size, 0, none⟩ = some (.slice none 0 0) := by rw [World.cell?, hW5.c0]; rfl
            have hBf5 : (wr.setCell ⟨g, k * 2 + 1, none⟩ (.int .i64 v)).frozen? ⟨w.heap.size, 0, none⟩ = false := by rw [World.frozen?, hW5.c0]; rfl
            have hP5 : (wr.setCell ⟨g, k * 2 + 1, none⟩ (.int .i64 v)).heap[P]? = some (.cells #[.pointer (some ⟨g, k * 2, none⟩), .pointer (some ⟨g, k * 2 + 1, none⟩)] 106) := (Below.heap_setCell _ _ _ _ (by show P ≠ g; omega)).trans HW.out.2
            have H5 := Aside0.mk (And.intro hW5 hP5)
            clear hst hgg hW5 hP5 hB0 hBf
            by_cases he : e = 0
            · subst he
              clear hB5 hBf5
              go_wp2_with fail
              refine G.out.mono ?_
              rintro e wr ⟨rfl, rfl⟩
              go_wp2_with fail
              go_roundw
              case rel => exact ⟨2, nx, _, by omega, rfl, rfl, rfl, by have := hn (by first | rfl | trivial); omega, (hn (by first | rfl | trivial)).2.2, H5, ⟨Or.inr (Or.inr ⟨rfl, HE1.out, by first | rfl | trivial, rfl, by rw [HXS.out, set_get _ _ _ (pad_len acc k N HL.out hlt), List.set_set]⟩)⟩⟩
              case measure => simp [intOf]
            · have hb2 : (e != 0) = true := bne_iff_ne.mpr he
              have hg := HG'.out
              rw [if_neg (fun h => h HE1.out), if_pos he] at hg
              simp only [Prod.mk.injEq] at hg
              obtain ⟨rfl, rfl, rfl⟩ := hg
              clear hn he
              go_wp2_with fail
              refine G.out.mono ?_
              rintro e wr ⟨rfl, rfl⟩
              go_wp2
              refine bodyPost_ret (v := .tuple #[.agg #[.slice none 0 0], .int .i64 0, .int .i64 e]) (by simp [results, Try.results74, go_sem, hB5]) rfl ⟨_, rfl, Kd.R_nil _ _ _ _ _, by first | exact H5.out.1.hb | exact H5.out.1.hb.setCell (Nat.le_refl _) _⟩
        · obtain rfl : j = 2 := by omega
          clear hp0 hp1 he0 he1 hf0 hf1 hj hj2 hB0 hBf hn G
          have hI : (Oc.getI l0 a).2.2 = 0 ∧ (Oc.getI l0 (Oc.getI l0 a).2.1).2.2 = 0 ∧ b = (Oc.getI l0 (Oc.getI l0 a).2.1).2.1 ∧ xs = (acc ++ List.replicate (N - k) z76).set k ⟨(Oc.getI l0 a).1, (Oc.getI l0 (Oc.getI l0 a).2.1).1⟩ := by
            rcases HI.out with h | h | h
            · omega
            · omega
            · exact h.2
          obtain ⟨hE1, hE2, hbe, hxs⟩ := hI
          have hg := HG'.out
          rw [if_neg (fun h => h hE1), if_neg (fun h => h hE2), ← hbe] at hg
          have hW' := HW.out.1
          rw [hxs, pad_done acc k N HL.out hlt] at hW'
          have HG2 := Aside0.mk hg
          have HW2 := Aside0.mk hW'
          clear hg hW' hxs hbe hE1 hE2 HI HG'
          generalize (Oc.getI l0 (Oc.getI l0 a).2.1).1 = y2 at *
          generalize (Oc.getI l0 a).1 = y1 at *
          go_wp2_with fail
          go_roundw
          case rel => exact ⟨k + 1, b, acc ++ [⟨y1, y2⟩], by omega, by go_num, rfl, rfl, hb0', hb1', ⟨by rw [List.length_append, HL.out]; rfl⟩, HG2, HW2⟩
          case measure => simp [intOf]; omega
    · obtain rfl : k = N := by omega
      have hg := HG.out
      rw [Nat.sub_self, week_Get_ws] at hg
      simp only [Prod.mk.injEq] at hg
      obtain ⟨rfl, rfl, rfl⟩ := hg
      have hw := HW.out
      rw [Nat.sub_self, List.replicate_zero, List.append_nil] at hw
      have HW2 := Aside0.mk hw
      have hcx : wr.cell? ⟨X, 0, none⟩ = some (.slice A1 k c1) := by simp [World.cell?, hw.cx]
      have hB0 : wr.cell? ⟨w.heap.size, 0, none⟩ = some (.slice none 0 0) := by simp [World.cell?, hw.c0]
      have hBf : wr.frozen? ⟨w.heap.size, 0, none⟩ = false := by simp [World.frozen?, hw.c0]
      have hres : (wr.setCell ⟨w.heap.size, 0, none⟩ (.slice A1 k c1)).cell? ⟨w.heap.size, 0, none⟩ = some (.slice A1 k c1) := World.cell?_setCell_same' _ _ _ (by rw [hB0]; rfl)
      clear hw HW HG hlt GG HR
      go_wp2
      refine bodyPost_ret (v := .tuple #[.agg #[.slice A1 k c1], .int .i64 a, .int .i64 0]) (by simp [results, Try.results74, go_sem, hres]) rfl ⟨_, rfl, Kd.R_mono (Kd.R_far HW2.out.row (p := ⟨w.heap.size, 0, none⟩) (fun k_ hk_ => hk_.1) _) (fun _ _ => trivial), HW2.out.hb.setCell (Nat.le_refl _) _⟩
end Go.Proofs.Ytfcdaifaocgjfaa.Pr
end
