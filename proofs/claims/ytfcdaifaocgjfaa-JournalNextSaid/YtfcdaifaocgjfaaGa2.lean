/- Parts of the proof of JournalNext; no condition. -/
import Derived.Test.YtfcdaifaocgjfaaGa0
import Derived.Test.YtfcdaifaocgjfaaPla
section
namespace Go.Proofs.Ytfcdaifaocgjfaa.Pr
open Go.RowKit Go.Proofs.YtfcdaifaocgjfaaW.PrintWords Go.Proofs.YtfcdaifaocgjfaaW.PrintLast Go.Proofs.YtfcdaifaocgjfaaW.PrintMore
attribute [local go_sem] max2_int min2_int max_two min_two max_three min_three max_four min_four   -- for this text's walks alone
set_option linter.unusedVariables false
set_option linter.unusedSimpArgs false
def journal_within.f (a0 : Int) (a1 : Int) (a2 : Int) : Option (Bool) := if a1 ≤ a0 then (some (decide (a0 ≤ a2))) else (some false)
set_option maxHeartbeats 8000000 in
set_option maxRecDepth 100000 in
theorem journal_within.calls (a0 : Int) (a1 : Int) (a2 : Int) (r : Bool) (w : World) (h : journal_within.f a0 a1 a2 = some r) :
    Calls Try.prog 56 #[.int .i64 a0, .int .i64 a1, .int .i64 a2] w fun e w' => e = .returned (.bool r) ∧ Drawn0 w w' := by
  have H : (if a1 ≤ a0 then (some (decide (a0 ≤ a2))) else (some false)) = some r := h
  clear h
  by_cases c4 : a1 ≤ a0
  · rw [if_pos c4] at H
    have c4b0 : decide (a1 ≤ a0) = true := decide_eq_true c4
    clear c4
    obtain rfl := Option.some.inj H
    go_enter Try.func56, Try.ntmps56
    go_wp2
    go_ret
    exact ⟨by first | rfl | (simp; done) | (simp [*]; done), by repeat (first | exact Drawn0.refl _ | apply Drawn0.step)⟩
  · rw [if_neg c4] at H
    have c4b0 : decide (a1 ≤ a0) = false := decide_eq_false c4
    clear c4
    obtain rfl := Option.some.inj H
    go_enter Try.func56, Try.ntmps56
    go_wp2
    go_ret
    exact ⟨by first | rfl | (simp; done) | (simp [*]; done), by repeat (first | exact Drawn0.refl _ | apply Drawn0.step)⟩
def journal_may.f (a0_0 : Int) (l0_1 : List (S76)) (a0_2 : Int) (a0_3 : Bool) : Option (Bool) := (journal_within.f a0_0 1 1099511627776).bind fun t102 => (if t102 = true then ((journal_within.f a0_2 0 1099511627776).bind fun t103 => (if t103 = true then (some (decide ((l0_1.length : Int) ≤ 64))) else (some false))) else (some false))
set_option maxHeartbeats 8000000 in
set_option maxRecDepth 100000 in
theorem journal_may.calls (a0_0 : Int) (A0_1 : Option Addr) (c0_1 : Nat) (l0_1 : List (S76)) (a0_2 : Int) (a0_3 : Bool) (r : Bool) (w : World) (hr0_1 : Kd.C k76 w A0_1 l0_1.length l0_1) (hc0_1 : l0_1.length ≤ c0_1) (h : journal_may.f a0_0 l0_1 a0_2 a0_3 = some r) :
    Calls Try.prog 42 #[.agg #[.int .i64 a0_0, .slice A0_1 l0_1.length c0_1, .int .i64 a0_2, .bool a0_3]] w fun e w' => e = .returned (.bool r) ∧ Below w.heap.size w w' := by
  have hu50 := Try.underlying50
  have HR0_1 := Aside0.mk hr0_1
  have HC0_1 := Aside0.mk hc0_1
  clear hr0_1 hc0_1
  have HB := Aside0.mk (Below.refl w.heap.size w)
  have H : ((journal_within.f a0_0 1 1099511627776).bind fun t102 => (if t102 = true then ((journal_within.f a0_2 0 1099511627776).bind fun t103 => (if t103 = true then (some (decide ((l0_1.length : Int) ≤ 64))) else (some false))) else (some false))) = some r := h
  clear h
  replace H := Option.bind_eq_some_iff.mp H
  obtain ⟨t102, A20, H⟩ := H
  replace H : (if t102 = true then ((journal_within.f a0_2 0 1099511627776).bind fun t103 => (if t103 = true then (some (decide ((l0_1.length : Int) ≤ 64))) else (some false))) else (some false)) = some r := H
  have A2 := Aside0.mk A20
  clear A20
  by_cases c3 : t102 = true
  · subst c3
    have H1 : ((journal_within.f a0_2 0 1099511627776).bind fun t103 => (if t103 = true then (some (decide ((l0_1.length : Int) ≤ 64))) else (some false))) = some r := by rw [if_pos rfl] at H; exact H
    clear H
    have H := H1
    clear H1
    replace H := Option.bind_eq_some_iff.mp H
    obtain ⟨t103, A40, H⟩ := H
    replace H : (if t103 = true then (some (decide ((l0_1.length : Int) ≤ 64))) else (some false)) = some r := H
    have A4 := Aside0.mk A40
    clear A40
    by_cases c5 : t103 = true
    · subst c5
      have H1 : (some (decide ((l0_1.length : Int) ≤ 64))) = some r := by rw [if_pos rfl] at H; exact H
      clear H
      have H := H1
      clear H1
      obtain rfl := Option.some.inj H
      go_enter Try.func42, Try.ntmps42
      go_wp2_with (first | ((with_reducible refine gate_dst (N := 1) rfl ?_); (try (refine gate_guard (by rfl) ?_; dsimp only)); refine box_event ?hg (N := 1) ?hd (cs := #[.int .i64 a0_0, .slice A0_1 l0_1.length c0_1, .int .i64 a0_2, .bool a0_3]) (t := 50) ?hr ?_; (case hd => rfl); (case hg => rfl); (case hr => first | (go_simp; done) | (go_simp; rfl)); intro gb101 hg w6 hbox hb; have n0_ := Aside0.mk (below_step (by repeat (first | (with_reducible first | exact HB.out | apply below_alloc | apply pw_below_drewN | apply below_drew1) | exact HB.out)) hb); have n1_ := Aside0.mk (hbox); have n2_ := Aside0.mk ((by rw [hg]; exact (below_size (by repeat (first | (with_reducible first | exact HB.out | apply below_alloc | apply pw_below_drewN | apply below_drew1) | exact HB.out))) : w.heap.size ≤ gb101)); have n3_ := Aside0.mk ((by rw [hg]; exact (below_size (by repeat (first | (with_reducible first | exact HB.out | apply below_alloc | apply pw_below_drewN | apply below_drew1) | exact HB.out))) : w.heap.size ≤ gb101)); clear HB; have HB := n0_; have BK101 := n1_; have GW101 := n2_; have GE101 := n3_; clear n0_ n1_ n2_ n3_; clear hb hbox hg; have hcz7_0 : w6.cell? ⟨gb101, 0, none⟩ = some (.int .i64 a0_0) := (blk_cell BK101.out 0).trans rfl; have hcz7_1 : w6.cell? ⟨gb101, 1, none⟩ = some (.slice A0_1 l0_1.length c0_1) := (blk_cell BK101.out 1).trans rfl; have hcz7_2 : w6.cell? ⟨gb101, 2, none⟩ = some (.int .i64 a0_2) := (blk_cell BK101.out 2).trans rfl; have hcz7_3 : w6.cell? ⟨gb101, 3, none⟩ = some (.bool a0_3) := (blk_cell BK101.out 3).trans rfl; have hfz7_0 := blk_frozen BK101.out 0; have hfz7_1 := blk_frozen BK101.out 1; have hfz7_2 := blk_frozen BK101.out 2; have hfz7_3 := blk_frozen BK101.out 3) | ((with_reducible refine gate_callee (f := 56) rfl ?_); refine goesL_ (some 5) rfl rfl Try.func56 (by kernel_rfl) rfl #[.int .i64 a0_0, .int .i64 1, .int .i64 1099511627776] rfl (by (try simp only [List.map_toArray, List.map_cons, List.map_nil]); first | done | rfl | (simp only [List.length_drop, List.length_take]; rfl)) ?_; (with_reducible refine (journal_within.calls a0_0 1 1099511627776 true _ A2.out).mono ?_); rintro e w' ⟨rfl, ⟨nd, rfl⟩⟩; refine ⟨_, rfl, ?_⟩) | (go_at_call 56; (with_reducible refine (journal_within.calls a0_2 0 1099511627776 true _ A4.out).mono ?_); rintro e w' ⟨rfl, ⟨nd, rfl⟩⟩))
      go_ret
      exact ⟨by first | rfl | (simp [errW_none, errW_some] <;> rfl) | (simp [*, errW_none, errW_some] <;> rfl), by repeat (first | (with_reducible first | exact HB.out | apply below_alloc | apply pw_below_drewN | apply below_drew1 | refine below_set ?_ GE101.out) | exact HB.out)⟩
    · replace c5 := Bool.eq_false_iff.mpr c5
      subst c5
      have H1 : (some false) = some r := by rw [if_neg (show ¬ (false = true) by decide)] at H; exact H
      clear H
      have H := H1
      clear H1
      obtain rfl := Option.some.inj H
      go_enter Try.func42, Try.ntmps42
      go_wp2_with (first | ((with_reducible refine gate_dst (N := 1) rfl ?_); (try (refine gate_guard (by rfl) ?_; dsimp only)); refine box_event ?hg (N := 1) ?hd (cs := #[.int .i64 a0_0, .slice A0_1 l0_1.length c0_1, .int .i64 a0_2, .bool a0_3]) (t := 50) ?hr ?_; (case hd => rfl); (case hg => rfl); (case hr => first | (go_simp; done) | (go_simp; rfl)); intro gb101 hg w8 hbox hb; have n0_ := Aside0.mk (below_step (by repeat (first | (with_reducible first | exact HB.out | apply below_alloc | apply pw_below_drewN | apply below_drew1) | exact HB.out)) hb); have n1_ := Aside0.mk (hbox); have n2_ := Aside0.mk ((by rw [hg]; exact (below_size (by repeat (first | (with_reducible first | exact HB.out | apply below_alloc | apply pw_below_drewN | apply below_drew1) | exact HB.out))) : w.heap.size ≤ gb101)); have n3_ := Aside0.mk ((by rw [hg]; exact (below_size (by repeat (first | (with_reducible first | exact HB.out | apply below_alloc | apply pw_below_drewN | apply below_drew1) | exact HB.out))) : w.heap.size ≤ gb101)); clear HB; have HB := n0_; have BK101 := n1_; have GW101 := n2_; have GE101 := n3_; clear n0_ n1_ n2_ n3_; clear hb hbox hg; have hcz9_0 : w8.cell? ⟨gb101, 0, none⟩ = some (.int .i64 a0_0) := (blk_cell BK101.out 0).trans rfl; have hcz9_1 : w8.cell? ⟨gb101, 1, none⟩ = some (.slice A0_1 l0_1.length c0_1) := (blk_cell BK101.out 1).trans rfl; have hcz9_2 : w8.cell? ⟨gb101, 2, none⟩ = some (.int .i64 a0_2) := (blk_cell BK101.out 2).trans rfl; have hcz9_3 : w8.cell? ⟨gb101, 3, none⟩ = some (.bool a0_3) := (blk_cell BK101.out 3).trans rfl; have hfz9_0 := blk_frozen BK101.out 0; have hfz9_1 := blk_frozen BK101.out 1; have hfz9_2 := blk_frozen BK101.out 2; have hfz9_3 := blk_frozen BK101.out 3) | ((with_reducible refine gate_callee (f := 56) rfl ?_); refine goesL_ (some 5) rfl rfl Try.func56 (by kernel_rfl) rfl #[.int .i64 a0_0, .int .i64 1, .int .i64 1099511627776] rfl (by (try simp only [List.map_toArray, List.map_cons, List.map_nil]); first | done | rfl | (simp only [List.length_drop, List.length_take]; rfl)) ?_; (with_reducible refine (journal_within.calls a0_0 1 1099511627776 true _ A2.out).mono ?_); rintro e w' ⟨rfl, ⟨nd, rfl⟩⟩; refine ⟨_, rfl, ?_⟩) | (go_at_call 56; (with_reducible refine (journal_within.calls a0_2 0 1099511627776 false _ A4.out).mono ?_); rintro e w' ⟨rfl, ⟨nd, rfl⟩⟩))
      go_ret
      exact ⟨by first | rfl | (simp [errW_none, errW_some] <;> rfl) | (simp [*, errW_none, errW_some] <;> rfl), by repeat (first | (with_reducible first | exact HB.out | apply below_alloc | apply pw_below_drewN | apply below_drew1 | refine below_set ?_ GE101.out) | exact HB.out)⟩
  · replace c3 := Bool.eq_false_iff.mpr c3
    subst c3
    have H1 : (some false) = some r := by rw [if_neg (show ¬ (false = true) by decide)] at H; exact H
    clear H
    have H := H1
    clear H1
    obtain rfl := Option.some.inj H
    go_enter Try.func42, Try.ntmps42
    go_wp2_with (first | ((with_reducible refine gate_dst (N := 1) rfl ?_); (try (refine gate_guard (by rfl) ?_; dsimp only)); refine box_event ?hg (N := 1) ?hd (cs := #[.int .i64 a0_0, .slice A0_1 l0_1.length c0_1, .int .i64 a0_2, .bool a0_3]) (t := 50) ?hr ?_; (case hd => rfl); (case hg => rfl); (case hr => first | (go_simp; done) | (go_simp; rfl)); intro gb101 hg w10 hbox hb; have n0_ := Aside0.mk (below_step (by repeat (first | (with_reducible first | exact HB.out | apply below_alloc | apply pw_below_drewN | apply below_drew1) | exact HB.out)) hb); have n1_ := Aside0.mk (hbox); have n2_ := Aside0.mk ((by rw [hg]; exact (below_size (by repeat (first | (with_reducible first | exact HB.out | apply below_alloc | apply pw_below_drewN | apply below_drew1) | exact HB.out))) : w.heap.size ≤ gb101)); have n3_ := Aside0.mk ((by rw [hg]; exact (below_size (by repeat (first | (with_reducible first | exact HB.out | apply below_alloc | apply pw_below_drewN | apply below_drew1) | exact HB.out))) : w.heap.size ≤ gb101)); clear HB; have HB := n0_; have BK101 := n1_; have GW101 := n2_; have GE101 := n3_; clear n0_ n1_ n2_ n3_; clear hb hbox hg; have hcz11_0 : w10.cell? ⟨gb101, 0, none⟩ = some (.int .i64 a0_0) := (blk_cell BK101.out 0).trans rfl; have hcz11_1 : w10.cell? ⟨gb101, 1, none⟩ = some (.slice A0_1 l0_1.length c0_1) := (blk_cell BK101.out 1).trans rfl; have hcz11_2 : w10.cell? ⟨gb101, 2, none⟩ = some (.int .i64 a0_2) := (blk_cell BK101.out 2).trans rfl; have hcz11_3 : w10.cell? ⟨gb101, 3, none⟩ = some (.bool a0_3) := (blk_cell BK101.out 3).trans rfl; have hfz11_0 := blk_frozen BK101.out 0; have hfz11_1 := blk_frozen BK101.out 1; have hfz11_2 := blk_frozen BK101.out 2; have hfz11_3 := blk_frozen BK101.out 3) | ((with_reducible refine gate_callee (f := 56) rfl ?_); refine goesL_ (some 5) rfl rfl Try.func56 (by kernel_rfl) rfl #[.int .i64 a0_0, .int .i64 1, .int .i64 1099511627776] rfl (by (try simp only [List.map_toArray, List.map_cons, List.map_nil]); first | done | rfl | (simp only [List.length_drop, List.length_take]; rfl)) ?_; (with_reducible refine (journal_within.calls a0_0 1 1099511627776 false _ A2.out).mono ?_); rintro e w' ⟨rfl, ⟨nd, rfl⟩⟩; refine ⟨_, rfl, ?_⟩))
    go_ret
    exact ⟨by first | rfl | (simp [errW_none, errW_some] <;> rfl) | (simp [*, errW_none, errW_some] <;> rfl), by repeat (first | (with_reducible first | exact HB.out | apply below_alloc | apply pw_below_drewN | apply below_drew1 | refine below_set ?_ GE101.out) | exact HB.out)⟩
end Go.Proofs.Ytfcdaifaocgjfaa.Pr
end
section
namespace Go.Proofs.Ytfcdaifaocgjfaa.Oc
open Go.RowKit Go.Proofs.YtfcdaifaocgjfaaW.PrintWords Go.Proofs.YtfcdaifaocgjfaaW.PrintLast Go.Proofs.YtfcdaifaocgjfaaW.PrintMore
theorem ofNat64 (a : Nat) (ha : a < 18446744073709551616) : (BitVec.ofInt 64 (a : Int)).toNat = a := by
  rw [BitVec.ofInt_natCast, BitVec.toNat_ofNat]; exact Nat.mod_eq_of_lt (by omega)
theorem u64_or_nat (a b : Nat) (ha : a < 18446744073709551616) (hb : b < 18446744073709551616) : Go.bits .or .u64 (a : Int) (b : Int) = ((a ||| b : Nat) : Int) := by
  have hx : a ||| b < 2 ^ 64 := Nat.or_lt_two_pow (by omega) (by omega)
  show IntKind.u64.wrap ((BitVec.ofInt 64 (a : Int) ||| BitVec.ofInt 64 (b : Int)).toNat : Int) = _
  rw [BitVec.toNat_or, ofNat64 a ha, ofNat64 b hb, IntKind.wrap_u64]
  omega
theorem u64_and_one (a : Nat) (ha : a < 18446744073709551616) : Go.bits .and .u64 (a : Int) 1 = ((a % 2 : Nat) : Int) := by
  show IntKind.u64.wrap ((BitVec.ofInt 64 (a : Int) &&& BitVec.ofInt 64 ((1 : Nat) : Int)).toNat : Int) = _
  rw [BitVec.toNat_and, ofNat64 a ha, ofNat64 1 (by omega), Nat.and_one_is_mod, IntKind.wrap_u64]
  omega
theorem u8_and_127 (c : Int) (h0 : 0 ≤ c) (h1 : c < 256) : Go.bits .and .u8 c 127 = c % 128 := by
  obtain ⟨n, rfl⟩ := Int.eq_ofNat_of_zero_le h0
  show IntKind.u8.wrap ((BitVec.ofInt 8 (n : Int) &&& BitVec.ofInt 8 ((127 : Nat) : Int)).toNat : Int) = _
  have e1 : (BitVec.ofInt 8 (n : Int)).toNat = n := by rw [BitVec.ofInt_natCast, BitVec.toNat_ofNat]; exact Nat.mod_eq_of_lt (by omega)
  have e2 : (BitVec.ofInt 8 ((127 : Nat) : Int)).toNat = 2 ^ 7 - 1 := by decide
  rw [BitVec.toNat_and, e1, e2, Nat.and_two_pow_sub_one_eq_mod, IntKind.wrap_u8]
  omega
theorem i64_xor_zero (x : Int) (h0 : 0 ≤ x) (h1 : x < 9223372036854775808) : Go.bits .xor .i64 x 0 = x := by
  obtain ⟨n, rfl⟩ := Int.eq_ofNat_of_zero_le h0
  show IntKind.i64.wrap ((BitVec.ofInt 64 (n : Int) ^^^ BitVec.ofInt 64 ((0 : Nat) : Int)).toNat : Int) = _
  rw [BitVec.toNat_xor, ofNat64 n (by omega), ofNat64 0 (by omega), Nat.xor_zero]
  exact (IntKind.wrap_i64 _).trans (by omega)
theorem i64_xor_ones (x : Int) (h0 : 0 ≤ x) (h1 : x < 9223372036854775808) : Go.bits .xor .i64 x (-1) = -x - 1 := by
  obtain ⟨n, rfl⟩ := Int.eq_ofNat_of_zero_le h0
  have e : BitVec.ofInt 64 (-1) = BitVec.allOnes 64 := by decide
  show IntKind.i64.wrap ((BitVec.ofInt 64 (n : Int) ^^^ BitVec.ofInt 64 (-1)).toNat : Int) = _
  rw [e, BitVec.xor_allOnes, BitVec.toNat_not, ofNat64 n (by omega)]
  exact (IntKind.wrap_i64 _).trans (by omega)
theorem unzz_bits (u : Nat) (h : u < 18446744073709551616) : Go.bits .xor .i64 (wrap64 ((u : Int) / 2)) (wrap64 (-wrap64 (Go.bits .and .u64 (u : Int) 1))) = unzz u := by
  rw [u64_and_one u h]
  have e : wrap64 ((u : Int) / 2) = ((u / 2 : Nat) : Int) := by unfold wrap64; omega
  rw [e]
  unfold unzz
  rcases Nat.mod_two_eq_zero_or_one u with h2 | h2
  · rw [h2, if_pos rfl, show wrap64 (-wrap64 ((0 : Nat) : Int)) = 0 by unfold wrap64; omega, i64_xor_zero _ (by omega) (by omega)]
  · rw [h2, if_neg (by omega), show wrap64 (-wrap64 ((1 : Nat) : Int)) = -1 by unfold wrap64; omega, i64_xor_ones _ (by omega) (by omega)]
theorem pow7 (k : Nat) : (2 : Nat) ^ (7 * k) = 128 ^ k := by rw [Nat.pow_mul]
theorem pow_le (k : Nat) (h : k ≤ 8) : 128 ^ (k + 1) ≤ 9223372036854775808 := by
  have := Nat.pow_le_pow_right (show 1 ≤ 128 by omega) (show k + 1 ≤ 9 by omega)
  omega
/-- One more group, put in its place. -/
theorem group_lt (un k : Nat) (c : Int) (hu : un < 128 ^ k) (h0 : 0 ≤ c) (h1 : c < 256) (hk : k ≤ 9) (h9 : ¬ (k = 9 ∧ 1 < c)) : c.toNat % 128 * 128 ^ k < 18446744073709551616 ∧ un + c.toNat % 128 * 128 ^ k < 18446744073709551616 ∧ (k ≤ 8 → un + c.toNat % 128 * 128 ^ k < 128 ^ (k + 1)) := by
  rcases Nat.lt_or_ge k 9 with h | h
  · have hp := pow_le k (by omega)
    have hm : c.toNat % 128 * 128 ^ k ≤ 127 * 128 ^ k := Nat.mul_le_mul_right _ (by omega)
    rw [Nat.pow_succ] at hp ⊢
    refine ⟨by omega, by omega, fun _ => by omega⟩
  · obtain rfl : k = 9 := by omega
    have hd : c.toNat % 128 ≤ 1 := by omega
    have hm : c.toNat % 128 * 128 ^ 9 ≤ 1 * 128 ^ 9 := Nat.mul_le_mul_right _ hd
    refine ⟨by omega, by omega, fun h => by omega⟩
theorem group_or (un k : Nat) (c : Int) (hu : un < 128 ^ k) (h0 : 0 ≤ c) (h1 : c < 256) (hk : k ≤ 9) (h9 : ¬ (k = 9 ∧ 1 < c)) :
    Go.bits .or .u64 (un : Int) (IntKind.u64.wrap (c % 128 * 2 ^ (7 * k))) = ((un + c.toNat % 128 * 128 ^ k : Nat) : Int) := by
  have hl := group_lt un k c hu h0 h1 hk h9
  have e : c % 128 * 2 ^ (7 * k) = ((c.toNat % 128 * 128 ^ k : Nat) : Int) := by
    rw [← pow7 k, Int.natCast_mul, Int.natCast_pow]
    congr 1
    omega
  have ew : IntKind.u64.wrap (c % 128 * 2 ^ (7 * k)) = ((c.toNat % 128 * 128 ^ k : Nat) : Int) := by rw [e, IntKind.wrap_u64]; omega
  have hu64 : un < 18446744073709551616 := by omega
  rw [ew, u64_or_nat _ _ hu64 hl.1]
  congr 1
  have := Nat.two_pow_add_eq_or_of_lt (i := 7 * k) (b := un) (by rw [pow7]; exact hu) (c.toNat % 128)
  rw [pow7] at this
  rw [Nat.or_comm, Nat.mul_comm, ← this]
  omega
end Go.Proofs.Ytfcdaifaocgjfaa.Oc
end
section
namespace Go.Proofs.Ytfcdaifaocgjfaa.Pr
open Go.RowKit Go.Proofs.YtfcdaifaocgjfaaW.PrintWords Go.Proofs.YtfcdaifaocgjfaaW.PrintLast Go.Proofs.YtfcdaifaocgjfaaW.PrintMore
attribute [local go_sem] max2_int min2_int max_two min_two max_three min_three max_four min_four   -- for this text's walks alone
set_option linter.unusedVariables false
set_option linter.unusedSimpArgs false
set_option maxHeartbeats 4000000 in
set_option maxRecDepth 100000 in
theorem octet_GetInt.same (A0 : Option Addr) (c0 : Nat) (l0 : List Int) (a1 : Int) (r1 r2 r3 : Int) (w : World) (hr0 : Kd.C (Kd.int .u8) w A0 l0.length l0) (hc0 : l0.length ≤ c0) (hb : Oc.okB l0 = true) (h : Oc.getI l0 a1 = (r1, r2, r3)) :
    Calls Try.prog 73 #[.slice A0 l0.length c0, .int .i64 a1] w fun e w' => e = .returned (.tuple #[.int .i64 r1, .int .i64 r2, .int .i64 r3]) ∧ w' = w := by
  unfold Oc.getI at h
  by_cases h0 : a1 < 0
  · rw [if_pos h0] at h
    simp only [Prod.mk.injEq] at h
    obtain ⟨rfl, rfl, rfl⟩ := h
    have hd : decide (a1 < 0) = true := decide_eq_true h0
    clear hr0 hc0 hb
    go_enter Try.func73, Try.ntmps73
    go_wp2
    go_ret3
    exact ⟨rfl, rfl⟩
  rw [if_neg h0] at h
  have hd0 : decide (a1 < 0) = false := decide_eq_false h0
  by_cases h1 : (l0.length : Int) < a1
  · rw [if_pos h1] at h
    simp only [Prod.mk.injEq] at h
    obtain ⟨rfl, rfl, rfl⟩ := h
    have hd : decide ((l0.length : Int) < a1) = true := decide_eq_true h1
    clear hr0 hc0 hb
    go_enter Try.func73, Try.ntmps73
    go_wp2
    go_ret3
    exact ⟨rfl, rfl⟩
  rw [if_neg h1] at h
  have hd1 : decide ((l0.length : Int) < a1) = false := decide_eq_false h1
  obtain ⟨i0, hi, hz0, hz1, hz2⟩ := info_parts info5
  obtain ⟨A1, hcut1, hA1, hC1⟩ := print_cut_int (P := Try.prog) (k := .u8) 22 5 Try.underlying22 hi hz1 A0 c0 l0 a1 (by omega) (by omega) hc0
  have hR : Kd.C (Kd.int .u8) w A1 (l0.drop a1.toNat).length (l0.drop a1.toNat) := Kd.C_of_reads (h1 := fun _ => rfl) (hA1 w (Kd.reads_of_C hr0))
  have hbr := (Oc.okB_iff _).1 (Oc.okB_drop l0 a1.toNat hb)
  have hal : a1 + (l0.drop a1.toNat).length ≤ 9223372036854775807 := by have := hr0.2.1; rw [List.length_drop]; omega
  clear hA1 h1 hr0 hC1 hb hz0 hz1 hz2 hi
  generalize hrest : l0.drop a1.toNat = rest at h hcut1 hR hbr hal
  generalize hcc : c0 - a1.toNat = c1 at hcut1
  clear hcc hc0 hrest
  have h0' : (0 : Int) ≤ a1 := by omega
  clear h0
  have HB := Aside0.mk hbr
  have HR := Aside0.mk hR
  have H := Aside0.mk h
  clear hbr h
  have hm : rest.length ≤ 9223372036854775807 := by omega
  clear hR
  go_enter Try.func73, Try.ntmps73
  go_wp2
  go_loop [7, 22] (fun u i => ∃ (k un : Nat), k ≤ rest.length ∧ k ≤ 9 ∧ un < 128 ^ k ∧ i = .int .i64 k ∧ u = .int .u64 un ∧ Aside0 (Oc.getL (rest.drop k) a1 k un = (r1, r2, r3))) (fun _ i => rest.length - (intOf i).toNat)
  case atStart => exact ⟨0, 0, Nat.zero_le _, by omega, by simp, rfl, rfl, H⟩
  case round =>
    clear H
    obtain ⟨k, un, hk, hk9, hun, rfl, rfl, HA⟩ := hrel
    by_cases hlt : k < rest.length
    · have HU := Aside0.mk hun
      clear hun
      obtain ⟨ad, rfl, hcell⟩ := Kd.at_int HR.out (k : Int) (by omega) (by omega)
      rw [Int.toNat_natCast] at hcell
      have hc := HB.out (rd rest k) (by simp [rd, List.getD_eq_getElem?_getD, List.getElem?_eq_getElem hlt])
      have hg := HA.out
      rw [List.drop_eq_getElem_cons hlt, Oc.getL] at hg
      rw [show rest[k] = rd rest k by simp [rd, List.getD_eq_getElem?_getD, List.getElem?_eq_getElem hlt]] at hg
      generalize rd rest k = c at hcell hc hg
      clear HA
      by_cases h9 : (k = 9 ∧ 1 < c)
      · rw [if_pos h9] at hg
        simp only [Prod.mk.injEq] at hg
        obtain ⟨rfl, rfl, rfl⟩ := hg
        have hb9 : ((k : Int) == 9) = true := beq_iff_eq.mpr (by omega)
        have hb1 : decide (1 < c) = true := decide_eq_true h9.2
        clear h9 hc
        go_wp2
        go_ret3
        exact ⟨rfl, rfl⟩
      rw [if_neg h9] at hg
      by_cases hz : (0 < k ∧ c = 0)
      · rw [if_pos hz] at hg
        simp only [Prod.mk.injEq] at hg
        obtain ⟨rfl, rfl, rfl⟩ := hg
        obtain ⟨hk0, rfl⟩ := hz
        have hb1 : decide (0 < (k : Int)) = true := decide_eq_true (by omega)
        have hb2 : decide (0 < k) = true := decide_eq_true hk0
        by_cases e9 : k = 9
        · have hb9 : ((k : Int) == 9) = true := beq_iff_eq.mpr (by omega)
          clear hc h9 e9
          go_wp2
          go_ret3
          exact ⟨rfl, rfl⟩
        · have hb9 : ((k : Int) == 9) = false := beq_eq_false_iff_ne.mpr (by omega)
          clear hc h9 e9
          go_wp2
          go_ret3
          exact ⟨rfl, rfl⟩
      rw [if_neg hz] at hg
      have hvc := Oc.u8_and_127 c hc.1 hc.2
      have HV := Aside0.mk (Oc.group_or un k c HU.out hc.1 hc.2 hk9 h9)
      have HL := Aside0.mk (Oc.group_lt un k c HU.out hc.1 hc.2 hk9 h9)
      have H9 := Aside0.mk h9
      clear h9
      generalize hU : un + c.toNat % 128 * 128 ^ k = U at hg HV HL
      clear hU
      have hbs : ∃ b9 b1 bz : Bool, ((k : Int) == 9) = b9 ∧ (b9 = true → decide (1 < c) = false) ∧ decide (0 < (k : Int)) = b1 ∧ decide (0 < k) = b1 ∧ (b1 = true → (c == 0) = false) :=
        ⟨_, _, true, rfl, fun h => decide_eq_false (fun h2 => H9.out ⟨by have := beq_iff_eq.mp h; omega, h2⟩), rfl, by simp, fun h => beq_eq_false_iff_ne.mpr (fun h2 => hz ⟨by have := of_decide_eq_true h; omega, h2⟩)⟩
      obtain ⟨b9, b1, _, hb9, hb9', hb1, hb1', hbz⟩ := hbs
      clear hz
      by_cases h128 : c < 128
      · rw [if_pos h128] at hg
        simp only [Prod.mk.injEq] at hg
        obtain ⟨rfl, rfl, rfl⟩ := hg
        have hb3 : decide (c < 128) = true := decide_eq_true h128
        cases b9 <;> cases b1
        all_goals
          first | replace hb9' := hb9' rfl | clear hb9'
          first | replace hbz := hbz rfl | clear hbz
          go_wp2
          rw [HV.out]
          go_ret3
          exact ⟨by rw [Oc.unzz_bits _ HL.out.2.1]; rfl, rfl⟩
      · rw [if_neg h128] at hg
        have hk8 : k ≤ 8 := by
          rcases Nat.lt_or_ge k 9 with h | h
          · omega
          · exact absurd ⟨show k = 9 by omega, show 1 < c by omega⟩ H9.out
        have HG := Aside0.mk hg
        have HL' := Aside0.mk (HL.out.2.2 hk8)
        have hb3 : decide (c < 128) = false := decide_eq_false h128
        have HV' := HV
        clear hg h128 HV
        cases b9 <;> cases b1
        all_goals
          first | replace hb9' := hb9' rfl | clear hb9'
          first | replace hbz := hbz rfl | clear hbz
          go_wp2
          go_round
          case rel => exact ⟨k + 1, U, by omega, by omega, HL'.out, by go_num, by rw [HV'.out], HG⟩
          case measure => simp [intOf]; omega
    · obtain rfl : k = rest.length := by omega
      have hg := HA.out
      rw [List.drop_length, Oc.getL] at hg
      simp only [Prod.mk.injEq] at hg
      obtain ⟨rfl, rfl, rfl⟩ := hg
      clear HA hk
      go_wp2
      go_ret3
      exact ⟨rfl, rfl⟩
end Go.Proofs.Ytfcdaifaocgjfaa.Pr
end
