/- Parts of the proof of JournalTorn; no condition. -/
import Derived.Test.YtfcdaifaocgjfaaGa0
import Derived.Test.YtfcdaifaocgjfaaGa9
import Derived.Test.YtfcdaifaocgjfaaPr24
section
namespace Go.Proofs.Ytfcdaifaocgjfaa.Pr
open Go.RowKit Go.Proofs.YtfcdaifaocgjfaaW.PrintWords Go.Proofs.YtfcdaifaocgjfaaW.PrintLast Go.Proofs.YtfcdaifaocgjfaaW.PrintMore
attribute [local go_sem] max2_int min2_int max_two min_two max_three min_three max_four min_four   -- for this text's walks alone
set_option linter.unusedVariables false
set_option linter.unusedSimpArgs false
def chalklinelaw34_fits.l0 : Nat → List (S50) → Int → Int → Option (Bool)
  | 0, _, _, _ => none
  | k + 1, x5, x6, x7 => if x7 < x6 then (if 0 ≤ x7 then (if x7 < (x5.length : Int) then (if ((rd_T50 x5 x7).f2) < 0 then (some false) else (if ((rd_T50 x5 x7).f2) > 1099511627776 then (some false) else (if (((rd_T50 x5 x7).f1.f0).length : Int) > 64 then (some false) else (chalklinelaw34_fits.l0 k x5 x6 (wrap64 (x7 + 1)))))) else (none)) else (none)) else (some true)
def chalklinelaw34_fits.f (k : Nat) (l0 : List (S50)) : Option (Bool) := chalklinelaw34_fits.l0 k l0 (l0.length : Int) 0
set_option maxHeartbeats 8000000 in
set_option maxRecDepth 100000 in
theorem chalklinelaw34_fits.calls (k : Nat) (A0 : Option Addr) (c0 : Nat) (l0 : List (S50)) (r : Bool) (w : World) (hr0 : Kd.C k50 w A0 l0.length l0) (hc0 : l0.length ≤ c0) (h : chalklinelaw34_fits.f k l0 = some r) :
    Calls Try.prog 17 #[.slice A0 l0.length c0] w fun e w' => e = .returned (.bool r) ∧ Below w.heap.size w w' := by
  have hu50 := Try.underlying50
  have HR0 := Aside0.mk hr0
  have HC0 := Aside0.mk hc0
  clear hr0 hc0
  have HB := Aside0.mk (Below.refl w.heap.size w)
  have H : (chalklinelaw34_fits.l0 k l0 (l0.length : Int) 0) = some r := h
  clear h
  have H' := Aside0.mk H
  clear H
  go_enter Try.func17, Try.ntmps17
  go_wp2
  go_loopg [7] k (fun kq v7 w' => ∃ (x7_1 : Int), v7 = .int .i64 x7_1 ∧ Aside0 (chalklinelaw34_fits.l0 kq l0 (l0.length : Int) x7_1 = some r) ∧ Aside0 (kq ≤ k) ∧ Aside0 (Below w.heap.size w w'))
  case atStart => exact ⟨(0), (by first | rfl | (simp; done) | (simp [*]; done)), H', ⟨Nat.le_refl _⟩, ⟨by repeat (first | (with_reducible first | exact HB.out | apply below_alloc | apply pw_below_drewN | apply below_drew1) | exact HB.out)⟩⟩
  case round =>
    clear H'
    try clear c1
    obtain ⟨x7_1, rfl, HA, HK1, HB⟩ := hrel
    cases gk with
    | zero => exact absurd HA.out (by simp [chalklinelaw34_fits.l0])
    | succ k1 =>
      have H := HA.out
      clear HA
      simp only [chalklinelaw34_fits.l0] at H
      by_cases c2 : x7_1 < (l0.length : Int)
      · rw [if_pos c2] at H
        have c2b0 : decide (x7_1 < (l0.length : Int)) = true := decide_eq_true c2
        clear c2
        by_cases c3 : 0 ≤ x7_1
        · rw [if_pos c3] at H
          have c3b0 : decide (0 ≤ x7_1) = true := decide_eq_true c3
          clear c3
          by_cases c4 : x7_1 < (l0.length : Int)
          · rw [if_pos c4] at H
            have c4b0 : decide (x7_1 < (l0.length : Int)) = true := decide_eq_true c4
            clear c4
            by_cases c5 : ((rd_T50 l0 x7_1).f2) < 0
            · rw [if_pos c5] at H
              have c5b0 : decide (((rd_T50 l0 x7_1).f2) < 0) = true := decide_eq_true c5
              clear c5
              obtain rfl := Option.some.inj H
              have p237 : 0 ≤ (x7_1 : Int) := of_decide_eq_true (by first | (with_reducible assumption) | assumption)
              have q237 : x7_1 < (l0.length : Int) := of_decide_eq_true (by first | (with_reducible assumption) | assumption)
              obtain ⟨ad237, A237_1, c237_1, e237, hx237_0, hx237_1, hx237_2, hx237_3, hl237_1, hi237_1⟩ := at_T50 HR0.out x7_1 p237 q237
              cases e237
              replace hx237_0 := (HB.out.cell (World.block_lt_of_cell? w _ hx237_0)).trans hx237_0
              replace hx237_1 := (HB.out.cell (World.block_lt_of_cell? w _ hx237_1)).trans hx237_1
              replace hx237_2 := (HB.out.cell (World.block_lt_of_cell? w _ hx237_2)).trans hx237_2
              replace hx237_3 := (HB.out.cell (World.block_lt_of_cell? w _ hx237_3)).trans hx237_3
              have HR237_1 := Aside0.mk hi237_1
              have HC237_1 := Aside0.mk hl237_1
              clear hi237_1 hl237_1
              replace p237 := eq_true p237
              replace q237 := eq_true q237
              go_wp2_with (first | ((with_reducible refine gate_dst (N := 4) rfl ?_); (try (refine gate_guard (by rfl) ?_; dsimp only)); refine box_event ?hg (N := 4) ?hd (cs := #[.int .i64 0, .slice none 0 0, .int .i64 0, .bool false]) (t := 50) ?hr ?_; (case hd => rfl); (case hg => rfl); (case hr => first | (go_simp; done) | (go_simp; rfl)); intro gb238 hg w6 hbox hb; have n0_ := Aside0.mk (below_step (by repeat (first | (with_reducible first | exact HB.out | apply below_alloc | apply pw_below_drewN | apply below_drew1) | exact HB.out)) hb); have n1_ := Aside0.mk (hbox); have n2_ := Aside0.mk ((by rw [hg]; exact (below_size (by repeat (first | (with_reducible first | exact HB.out | apply below_alloc | apply pw_below_drewN | apply below_drew1) | exact HB.out))) : w.heap.size ≤ gb238)); have n3_ := Aside0.mk ((by rw [hg]; exact (below_size (by repeat (first | (with_reducible first | exact HB.out | apply below_alloc | apply pw_below_drewN | apply below_drew1) | exact HB.out))) : w.heap.size ≤ gb238)); clear HB; have HB := n0_; have BK238 := n1_; have GW238 := n2_; have GE238 := n3_; clear n0_ n1_ n2_ n3_; clear hb hbox hg; have hcz7_0 : w6.cell? ⟨gb238, 0, none⟩ = some (.int .i64 0) := (blk_cell BK238.out 0).trans rfl; have hcz7_1 : w6.cell? ⟨gb238, 1, none⟩ = some (.slice none 0 0) := (blk_cell BK238.out 1).trans rfl; have hcz7_2 : w6.cell? ⟨gb238, 2, none⟩ = some (.int .i64 0) := (blk_cell BK238.out 2).trans rfl; have hcz7_3 : w6.cell? ⟨gb238, 3, none⟩ = some (.bool false) := (blk_cell BK238.out 3).trans rfl; have hfz7_0 := blk_frozen BK238.out 0; have hfz7_1 := blk_frozen BK238.out 1; have hfz7_2 := blk_frozen BK238.out 2; have hfz7_3 := blk_frozen BK238.out 3))
              go_ret
              exact ⟨by first | rfl | (simp [errW_none, errW_some] <;> rfl) | (simp [*, errW_none, errW_some] <;> rfl), by repeat (first | (with_reducible first | exact HB.out | apply below_alloc | apply pw_below_drewN | apply below_drew1 | refine below_set ?_ GE238.out) | exact HB.out)⟩
            · rw [if_neg c5] at H
              have c5b0 : decide (((rd_T50 l0 x7_1).f2) < 0) = false := decide_eq_false c5
              clear c5
              by_cases c8 : ((rd_T50 l0 x7_1).f2) > 1099511627776
              · rw [if_pos c8] at H
                have c8b0 : decide (1099511627776 < ((rd_T50 l0 x7_1).f2)) = true := decide_eq_true c8
                clear c8
                obtain rfl := Option.some.inj H
                have p237 : 0 ≤ (x7_1 : Int) := of_decide_eq_true (by first | (with_reducible assumption) | assumption)
                have q237 : x7_1 < (l0.length : Int) := of_decide_eq_true (by first | (with_reducible assumption) | assumption)
                obtain ⟨ad237, A237_1, c237_1, e237, hx237_0, hx237_1, hx237_2, hx237_3, hl237_1, hi237_1⟩ := at_T50 HR0.out x7_1 p237 q237
                cases e237
                replace hx237_0 := (HB.out.cell (World.block_lt_of_cell? w _ hx237_0)).trans hx237_0
                replace hx237_1 := (HB.out.cell (World.block_lt_of_cell? w _ hx237_1)).trans hx237_1
                replace hx237_2 := (HB.out.cell (World.block_lt_of_cell? w _ hx237_2)).trans hx237_2
                replace hx237_3 := (HB.out.cell (World.block_lt_of_cell? w _ hx237_3)).trans hx237_3
                have HR237_1 := Aside0.mk hi237_1
                have HC237_1 := Aside0.mk hl237_1
                clear hi237_1 hl237_1
                replace p237 := eq_true p237
                replace q237 := eq_true q237
                go_wp2_with (first | ((with_reducible refine gate_dst (N := 4) rfl ?_); (try (refine gate_guard (by rfl) ?_; dsimp only)); refine box_event ?hg (N := 4) ?hd (cs := #[.int .i64 0, .slice none 0 0, .int .i64 0, .bool false]) (t := 50) ?hr ?_; (case hd => rfl); (case hg => rfl); (case hr => first | (go_simp; done) | (go_simp; rfl)); intro gb238 hg w9 hbox hb; have n0_ := Aside0.mk (below_step (by repeat (first | (with_reducible first | exact HB.out | apply below_alloc | apply pw_below_drewN | apply below_drew1) | exact HB.out)) hb); have n1_ := Aside0.mk (hbox); have n2_ := Aside0.mk ((by rw [hg]; exact (below_size (by repeat (first | (with_reducible first | exact HB.out | apply below_alloc | apply pw_below_drewN | apply below_drew1) | exact HB.out))) : w.heap.size ≤ gb238)); have n3_ := Aside0.mk ((by rw [hg]; exact (below_size (by repeat (first | (with_reducible first | exact HB.out | apply below_alloc | apply pw_below_drewN | apply below_drew1) | exact HB.out))) : w.heap.size ≤ gb238)); clear HB; have HB := n0_; have BK238 := n1_; have GW238 := n2_; have GE238 := n3_; clear n0_ n1_ n2_ n3_; clear hb hbox hg; have hcz10_0 : w9.cell? ⟨gb238, 0, none⟩ = some (.int .i64 0) := (blk_cell BK238.out 0).trans rfl; have hcz10_1 : w9.cell? ⟨gb238, 1, none⟩ = some (.slice none 0 0) := (blk_cell BK238.out 1).trans rfl; have hcz10_2 : w9.cell? ⟨gb238, 2, none⟩ = some (.int .i64 0) := (blk_cell BK238.out 2).trans rfl; have hcz10_3 : w9.cell? ⟨gb238, 3, none⟩ = some (.bool false) := (blk_cell BK238.out 3).trans rfl; have hfz10_0 := blk_frozen BK238.out 0; have hfz10_1 := blk_frozen BK238.out 1; have hfz10_2 := blk_frozen BK238.out 2; have hfz10_3 := blk_frozen BK238.out 3))
                go_ret
                exact ⟨by first | rfl | (simp [errW_none, errW_some] <;> rfl) | (simp [*, errW_none, errW_some] <;> rfl), by repeat (first | (with_reducible first | exact HB.out | apply below_alloc | apply pw_below_drewN | apply below_drew1 | refine below_set ?_ GE238.out) | exact HB.out)⟩
              · rw [if_neg c8] at H
                have c8b0 : decide (1099511627776 < ((rd_T50 l0 x7_1).f2)) = false := decide_eq_false c8
                clear c8
                by_cases c11 : (((rd_T50 l0 x7_1).f1.f0).length : Int) > 64
                · rw [if_pos c11] at H
                  have c11b0 : decide (64 < (((rd_T50 l0 x7_1).f1.f0).length : Int)) = true := decide_eq_true c11
                  have c11b1 : decide (64 < ((rd_T50 l0 x7_1).f1.f0).length) = true := decide_eq_true (by omega)
                  clear c11
                  obtain rfl := Option.some.inj H
                  have p237 : 0 ≤ (x7_1 : Int) := of_decide_eq_true (by first | (with_reducible assumption) | assumption)
                  have q237 : x7_1 < (l0.length : Int) := of_decide_eq_true (by first | (with_reducible assumption) | assumption)
                  obtain ⟨ad237, A237_1, c237_1, e237, hx237_0, hx237_1, hx237_2, hx237_3, hl237_1, hi237_1⟩ := at_T50 HR0.out x7_1 p237 q237
                  cases e237
                  replace hx237_0 := (HB.out.cell (World.block_lt_of_cell? w _ hx237_0)).trans hx237_0
                  replace hx237_1 := (HB.out.cell (World.block_lt_of_cell? w _ hx237_1)).trans hx237_1
                  replace hx237_2 := (HB.out.cell (World.block_lt_of_cell? w _ hx237_2)).trans hx237_2
                  replace hx237_3 := (HB.out.cell (World.block_lt_of_cell? w _ hx237_3)).trans hx237_3
                  have HR237_1 := Aside0.mk hi237_1
                  have HC237_1 := Aside0.mk hl237_1
                  clear hi237_1 hl237_1
                  replace p237 := eq_true p237
                  replace q237 := eq_true q237
                  go_wp2_with (first | ((with_reducible refine gate_dst (N := 4) rfl ?_); (try (refine gate_guard (by rfl) ?_; dsimp only)); refine box_event ?hg (N := 4) ?hd (cs := #[.int .i64 0, .slice none 0 0, .int .i64 0, .bool false]) (t := 50) ?hr ?_; (case hd => rfl); (case hg => rfl); (case hr => first | (go_simp; done) | (go_simp; rfl)); intro gb238 hg w12 hbox hb; have n0_ := Aside0.mk (below_step (by repeat (first | (with_reducible first | exact HB.out | apply below_alloc | apply pw_below_drewN | apply below_drew1) | exact HB.out)) hb); have n1_ := Aside0.mk (hbox); have n2_ := Aside0.mk ((by rw [hg]; exact (below_size (by repeat (first | (with_reducible first | exact HB.out | apply below_alloc | apply pw_below_drewN | apply below_drew1) | exact HB.out))) : w.heap.size ≤ gb238)); have n3_ := Aside0.mk ((by rw [hg]; exact (below_size (by repeat (first | (with_reducible first | exact HB.out | apply below_alloc | apply pw_below_drewN | apply below_drew1) | exact HB.out))) : w.heap.size ≤ gb238)); clear HB; have HB := n0_; have BK238 := n1_; have GW238 := n2_; have GE238 := n3_; clear n0_ n1_ n2_ n3_; clear hb hbox hg; have hcz13_0 : w12.cell? ⟨gb238, 0, none⟩ = some (.int .i64 0) := (blk_cell BK238.out 0).trans rfl; have hcz13_1 : w12.cell? ⟨gb238, 1, none⟩ = some (.slice none 0 0) := (blk_cell BK238.out 1).trans rfl; have hcz13_2 : w12.cell? ⟨gb238, 2, none⟩ = some (.int .i64 0) := (blk_cell BK238.out 2).trans rfl; have hcz13_3 : w12.cell? ⟨gb238, 3, none⟩ = some (.bool false) := (blk_cell BK238.out 3).trans rfl; have hfz13_0 := blk_frozen BK238.out 0; have hfz13_1 := blk_frozen BK238.out 1; have hfz13_2 := blk_frozen BK238.out 2; have hfz13_3 := blk_frozen BK238.out 3))
                  go_ret
                  exact ⟨by first | rfl | (simp [errW_none, errW_some] <;> rfl) | (simp [*, errW_none, errW_some] <;> rfl), by repeat (first | (with_reducible first | exact HB.out | apply below_alloc | apply pw_below_drewN | apply below_drew1 | refine below_set ?_ GE238.out) | exact HB.out)⟩
                · rw [if_neg c11] at H
                  have c11b0 : decide (64 < (((rd_T50 l0 x7_1).f1.f0).length : Int)) = false := decide_eq_false c11
                  have c11b1 : decide (64 < ((rd_T50 l0 x7_1).f1.f0).length) = false := decide_eq_false (by omega)
                  clear c11
                  have H' := Aside0.mk H
                  clear H
                  have p237 : 0 ≤ (x7_1 : Int) := of_decide_eq_true (by first | (with_reducible assumption) | assumption)
                  have q237 : x7_1 < (l0.length : Int) := of_decide_eq_true (by first | (with_reducible assumption) | assumption)
                  obtain ⟨ad237, A237_1, c237_1, e237, hx237_0, hx237_1, hx237_2, hx237_3, hl237_1, hi237_1⟩ := at_T50 HR0.out x7_1 p237 q237
                  cases e237
                  replace hx237_0 := (HB.out.cell (World.block_lt_of_cell? w _ hx237_0)).trans hx237_0
                  replace hx237_1 := (HB.out.cell (World.block_lt_of_cell? w _ hx237_1)).trans hx237_1
                  replace hx237_2 := (HB.out.cell (World.block_lt_of_cell? w _ hx237_2)).trans hx237_2
                  replace hx237_3 := (HB.out.cell (World.block_lt_of_cell? w _ hx237_3)).trans hx237_3
                  have HR237_1 := Aside0.mk hi237_1
                  have HC237_1 := Aside0.mk hl237_1
                  clear hi237_1 hl237_1
                  replace p237 := eq_true p237
                  replace q237 := eq_true q237
                  go_wp2_with (first | ((with_reducible refine gate_dst (N := 4) rfl ?_); (try (refine gate_guard (by rfl) ?_; dsimp only)); refine box_event ?hg (N := 4) ?hd (cs := #[.int .i64 0, .slice none 0 0, .int .i64 0, .bool false]) (t := 50) ?hr ?_; (case hd => rfl); (case hg => rfl); (case hr => first | (go_simp; done) | (go_simp; rfl)); intro gb238 hg w14 hbox hb; have n0_ := Aside0.mk (below_step (by repeat (first | (with_reducible first | exact HB.out | apply below_alloc | apply pw_below_drewN | apply below_drew1) | exact HB.out)) hb); have n1_ := Aside0.mk (hbox); have n2_ := Aside0.mk ((by rw [hg]; exact (below_size (by repeat (first | (with_reducible first | exact HB.out | apply below_alloc | apply pw_below_drewN | apply below_drew1) | exact HB.out))) : w.heap.size ≤ gb238)); have n3_ := Aside0.mk ((by rw [hg]; exact (below_size (by repeat (first | (with_reducible first | exact HB.out | apply below_alloc | apply pw_below_drewN | apply below_drew1) | exact HB.out))) : w.heap.size ≤ gb238)); clear HB; have HB := n0_; have BK238 := n1_; have GW238 := n2_; have GE238 := n3_; clear n0_ n1_ n2_ n3_; clear hb hbox hg; have hcz15_0 : w14.cell? ⟨gb238, 0, none⟩ = some (.int .i64 0) := (blk_cell BK238.out 0).trans rfl; have hcz15_1 : w14.cell? ⟨gb238, 1, none⟩ = some (.slice none 0 0) := (blk_cell BK238.out 1).trans rfl; have hcz15_2 : w14.cell? ⟨gb238, 2, none⟩ = some (.int .i64 0) := (blk_cell BK238.out 2).trans rfl; have hcz15_3 : w14.cell? ⟨gb238, 3, none⟩ = some (.bool false) := (blk_cell BK238.out 3).trans rfl; have hfz15_0 := blk_frozen BK238.out 0; have hfz15_1 := blk_frozen BK238.out 1; have hfz15_2 := blk_frozen BK238.out 2; have hfz15_3 := blk_frozen BK238.out 3))
                  go_roundg k1
                  case measure => have := HK1.out; omega
                  case rel => exact ⟨(wrap64 (x7_1 + 1)), (by first | rfl | (simp; done) | (simp [*]; done)), H', ⟨by have := HK1.out; omega⟩, ⟨by repeat (first | (with_reducible first | exact HB.out | apply below_alloc | apply pw_below_drewN | apply below_drew1 | refine below_set ?_ GE238.out) | exact HB.out)⟩⟩
          · rw [if_neg c4] at H
            exact absurd H (by simp)
        · rw [if_neg c3] at H
          exact absurd H (by simp)
      · rw [if_neg c2] at H
        have c2b0 : decide (x7_1 < (l0.length : Int)) = false := decide_eq_false c2
        clear c2
        obtain rfl := Option.some.inj H
        go_wp2
        go_ret
        exact ⟨by first | rfl | (simp [errW_none, errW_some] <;> rfl) | (simp [*, errW_none, errW_some] <;> rfl), by repeat (first | (with_reducible first | exact HB.out | apply below_alloc | apply pw_below_drewN | apply below_drew1) | exact HB.out)⟩
end Go.Proofs.Ytfcdaifaocgjfaa.Pr
end
section
namespace Go.Proofs.Ytfcdaifaocgjfaa.Pure
open Go.RowKit Go.Proofs.Ytfcdaifaocgjfaa.Pr Go.Proofs.YtfcdaifaocgjfaaW.PrintWords Go.Proofs.YtfcdaifaocgjfaaW.PrintLast Go.Proofs.YtfcdaifaocgjfaaW.PrintMore
set_option linter.unusedVariables false
set_option linter.unusedSimpArgs false
theorem fewv_loop (l : List S50) (m : Nat) (hm : m ≤ 1000000) : ∀ (n i k : Nat), m + 1 ≤ i + n → i ≤ m + 1 → 2 * n + 2 ≤ k → ∃ b, chalklineref34_FewVersions.l0 k l (m : Int) (i : Int) = some b ∧ (b = true → l.length ≤ m) := by
  intro n
  induction n with
  | zero =>
    intro i k h hi hk
    obtain ⟨k, rfl⟩ : ∃ j, k = j + 1 + 1 := ⟨k - 2, by omega⟩
    rw [chalklineref34_FewVersions.l0]
    have e : decide ((i : Int) ≤ (m : Int)) = false := decide_eq_false (by omega)
    refine ⟨decide ((l.length : Int) ≤ (m : Int)), ?_, fun h => by have := of_decide_eq_true h; omega⟩
    split
    · rw [e, chalklineref34_FewVersions.j1, if_neg (by decide)]
    · rw [chalklineref34_FewVersions.j1, if_neg (by decide)]
  | succ n ih =>
    intro i k h hi hk
    obtain ⟨k, rfl⟩ : ∃ j, k = j + 1 + 1 := ⟨k - 2, by omega⟩
    rw [chalklineref34_FewVersions.l0]
    by_cases h1 : (i : Int) < (l.length : Int)
    · rw [if_pos h1]
      by_cases h2 : (i : Int) ≤ (m : Int)
      · rw [decide_eq_true h2, chalklineref34_FewVersions.j1, if_pos rfl, if_pos (by omega), if_pos h1]
        by_cases h3 : ((rd_T50 l (i : Int)).f1.f0.length : Int) > 70
        · rw [if_pos h3]; exact ⟨false, rfl, fun h => by cases h⟩
        · rw [if_neg h3, w64 (by omega) (by omega), show (i : Int) + 1 = ((i + 1 : Nat) : Int) by omega]
          exact ih (i + 1) k (by omega) (by omega) (by omega)
      · rw [decide_eq_false h2, chalklineref34_FewVersions.j1, if_neg (by decide)]
        exact ⟨_, rfl, fun h => by have := of_decide_eq_true h; omega⟩
    · rw [if_neg h1, chalklineref34_FewVersions.j1, if_neg (by decide)]
      exact ⟨_, rfl, fun h => by have := of_decide_eq_true h; omega⟩
theorem fewv (l : List S50) (m : Nat) (hm : m ≤ 1000000) (k : Nat) (hk : 2 * m + 4 ≤ k) : ∃ b, chalklineref34_FewVersions.f k l (m : Int) = some b ∧ (b = true → l.length ≤ m) :=
  fewv_loop l m hm (m + 1) 0 k (by omega) (by omega) (by omega)
/-- A version that can be stored. -/
def fitV (v : S50) : Prop := 0 ≤ v.f2 ∧ v.f2 ≤ 1099511627776 ∧ v.f1.f0.length ≤ 64
theorem fits_loop (l : List S50) (hl : l.length ≤ 1000000) : ∀ (n i k : Nat), l.length ≤ i + n → n + 1 ≤ k → i ≤ l.length → ∃ b, chalklinelaw34_fits.l0 k l (l.length : Int) (i : Int) = some b ∧ (b = true → ∀ j, i ≤ j → j < l.length → fitV (rd_T50 l (j : Int))) := by
  intro n
  induction n with
  | zero =>
    intro i k h hk hi
    obtain ⟨k, rfl⟩ : ∃ j, k = j + 1 := ⟨k - 1, by omega⟩
    rw [chalklinelaw34_fits.l0, if_neg (by omega)]
    exact ⟨true, rfl, fun _ j h1 h2 => by omega⟩
  | succ n ih =>
    intro i k h hk hi
    obtain ⟨k, rfl⟩ : ∃ j, k = j + 1 := ⟨k - 1, by omega⟩
    rw [chalklinelaw34_fits.l0]
    by_cases h1 : (i : Int) < (l.length : Int)
    · rw [if_pos h1, if_pos (by omega), if_pos h1]
      by_cases h2 : (rd_T50 l (i : Int)).f2 < 0
      · rw [if_pos h2]; exact ⟨false, rfl, fun h => by cases h⟩
      rw [if_neg h2]
      by_cases h3 : (rd_T50 l (i : Int)).f2 > 1099511627776
      · rw [if_pos h3]; exact ⟨false, rfl, fun h => by cases h⟩
      rw [if_neg h3]
      by_cases h4 : ((rd_T50 l (i : Int)).f1.f0.length : Int) > 64
      · rw [if_pos h4]; exact ⟨false, rfl, fun h => by cases h⟩
      rw [if_neg h4, w64 (by omega) (by omega), show (i : Int) + 1 = ((i + 1 : Nat) : Int) by omega]
      obtain ⟨b, e, hb⟩ := ih (i + 1) k (by omega) (by omega) (by omega)
      refine ⟨b, e, fun h j h5 h6 => ?_⟩
      by_cases h7 : j = i
      · subst h7; exact ⟨by omega, by omega, by omega⟩
      · exact hb h j (by omega) h6
    · rw [if_neg h1]
      exact ⟨true, rfl, fun _ j h1 h2 => by omega⟩
theorem fits (l : List S50) (hl : l.length ≤ 1000000) (k : Nat) (hk : l.length + 1 ≤ k) : ∃ b, chalklinelaw34_fits.f k l = some b ∧ (b = true → ∀ j, j < l.length → fitV (rd_T50 l (j : Int))) := by
  obtain ⟨b, e, hb⟩ := fits_loop l hl l.length 0 k (by omega) (by omega) (by omega)
  exact ⟨b, e, fun h j hj => hb h j (by omega) hj⟩
/-- The records and the numbered versions of the first i. -/
def rc (l : List S50) (i : Nat) : List Int := recI ((i : Int) + 1) (rd_T50 l (i : Int)).f1.f0 (rd_T50 l (i : Int)).f2 (rd_T50 l (i : Int)).f3
def nv (l : List S50) (i : Nat) : S50 := ⟨(i : Int) + 1, ⟨(rd_T50 l (i : Int)).f1.f0⟩, (rd_T50 l (i : Int)).f2, (rd_T50 l (i : Int)).f3⟩
def recs (l : List S50) (i : Nat) : List (List Int) := (List.range i).map (rc l)
def nums (l : List S50) (i : Nat) : List S50 := (List.range i).map (nv l)
theorem recs_succ (l : List S50) (i : Nat) : recs l (i + 1) = recs l i ++ [rc l i] := by simp [recs, List.range_succ]
theorem nums_succ (l : List S50) (i : Nat) : nums l (i + 1) = nums l i ++ [nv l i] := by simp [nums, List.range_succ]
theorem recs_length (l : List S50) (i : Nat) : (recs l i).length = i := by simp [recs]
theorem nums_length (l : List S50) (i : Nat) : (nums l i).length = i := by simp [nums]
structure Fit (l : List S50) : Prop where
  len : l.length ≤ 10
  fit : ∀ j, j < l.length → fitV (rd_T50 l (j : Int))
  wok : ∀ j, j < l.length → wok (rd_T50 l (j : Int)).f1.f0
theorem Fit.one {l : List S50} (h : Fit l) (j : Nat) (hj : j < l.length) : Oc.ok64 ((j : Int) + 1) = true ∧ Oc.ok64 (rd_T50 l (j : Int)).f2 = true ∧ rdMay ((j : Int) + 1) (rd_T50 l (j : Int)).f2 (rd_T50 l (j : Int)).f1.f0.length = true ∧ (rc l j).length ≤ 1320 := by
  have h0 := h.len
  obtain ⟨h1, h2, h3⟩ := h.fit j hj
  have e1 : Oc.ok64 ((j : Int) + 1) = true := ok64_nat (j + 1) (by omega)
  have e2 : Oc.ok64 (rd_T50 l (j : Int)).f2 = true := by simp [Oc.ok64]; omega
  have e3 := recI_length ((j : Int) + 1) (rd_T50 l (j : Int)).f1.f0 (rd_T50 l (j : Int)).f2 (rd_T50 l (j : Int)).f3 e1 (h.wok j hj) (by omega) e2
  refine ⟨e1, e2, ?_, by unfold rc; omega⟩
  unfold rdMay
  simp only [Bool.and_eq_true, decide_eq_true_eq]
  exact ⟨⟨⟨⟨by omega, by omega⟩, h1⟩, h2⟩, h3⟩
theorem F_len {l : List S50} (h : Fit l) : ∀ i, i ≤ l.length → (Pl.F (recs l i)).length ≤ 1328 * i := by
  intro i
  induction i with
  | zero => intro _; simp [recs, Pl.F]
  | succ i ih =>
    intro hi
    have h1 := ih (by omega)
    have h2 := (h.one i (by omega)).2.2.2
    have h3 := Pl.frameI_length (rc l i)
    rw [recs_succ, Pl.F_append, Pl.F_one, List.length_append]
    omega
/-- One more. -/
theorem Fit.more {l : List S50} (h : Fit l) {s o : List Int} {ms mo : List (List Int)} {a b : List S50} (i : Nat) (hi : i < l.length) (V : Val s o ms mo a b) (hn : a.length + b.length = i) (hz : s.length + o.length ≤ 1328 * i) :
    Val s (o ++ Pl.frameI (rc l i)) ms (mo ++ [rc l i]) a (b ++ [nv l i]) ∧ ∀ (k : Nat), 100 ≤ k → journal_Append.f k s o ((i : Int) + 1) (rd_T50 l (i : Int)).f1.f0 (rd_T50 l (i : Int)).f2 (rd_T50 l (i : Int)).f3 = some (s, o ++ Pl.frameI (rc l i), 0) ∨ ¬ (Pl.bytes s ∧ Pl.bytes o) := by
  obtain ⟨e1, e2, e3, e4⟩ := h.one i hi
  have h3 := Pl.frameI_length (rc l i)
  have h0 := h.len
  obtain ⟨V', hA⟩ := V.append ((i : Int) + 1) (rd_T50 l (i : Int)).f1.f0 (rd_T50 l (i : Int)).f2 (rd_T50 l (i : Int)).f3 e1 (h.wok i hi) e2 e3 (by omega) (by rw [List.length_append]; unfold rc at h3 e4; omega)
  refine ⟨V', fun k hk => ?_⟩
  by_cases hb : Pl.bytes s ∧ Pl.bytes o
  · left
    rw [jAppend s o hb.1 hb.2 (by omega) (by omega) _ _ _ _ e1 (h.wok i hi) e2 k hk, hA]
    rfl
  · right; exact hb
theorem bytes_be4 (n : Int) : Pl.bytes (Pl.be4 n) := by
  intro x hx
  unfold Pl.be4 at hx
  simp only [List.mem_cons, List.not_mem_nil, or_false] at hx
  rcases hx with rfl | rfl | rfl | rfl <;> omega
theorem bytes_frame (x : List Int) (h : Pl.bytes x) : Pl.bytes (Pl.frameI x) := Pl.bytes_append (Pl.bytes_append (bytes_be4 _) (bytes_be4 _)) h
theorem bytes_F (xs : List (List Int)) (h : ∀ x ∈ xs, Pl.bytes x) : Pl.bytes (Pl.F xs) := by
  induction xs with
  | nil => intro x hx; simp [Pl.F] at hx
  | cons y ys ih =>
    rw [show y :: ys = [y] ++ ys from rfl, Pl.F_append, Pl.F_one]
    exact Pl.bytes_append (bytes_frame y (h y List.mem_cons_self)) (ih fun x hx => h x (List.mem_cons_of_mem _ hx))
theorem bytes_recs (l : List S50) (i : Nat) : ∀ x ∈ recs l i, Pl.bytes x := fun x hx => by
  obtain ⟨j, _, rfl⟩ := List.mem_map.1 hx
  exact bytes_recI _ _ _ _
/-- The disk where the first t records are safe and those to i are open. -/
def P (l : List S50) (t i : Nat) : List Int × List Int := (Pl.F (recs l t), Pl.F ((recs l i).drop t))
theorem bytes_P (l : List S50) (t i : Nat) : Pl.bytes (P l t i).1 ∧ Pl.bytes (P l t i).2 := ⟨bytes_F _ (bytes_recs l t), bytes_F _ fun x hx => bytes_recs l i x (List.mem_of_mem_drop hx)⟩
theorem P_succ (l : List S50) (t i : Nat) (h : t ≤ i) : P l t (i + 1) = ((P l t i).1, (P l t i).2 ++ Pl.frameI (rc l i)) := by
  unfold P
  rw [recs_succ, List.drop_append_of_le_length (by rw [recs_length]; exact h), Pl.F_append, Pl.F_one]
theorem P_len {l : List S50} (h : Fit l) (t i : Nat) (ht : t ≤ i) (hi : i ≤ l.length) : (P l t i).1.length + (P l t i).2.length ≤ 1328 * i := by
  have := F_len h i hi
  rw [← List.take_append_drop t (recs l i), Pl.F_append, List.length_append] at this
  have e : (recs l i).take t = recs l t := by
    unfold recs
    rw [← List.map_take, List.take_range, Nat.min_eq_left ht]
  rw [e] at this
  exact this
theorem val_P {l : List S50} (h : Fit l) : ∀ (t : Nat), t ≤ l.length → ∀ (d : Nat), t + d ≤ l.length → Val (P l t (t + d)).1 (P l t (t + d)).2 (recs l t) ((recs l (t + d)).drop t) (nums l t) ((nums l (t + d)).drop t) := by
  have step : ∀ (t : Nat), t ≤ l.length → Val (P l t t).1 (P l t t).2 (recs l t) ((recs l t).drop t) (nums l t) ((nums l t).drop t) → ∀ (d : Nat), t + d ≤ l.length → Val (P l t (t + d)).1 (P l t (t + d)).2 (recs l t) ((recs l (t + d)).drop t) (nums l t) ((nums l (t + d)).drop t) := by
    intro t ht h0 d
    induction d with
    | zero => intro _; exact h0
    | succ d ih =>
      intro hd
      have V := ih (by omega)
      have hm := (h.more (t + d) (by omega) V (by rw [List.length_drop, nums_length, nums_length]; omega) (P_len h t (t + d) (by omega) (by omega))).1
      rw [show t + (d + 1) = (t + d) + 1 from rfl, P_succ l t (t + d) (by omega), recs_succ, nums_succ, List.drop_append_of_le_length (by rw [recs_length]; omega), List.drop_append_of_le_length (by rw [nums_length]; omega)]
      exact hm
  have z := step 0 (by omega) ⟨rfl, rfl, fun x hx => (by cases hx), fun x hx => (by cases hx), rfl, rfl, by simp [P, recs, Pl.F]⟩
  intro t ht d hd
  refine step t ht ?_ d hd
  have V := z t (by omega)
  rw [Nat.zero_add] at V
  have e1 : (recs l t).drop t = [] := List.drop_eq_nil_of_le (by rw [recs_length]; omega)
  have e2 : (nums l t).drop t = [] := List.drop_eq_nil_of_le (by rw [nums_length]; omega)
  have vb := V.vb
  have ho := V.ho
  rw [List.drop_zero] at vb ho
  rw [List.drop_zero] at vb
  refine ⟨rfl, rfl, ho, (by rw [e1]; exact fun x hx => (by cases hx)), vb, by rw [e1, e2]; rfl, ?_⟩
  have := P_len h t t (by omega) ht
  have := h.len
  omega
end Go.Proofs.Ytfcdaifaocgjfaa.Pure
end
section
namespace Go.Proofs.Ytfcdaifaocgjfaa.Pr
open Go.RowKit Go.Proofs.YtfcdaifaocgjfaaW.PrintWords Go.Proofs.YtfcdaifaocgjfaaW.PrintLast Go.Proofs.YtfcdaifaocgjfaaW.PrintMore
set_option linter.unusedVariables false
set_option linter.unusedSimpArgs false
theorem fit_append {l : List S50} (h : Pure.Fit l) (t i : Nat) (ht : t ≤ i) (hi : i < l.length) (k : Nat) (hk : 100 ≤ k) : journal_Append.f k (Pure.P l t i).1 (Pure.P l t i).2 ((i : Int) + 1) (rd_T50 l (i : Int)).f1.f0 (rd_T50 l (i : Int)).f2 (rd_T50 l (i : Int)).f3 = some ((Pure.P l t (i + 1)).1, (Pure.P l t (i + 1)).2, 0) := by
  have V := Pure.val_P h t (by omega) (i - t) (by omega)
  rw [show t + (i - t) = i by omega] at V
  rcases (h.more i hi V (by rw [List.length_drop, Pure.nums_length, Pure.nums_length]; omega) (Pure.P_len h t i ht (by omega))).2 k hk with e | e
  · rw [e, Pure.P_succ l t i ht]
  · exact absurd (Pure.bytes_P l t i) e
theorem fit_sync {l : List S50} (h : Pure.Fit l) (t : Nat) (ht : t ≤ l.length) : journal_Sync.f (Pure.P l 0 t).1 (Pure.P l 0 t).2 = some ((Pure.P l t t).1, (Pure.P l t t).2, 0) := by
  have V := Pure.val_P h 0 (by omega) t (by omega)
  rw [Nat.zero_add] at V
  have hb := Pure.bytes_P l 0 t
  have hl := Pure.P_len h 0 t (by omega) ht
  have h0 := h.len
  rw [Pure.jSync _ _ hb.1 hb.2 (by omega) (by omega)]
  unfold Pure.syncI
  rw [V.read, if_pos rfl]
  have e1 : (Pure.P l 0 t).1 ++ (Pure.P l 0 t).2 = (Pure.P l t t).1 := by
    unfold Pure.P
    rw [List.drop_zero, ← Pl.F_append]
    rfl
  have e2 : (Pure.P l t t).2 = [] := by
    unfold Pure.P
    rw [List.drop_eq_nil_of_le (by rw [Pure.recs_length]; omega)]
    rfl
  rw [e1, e2]
theorem j_written {l : List S50} (h : Pure.Fit l) {t : Nat} (ht : t ≤ l.length) {A : Option Addr} {c : Nat} {w : World} (V : Vr w A c l) : Calls Try.prog 18 #[.slice A l.length c, .int .i64 t] w (WrR w (Pure.P l t l.length)) := by
  refine c_written 100 A c l t (fun i => Pure.P l (if i ≤ t then 0 else t) i) (Pure.P l t t) w V (Pure.P l t l.length) ⟨fun e => by subst e; rfl, fun e => ?_⟩ (by have := h.len; omega) ht ?_ ?_ ?_
  · show _ = Pure.P l (if l.length ≤ t then 0 else t) l.length
    rw [if_neg (by omega)]
  · show Pure.P l (if 0 ≤ t then 0 else t) 0 = _
    rw [if_pos (Nat.zero_le _)]
    rfl
  · show journal_Sync.f (Pure.P l (if t ≤ t then 0 else t) t).1 (Pure.P l (if t ≤ t then 0 else t) t).2 = _
    rw [if_pos (Nat.le_refl _)]
    exact fit_sync h t ht
  · intro i hi q h1 h2
    show journal_Append.f 100 q.1 q.2 _ _ _ _ = some ((Pure.P l (if i + 1 ≤ t then 0 else t) (i + 1)).1, (Pure.P l (if i + 1 ≤ t then 0 else t) (i + 1)).2, 0)
    by_cases e : i = t
    · rw [h1 e, if_neg (by omega)]
      subst e
      exact fit_append h i i (Nat.le_refl _) hi 100 (Nat.le_refl _)
    · rw [h2 e]
      show journal_Append.f 100 (Pure.P l (if i ≤ t then 0 else t) i).1 (Pure.P l (if i ≤ t then 0 else t) i).2 _ _ _ _ = _
      by_cases e2 : i ≤ t
      · rw [if_pos e2, if_pos (by omega)]
        exact fit_append h 0 i (by omega) hi 100 (Nat.le_refl _)
      · rw [if_neg e2, if_neg (by omega)]
        exact fit_append h t i (by omega) hi 100 (Nat.le_refl _)
theorem Kd.R_addr {W : World} {base : Nat} {ok : Nat → Prop} {v : Value} {xs : List Int} (h : (Kd.int .u8).R 5 W base ok v xs) (hx : 0 < xs.length) : ∃ g cap, v = .slice (some ⟨g, 0, none⟩) xs.length cap ∧ xs.length ≤ cap ∧ base ≤ g := by
  have ho := Kd.own_of_R h
  rcases ho.2 with ⟨rfl, h0⟩ | ⟨g, cap, cur, rfl, hr⟩
  · omega
  · have hb := Kd.R_base h g (by simp [Value.ownBlock])
    obtain ⟨A, c, e, hc, _⟩ := Kd.R_reads h
    injection e with e1 e2 e3
    subst e3
    exact ⟨g, cap, rfl, hc, hb⟩
end Go.Proofs.Ytfcdaifaocgjfaa.Pr
end
section
namespace Go.Proofs.Ytfcdaifaocgjfaa.Pure
open Go.RowKit Go.Proofs.Ytfcdaifaocgjfaa.Pr Go.Proofs.YtfcdaifaocgjfaaW.PrintWords Go.Proofs.YtfcdaifaocgjfaaW.PrintLast Go.Proofs.YtfcdaifaocgjfaaW.PrintMore
set_option linter.unusedVariables false
set_option linter.unusedSimpArgs false
theorem torn_split (l : List (List Int)) (W p : Nat) (h : W < l.length) (hp : p < 8 + (l[W]).length) (tz : Int) :
    (Pl.F l).set (Pl.G l W + p) tz = Pl.F (l.take W) ++ ((Pl.frameI l[W]).set p tz ++ Pl.F (l.drop (W + 1))) := by
  rw [Pl.F_split l W, List.drop_eq_getElem_cons h, Pl.F_cons, List.set_append_right _ _ (show (Pl.F (l.take W)).length ≤ Pl.G l W + p by show Pl.G l W ≤ _; omega)]
  rw [show Pl.G l W + p - (Pl.F (l.take W)).length = p by show Pl.G l W + p - Pl.G l W = p; omega, List.set_append_left _ _ (by rw [Pl.frameI_length]; omega)]
theorem torn_at (l : List (List Int)) (W p : Nat) (h : W < l.length) (hp : p < 8 + (l[W]).length) : ∃ hF : Pl.G l W + p < (Pl.F l).length, (Pl.F l)[Pl.G l W + p] = (Pl.frameI l[W])[p]'(by rw [Pl.frameI_length]; exact hp) := by
  have hF : Pl.G l W + p < (Pl.F l).length := by
    have := Pl.G_mono l (show W + 1 ≤ l.length from h)
    rw [Pl.G_all l l.length (Nat.le_refl _), Pl.G_succ l W h] at this
    omega
  refine ⟨hF, ?_⟩
  have e : Pl.F l = Pl.F (l.take W) ++ (Pl.frameI l[W] ++ Pl.F (l.drop (W + 1))) := by
    conv => lhs; rw [Pl.F_split l W, List.drop_eq_getElem_cons h, Pl.F_cons]
  have hl : (Pl.F (l.take W)).length = Pl.G l W := rfl
  simp only [e]
  rw [List.getElem_append_right (by rw [hl]; omega)]
  simp only [hl, Nat.add_sub_cancel_left]
  rw [List.getElem_append_left (by rw [Pl.frameI_length]; omega)]
/-- The frame that begins behind j frames opens. -/
theorem open_G (l : List (List Int)) (hx : ∀ x ∈ l, x.length ≤ 65536) (j : Nat) (h : j < l.length) : Pl.openI (Pl.F l) ((Pl.G l j : Nat) : Int) = (l[j], ((Pl.G l (j + 1) : Nat) : Int), 0) := by
  have e : Pl.F l = Pl.F (l.take j) ++ (Pl.frameI l[j] ++ Pl.F (l.drop (j + 1))) := by
    conv => lhs; rw [Pl.F_split l j, List.drop_eq_getElem_cons h, Pl.F_cons]
  have ho := Pl.openI_frame (Pl.F (l.take j)) l[j] (Pl.F (l.drop (j + 1))) (hx _ (List.getElem_mem h))
  rw [← e] at ho
  rw [show ((Pl.G l j : Nat) : Int) = (((Pl.F (l.take j)).length : Nat) : Int) from rfl, ho, Pl.G_succ l j h]
  simp only [Prod.mk.injEq, true_and, and_true]
  show ((Pl.G l j : Nat) : Int) + 8 + _ = _
  omega
/-- A part with a changed byte is not whole. -/
theorem torn_part (l : List (List Int)) (hx : ∀ x ∈ l, x.length ≤ 65536) (hb : ∀ x ∈ l, Pl.bytes x) (W p : Nat) (h : W < l.length) (hp4 : 4 ≤ p) (hp : p < 8 + (l[W]).length) (tz : Int) (ht : 0 ≤ tz ∧ tz < 256) (hne : (Pl.frameI l[W])[p]'(by rw [Pl.frameI_length]; exact hp) ≠ tz) (n : Nat) :
    versI ((Pl.F l).set (Pl.G l W + p) tz) n = none := by
  have hbad := Pl.openI_bad (Pl.F (l.take W)) l[W] (Pl.F (l.drop (W + 1))) (hx _ (List.getElem_mem h)) (hb _ (List.getElem_mem h)) p hp4 hp tz ht hne
  have hscan := Pl.scan_stop (l.take W) ((Pl.frameI l[W]).set p tz ++ Pl.F (l.drop (W + 1))) (fun x hx' => hx x (List.mem_of_mem_take hx')) (by rw [hbad]; decide)
  have hF := (torn_at l W p h hp).1
  unfold versI
  rw [if_neg ?_]
  rw [List.length_set]
  rw [torn_split l W p h hp, hscan]
  show ¬ ((Pl.G l W : Nat) : Int) = _
  omega
/-- Two parts, a byte of one of them changed. -/
theorem torn (ms mo : List (List Int)) (a : List S50) (hs : ∀ x ∈ ms, x.length ≤ 65536) (ho : ∀ x ∈ mo, x.length ≤ 65536) (bs : ∀ x ∈ ms, Pl.bytes x) (bo : ∀ x ∈ mo, Pl.bytes x) (va : vers ms 1 = some a) (hl : (Pl.F ms).length + (Pl.F mo).length ≤ 1048576)
    (W p : Nat) (h : W < (ms ++ mo).length) (hp4 : 4 ≤ p) (hp : p < 8 + ((ms ++ mo)[W]).length) (tz : Int) (ht : 0 ≤ tz ∧ tz < 256) (hne : (Pl.frameI (ms ++ mo)[W])[p]'(by rw [Pl.frameI_length]; exact hp) ≠ tz) :
    (readI (((Pl.F (ms ++ mo)).set (Pl.G (ms ++ mo) W + p) tz).take (Pl.F ms).length) (((Pl.F (ms ++ mo)).set (Pl.G (ms ++ mo) W + p) tz).drop (Pl.F ms).length)).2.2 = 340 := by
  have hF := (torn_at _ W p h hp).1
  have e0 : Pl.F (ms ++ mo) = Pl.F ms ++ Pl.F mo := Pl.F_append _ _
  by_cases hW : W < ms.length
  · have e1 : (ms ++ mo)[W] = ms[W] := List.getElem_append_left hW
    have e2 : Pl.G (ms ++ mo) W = Pl.G ms W := by unfold Pl.G; rw [List.take_append_of_le_length (by omega)]
    have hp' : p < 8 + (ms[W]).length := by rw [← e1]; exact hp
    have h1 := (torn_at ms W p hW hp').1
    have h2 := torn_part ms hs bs W p hW hp4 hp' tz ht (by simp only [e1] at hne; exact hne) 1
    have e3 : (Pl.F (ms ++ mo)).set (Pl.G (ms ++ mo) W + p) tz = (Pl.F ms).set (Pl.G ms W + p) tz ++ Pl.F mo := by rw [e0, e2, List.set_append_left _ _ h1]
    have e4 : ((Pl.F ms).set (Pl.G ms W + p) tz).length = (Pl.F ms).length := List.length_set
    rw [e3, ← e4, List.take_left, List.drop_left]
    unfold readI
    rw [if_neg (by rw [List.length_set]; omega), h2]
  · have hW' : W - ms.length < mo.length := by rw [List.length_append] at h; omega
    have e1 : (ms ++ mo)[W] = mo[W - ms.length] := List.getElem_append_right (by omega)
    have e2 : Pl.G (ms ++ mo) W = (Pl.F ms).length + Pl.G mo (W - ms.length) := by
      unfold Pl.G
      rw [List.take_append, List.take_of_length_le (by omega), Pl.F_append, List.length_append]
    have hp' : p < 8 + (mo[W - ms.length]).length := by rw [← e1]; exact hp
    have h2 := torn_part mo ho bo (W - ms.length) p hW' hp4 hp' tz ht (by simp only [e1] at hne; exact hne) (1 + ms.length)
    have e3 : (Pl.F (ms ++ mo)).set (Pl.G (ms ++ mo) W + p) tz = Pl.F ms ++ (Pl.F mo).set (Pl.G mo (W - ms.length) + p) tz := by
      rw [e0, e2, List.set_append_right _ _ (by omega), show (Pl.F ms).length + Pl.G mo (W - ms.length) + p - (Pl.F ms).length = Pl.G mo (W - ms.length) + p by omega]
    rw [e3, List.take_left, List.drop_left]
    unfold readI
    rw [if_neg (by rw [List.length_set]; omega)]
    have hv : versI (Pl.F ms) 1 = some a := by
      unfold versI
      rw [whole_scan ms hs, if_pos rfl]
      exact va
    rw [hv, whole_scan ms hs]
    dsimp only
    rw [h2]
theorem recs_take (l : List S50) (t i : Nat) (ht : t ≤ i) : recs l t = (recs l i).take t := by
  unfold recs
  rw [← List.map_take, List.take_range, Nat.min_eq_left ht]
theorem recs_small {l : List S50} (h : Fit l) : ∀ x ∈ recs l l.length, x.length ≤ 65536 := by
  intro x hx
  obtain ⟨j, hj, rfl⟩ := List.mem_map.1 hx
  have := (h.one j (List.mem_range.1 hj)).2.2.2
  omega
theorem bytes_set {l : List Int} (h : Pl.bytes l) (n : Nat) {z : Int} (hz : 0 ≤ z ∧ z < 256) : Pl.bytes (l.set n z) := by
  intro x hx
  rcases List.mem_or_eq_of_mem_set hx with h1 | h1
  · exact h x h1
  · rw [h1]; exact hz
theorem torn_law {l : List S50} (h : Fit l) (t : Nat) (ht : t ≤ l.length) (a W : Nat) (hW : W < l.length) (h4 : Pl.G (recs l l.length) W + 4 ≤ a) (h2 : a < Pl.G (recs l l.length) (W + 1)) (hF : a < (Pl.F (recs l l.length)).length) (z : Int) (hz : 0 ≤ z ∧ z < 256) (hne : (Pl.F (recs l l.length))[a] ≠ z) :
    journal_Check.f (((Pl.F (recs l l.length)).set a z).take (Pl.F (recs l t)).length) (((Pl.F (recs l l.length)).set a z).drop (Pl.F (recs l t)).length) = some 340 := by
  have hb := bytes_set (bytes_F _ (bytes_recs l l.length)) a hz
  have hlen := F_len h l.length (Nat.le_refl _)
  have h10 := h.len
  rw [jCheck _ _ (fun x hx => hb x (List.mem_of_mem_take hx)) (fun x hx => hb x (List.mem_of_mem_drop hx)) (by rw [List.length_take, List.length_set]; omega) (by rw [List.length_drop, List.length_set]; omega)]
  congr 1
  obtain ⟨p, rfl⟩ : ∃ p, a = Pl.G (recs l l.length) W + p := ⟨a - Pl.G (recs l l.length) W, by omega⟩
  have hW' : W < (recs l l.length).length := by rw [recs_length]; exact hW
  rw [Pl.G_succ _ W hW'] at h2
  have hp : p < 8 + ((recs l l.length)[W]).length := by omega
  obtain ⟨hF', hat⟩ := torn_at (recs l l.length) W p hW' hp
  have e : recs l t ++ (recs l l.length).drop t = recs l l.length := by rw [recs_take l t l.length ht, List.take_append_drop]
  have V := val_P h 0 (by omega) t (by omega)
  have va := V.vb
  rw [Nat.zero_add, List.drop_zero] at va
  have ho := recs_small h
  have hl : (Pl.F (recs l t)).length + (Pl.F ((recs l l.length).drop t)).length ≤ 1048576 := by
    rw [← List.length_append, ← Pl.F_append, e]; omega
  have main := torn (recs l t) ((recs l l.length).drop t) _ (fun x hx => ho x (by rw [← e]; exact List.mem_append_left _ hx)) (fun x hx => ho x (List.mem_of_mem_drop hx)) (bytes_recs l t) (fun x hx => bytes_recs l l.length x (List.mem_of_mem_drop hx)) va hl W p (by rw [e]; exact hW') (by omega) (by simp only [e]; exact hp) z hz (by simp only [e]; rw [← hat]; exact hne)
  simp only [e] at main
  exact main
end Go.Proofs.Ytfcdaifaocgjfaa.Pure
end
