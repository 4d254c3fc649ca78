/- Parts of the proof of JournalBack; no condition. -/
import Derived.Test.YtfcdaifaocgjfaaGa0
import Derived.Test.YtfcdaifaocgjfaaGa9
import Derived.Test.YtfcdaifaocgjfaaPr24
section
namespace Go.Proofs.Ytfcdaifaocgjfaa.Pr
open Go.RowKit Go.Proofs.YtfcdaifaocgjfaaW.PrintWords Go.Proofs.YtfcdaifaocgjfaaW.PrintLast Go.Proofs.YtfcdaifaocgjfaaW.PrintMore
attribute [local go_sem] max2_int min2_int max_two min_two max_three min_three max_four min_four   -- for this text's walks alone
set_option linter.unusedVariables false
set_option linter.unusedSimpArgs false
def chalklinelaw34_fits.l0 : Nat → List (S50) → Int → Int → Option (Bool)
  | 0, _, _, _ => none
  | k + 1, x5, x6, x7 => if x7 < x6 then (if 0 ≤ x7 then (if x7 < (x5.length : Int) then (if ((rd_T50 x5 x7).f2) < 0 then (some false) else (if ((rd_T50 x5 x7).f2) > 1099511627776 then (some false) else (if (((rd_T50 x5 x7).f1.f0).length : Int) > 64 then (some false) else (chalklinelaw34_fits.l0 k x5 x6 (wrap64 (x7 + 1)))))) else (none)) else (none)) else (some true)
def chalklinelaw34_fits.f (k : Nat) (l0 : List (S50)) : Option (Bool) := chalklinelaw34_fits.l0 k l0 (l0.length : Int) 0
set_option maxHeartbeats 8000000 in
set_option maxRecDepth 100000 in
theorem chalklinelaw34_fits.calls (k : Nat) (A0 : Option Addr) (c0 : Nat) (l0 : List (S50)) (r : Bool) (w : World) (hr0 : Kd.C k50 w A0 l0.length l0) (hc0 : l0.length ≤ c0) (h : chalklinelaw34_fits.f k l0 = some r) :
    Calls Try.prog 17 #[.slice A0 l0.length c0] w fun e w' => e = .returned (.bool r) ∧ Below w.heap.size w w' := by
  have hu50 := Try.underlying50
  have HR0 := Aside0.mk hr0
  have HC0 := Aside0.mk hc0
  clear hr0 hc0
  have HB := Aside0.mk (Below.refl w.heap.size w)
  have H : (chalklinelaw34_fits.l0 k l0 (l0.length : Int) 0) = some r := h
  clear h
  have H' := Aside0.mk H
  clear H
  go_enter Try.func17, Try.ntmps17
  go_wp2
  go_loopg [7] k (fun kq v7 w' => ∃ (x7_1 : Int), v7 = .int .i64 x7_1 ∧ Aside0 (chalklinelaw34_fits.l0 kq l0 (l0.length : Int) x7_1 = some r) ∧ Aside0 (kq ≤ k) ∧ Aside0 (Below w.heap.size w w'))
  case atStart => exact ⟨(0), (by first | rfl | (simp; done) | (simp [*]; done)), H', ⟨Nat.le_refl _⟩, ⟨by repeat (first | (with_reducible first | exact HB.out | apply below_alloc | apply pw_below_drewN | apply below_drew1) | exact HB.out)⟩⟩
  case round =>
    clear H'
    try clear c1
    obtain ⟨x7_1, rfl, HA, HK1, HB⟩ := hrel
    cases gk with
    | zero => exact absurd HA.out (by simp [chalklinelaw34_fits.l0])
    | succ k1 =>
      have H := HA.out
      clear HA
      simp only [chalklinelaw34_fits.l0] at H
      by_cases c2 : x7_1 < (l0.length : Int)
      · rw [if_pos c2] at H
        have c2b0 : decide (x7_1 < (l0.length : Int)) = true := decide_eq_true c2
        clear c2
        by_cases c3 : 0 ≤ x7_1
        · rw [if_pos c3] at H
          have c3b0 : decide (0 ≤ x7_1) = true := decide_eq_true c3
          clear c3
          by_cases c4 : x7_1 < (l0.length : Int)
          · rw [if_pos c4] at H
            have c4b0 : decide (x7_1 < (l0.length : Int)) = true := decide_eq_true c4
            clear c4
            by_cases c5 : ((rd_T50 l0 x7_1).f2) < 0
            · rw [if_pos c5] at H
              have c5b0 : decide (((rd_T50 l0 x7_1).f2) < 0) = true := decide_eq_true c5
              clear c5
              obtain rfl := Option.some.inj H
              have p237 : 0 ≤ (x7_1 : Int) := of_decide_eq_true (by first | (with_reducible assumption) | assumption)
              have q237 : x7_1 < (l0.length : Int) := of_decide_eq_true (by first | (with_reducible assumption) | assumption)
              obtain ⟨ad237, A237_1, c237_1, e237, hx237_0, hx237_1, hx237_2, hx237_3, hl237_1, hi237_1⟩ := at_T50 HR0.out x7_1 p237 q237
              cases e237
              replace hx237_0 := (HB.out.cell (World.block_lt_of_cell? w _ hx237_0)).trans hx237_0
              replace hx237_1 := (HB.out.cell (World.block_lt_of_cell? w _ hx237_1)).trans hx237_1
              replace hx237_2 := (HB.out.cell (World.block_lt_of_cell? w _ hx237_2)).trans hx237_2
              replace hx237_3 := (HB.out.cell (World.block_lt_of_cell? w _ hx237_3)).trans hx237_3
              have HR237_1 := Aside0.mk hi237_1
              have HC237_1 := Aside0.mk hl237_1
              clear hi237_1 hl237_1
              replace p237 := eq_true p237
              replace q237 := eq_true q237
              go_wp2_with (first | ((with_reducible refine gate_dst (N := 4) rfl ?_); (try (refine gate_guard (by rfl) ?_; dsimp only)); refine box_event ?hg (N := 4) ?hd (cs := #[.int .i64 0, .slice none 0 0, .int .i64 0, .bool false]) (t := 50) ?hr ?_; (case hd => rfl); (case hg => rfl); (case hr => first | (go_simp; done) | (go_simp; rfl)); intro gb238 hg w6 hbox hb; have n0_ := Aside0.mk (below_step (by repeat (first | (with_reducible first | exact HB.out | apply below_alloc | apply pw_below_drewN | apply below_drew1) | exact HB.out)) hb); have n1_ := Aside0.mk (hbox); have n2_ := Aside0.mk ((by rw [hg]; exact (below_size (by repeat (first | (with_reducible first | exact HB.out | apply below_alloc | apply pw_below_drewN | apply below_drew1) | exact HB.out))) : w.heap.size ≤ gb238)); have n3_ := Aside0.mk ((by rw [hg]; exact (below_size (by repeat (first | (with_reducible first | exact HB.out | apply below_alloc | apply pw_below_drewN | apply below_drew1) | exact HB.out))) : w.heap.size ≤ gb238)); clear HB; have HB := n0_; have BK238 := n1_; have GW238 := n2_; have GE238 := n3_; clear n0_ n1_ n2_ n3_; clear hb hbox hg; have hcz7_0 : w6.cell? ⟨gb238, 0, none⟩ = some (.int .i64 0) := (blk_cell BK238.out 0).trans rfl; have hcz7_1 : w6.cell? ⟨gb238, 1, none⟩ = some (.slice none 0 0) := (blk_cell BK238.out 1).trans rfl; have hcz7_2 : w6.cell? ⟨gb238, 2, none⟩ = some (.int .i64 0) := (blk_cell BK238.out 2).trans rfl; have hcz7_3 : w6.cell? ⟨gb238, 3, none⟩ = some (.bool false) := (blk_cell BK238.out 3).trans rfl; have hfz7_0 := blk_frozen BK238.out 0; have hfz7_1 := blk_frozen BK238.out 1; have hfz7_2 := blk_frozen BK238.out 2; have hfz7_3 := blk_frozen BK238.out 3))
              go_ret
              exact ⟨by first | rfl | (simp [errW_none, errW_some] <;> rfl) | (simp [*, errW_none, errW_some] <;> rfl), by repeat (first | (with_reducible first | exact HB.out | apply below_alloc | apply pw_below_drewN | apply below_drew1 | refine below_set ?_ GE238.out) | exact HB.out)⟩
            · rw [if_neg c5] at H
              have c5b0 : decide (((rd_T50 l0 x7_1).f2) < 0) = false := decide_eq_false c5
              clear c5
              by_cases c8 : ((rd_T50 l0 x7_1).f2) > 1099511627776
              · rw [if_pos c8] at H
                have c8b0 : decide (1099511627776 < ((rd_T50 l0 x7_1).f2)) = true := decide_eq_true c8
                clear c8
                obtain rfl := Option.some.inj H
                have p237 : 0 ≤ (x7_1 : Int) := of_decide_eq_true (by first | (with_reducible assumption) | assumption)
                have q237 : x7_1 < (l0.length : Int) := of_decide_eq_true (by first | (with_reducible assumption) | assumption)
                obtain ⟨ad237, A237_1, c237_1, e237, hx237_0, hx237_1, hx237_2, hx237_3, hl237_1, hi237_1⟩ := at_T50 HR0.out x7_1 p237 q237
                cases e237
                replace hx237_0 := (HB.out.cell (World.block_lt_of_cell? w _ hx237_0)).trans hx237_0
                replace hx237_1 := (HB.out.cell (World.block_lt_of_cell? w _ hx237_1)).trans hx237_1
                replace hx237_2 := (HB.out.cell (World.block_lt_of_cell? w _ hx237_2)).trans hx237_2
                replace hx237_3 := (HB.out.cell (World.block_lt_of_cell? w _ hx237_3)).trans hx237_3
                have HR237_1 := Aside0.mk hi237_1
                have HC237_1 := Aside0.mk hl237_1
                clear hi237_1 hl237_1
                replace p237 := eq_true p237
                replace q237 := eq_true q237
                go_wp2_with (first | ((with_reducible refine gate_dst (N := 4) rfl ?_); (try (refine gate_guard (by rfl) ?_; dsimp only)); refine box_event ?hg (N := 4) ?hd (cs := #[.int .i64 0, .slice none 0 0, .int .i64 0, .bool false]) (t := 50) ?hr ?_; (case hd => rfl); (case hg => rfl); (case hr => first | (go_simp; done) | (go_simp; rfl)); intro gb238 hg w9 hbox hb; have n0_ := Aside0.mk (below_step (by repeat (first | (with_reducible first | exact HB.out | apply below_alloc | apply pw_below_drewN | apply below_drew1) | exact HB.out)) hb); have n1_ := Aside0.mk (hbox); have n2_ := Aside0.mk ((by rw [hg]; exact (below_size (by repeat (first | (with_reducible first | exact HB.out | apply below_alloc | apply pw_below_drewN | apply below_drew1) | exact HB.out))) : w.heap.size ≤ gb238)); have n3_ := Aside0.mk ((by rw [hg]; exact (below_size (by repeat (first | (with_reducible first | exact HB.out | apply below_alloc | apply pw_below_drewN | apply below_drew1) | exact HB.out))) : w.heap.size ≤ gb238)); clear HB; have HB := n0_; have BK238 := n1_; have GW238 := n2_; have GE238 := n3_; clear n0_ n1_ n2_ n3_; clear hb hbox hg; have hcz10_0 : w9.cell? ⟨gb238, 0, none⟩ = some (.int .i64 0) := (blk_cell BK238.out 0).trans rfl; have hcz10_1 : w9.cell? ⟨gb238, 1, none⟩ = some (.slice none 0 0) := (blk_cell BK238.out 1).trans rfl; have hcz10_2 : w9.cell? ⟨gb238, 2, none⟩ = some (.int .i64 0) := (blk_cell BK238.out 2).trans rfl; have hcz10_3 : w9.cell? ⟨gb238, 3, none⟩ = some (.bool false) := (blk_cell BK238.out 3).trans rfl; have hfz10_0 := blk_frozen BK238.out 0; have hfz10_1 := blk_frozen BK238.out 1; have hfz10_2 := blk_frozen BK238.out 2; have hfz10_3 := blk_frozen BK238.out 3))
                go_ret
                exact ⟨by first | rfl | (simp [errW_none, errW_some] <;> rfl) | (simp [*, errW_none, errW_some] <;> rfl), by repeat (first | (with_reducible first | exact HB.out | apply below_alloc | apply pw_below_drewN | apply below_drew1 | refine below_set ?_ GE238.out) | exact HB.out)⟩
              · rw [if_neg c8] at H
                have c8b0 : decide (1099511627776 < ((rd_T50 l0 x7_1).f2)) = false := decide_eq_false c8
                clear c8
                by_cases c11 : (((rd_T50 l0 x7_1).f1.f0).length : Int) > 64
                · rw [if_pos c11] at H
                  have c11b0 : decide (64 < (((rd_T50 l0 x7_1).f1.f0).length : Int)) = true := decide_eq_true c11
                  have c11b1 : decide (64 < ((rd_T50 l0 x7_1).f1.f0).length) = true := decide_eq_true (by omega)
                  clear c11
                  obtain rfl := Option.some.inj H
                  have p237 : 0 ≤ (x7_1 : Int) := of_decide_eq_true (by first | (with_reducible assumption) | assumption)
                  have q237 : x7_1 < (l0.length : Int) := of_decide_eq_true (by first | (with_reducible assumption) | assumption)
                  obtain ⟨ad237, A237_1, c237_1, e237, hx237_0, hx237_1, hx237_2, hx237_3, hl237_1, hi237_1⟩ := at_T50 HR0.out x7_1 p237 q237
                  cases e237
                  replace hx237_0 := (HB.out.cell (World.block_lt_of_cell? w _ hx237_0)).trans hx237_0
                  replace hx237_1 := (HB.out.cell (World.block_lt_of_cell? w _ hx237_1)).trans hx237_1
                  replace hx237_2 := (HB.out.cell (World.block_lt_of_cell? w _ hx237_2)).trans hx237_2
                  replace hx237_3 := (HB.out.cell (World.block_lt_of_cell? w _ hx237_3)).trans hx237_3
                  have HR237_1 := Aside0.mk hi237_1
                  have HC237_1 := Aside0.mk hl237_1
                  clear hi237_1 hl237_1
                  replace p237 := eq_true p237
                  replace q237 := eq_true q237
                  go_wp2_with (first | ((with_reducible refine gate_dst (N := 4) rfl ?_); (try (refine gate_guard (by rfl) ?_; dsimp only)); refine box_event ?hg (N := 4) ?hd (cs := #[.int .i64 0, .slice none 0 0, .int .i64 0, .bool false]) (t := 50) ?hr ?_; (case hd => rfl); (case hg => rfl); (case hr => first | (go_simp; done) | (go_simp; rfl)); intro gb238 hg w12 hbox hb; have n0_ := Aside0.mk (below_step (by repeat (first | (with_reducible first | exact HB.out | apply below_alloc | apply pw_below_drewN | apply below_drew1) | exact HB.out)) hb); have n1_ := Aside0.mk (hbox); have n2_ := Aside0.mk ((by rw [hg]; exact (below_size (by repeat (first | (with_reducible first | exact HB.out | apply below_alloc | apply pw_below_drewN | apply below_drew1) | exact HB.out))) : w.heap.size ≤ gb238)); have n3_ := Aside0.mk ((by rw [hg]; exact (below_size (by repeat (first | (with_reducible first | exact HB.out | apply below_alloc | apply pw_below_drewN | apply below_drew1) | exact HB.out))) : w.heap.size ≤ gb238)); clear HB; have HB := n0_; have BK238 := n1_; have GW238 := n2_; have GE238 := n3_; clear n0_ n1_ n2_ n3_; clear hb hbox hg; have hcz13_0 : w12.cell? ⟨gb238, 0, none⟩ = some (.int .i64 0) := (blk_cell BK238.out 0).trans rfl; have hcz13_1 : w12.cell? ⟨gb238, 1, none⟩ = some (.slice none 0 0) := (blk_cell BK238.out 1).trans rfl; have hcz13_2 : w12.cell? ⟨gb238, 2, none⟩ = some (.int .i64 0) := (blk_cell BK238.out 2).trans rfl; have hcz13_3 : w12.cell? ⟨gb238, 3, none⟩ = some (.bool false) := (blk_cell BK238.out 3).trans rfl; have hfz13_0 := blk_frozen BK238.out 0; have hfz13_1 := blk_frozen BK238.out 1; have hfz13_2 := blk_frozen BK238.out 2; have hfz13_3 := blk_frozen BK238.out 3))
                  go_ret
                  exact ⟨by first | rfl | (simp [errW_none, errW_some] <;> rfl) | (simp [*, errW_none, errW_some] <;> rfl), by repeat (first | (with_reducible first | exact HB.out | apply below_alloc | apply pw_below_drewN | apply below_drew1 | refine below_set ?_ GE238.out) | exact HB.out)⟩
                · rw [if_neg c11] at H
                  have c11b0 : decide (64 < (((rd_T50 l0 x7_1).f1.f0).length : Int)) = false := decide_eq_false c11
                  have c11b1 : decide (64 < ((rd_T50 l0 x7_1).f1.f0).length) = false := decide_eq_false (by omega)
                  clear c11
                  have H' := Aside0.mk H
                  clear H
                  have p237 : 0 ≤ (x7_1 : Int) := of_decide_eq_true (by first | (with_reducible assumption) | assumption)
                  have q237 : x7_1 < (l0.length : Int) := of_decide_eq_true (by first | (with_reducible assumption) | assumption)
                  obtain ⟨ad237, A237_1, c237_1, e237, hx237_0, hx237_1, hx237_2, hx237_3, hl237_1, hi237_1⟩ := at_T50 HR0.out x7_1 p237 q237
                  cases e237
                  replace hx237_0 := (HB.out.cell (World.block_lt_of_cell? w _ hx237_0)).trans hx237_0
                  replace hx237_1 := (HB.out.cell (World.block_lt_of_cell? w _ hx237_1)).trans hx237_1
                  replace hx237_2 := (HB.out.cell (World.block_lt_of_cell? w _ hx237_2)).trans hx237_2
                  replace hx237_3 := (HB.out.cell (World.block_lt_of_cell? w _ hx237_3)).trans hx237_3
                  have HR237_1 := Aside0.mk hi237_1
                  have HC237_1 := Aside0.mk hl237_1
                  clear hi237_1 hl237_1
                  replace p237 := eq_true p237
                  replace q237 := eq_true q237
                  go_wp2_with (first | ((with_reducible refine gate_dst (N := 4) rfl ?_); (try (refine gate_guard (by rfl) ?_; dsimp only)); refine box_event ?hg (N := 4) ?hd (cs := #[.int .i64 0, .slice none 0 0, .int .i64 0, .bool false]) (t := 50) ?hr ?_; (case hd => rfl); (case hg => rfl); (case hr => first | (go_simp; done) | (go_simp; rfl)); intro gb238 hg w14 hbox hb; have n0_ := Aside0.mk (below_step (by repeat (first | (with_reducible first | exact HB.out | apply below_alloc | apply pw_below_drewN | apply below_drew1) | exact HB.out)) hb); have n1_ := Aside0.mk (hbox); have n2_ := Aside0.mk ((by rw [hg]; exact (below_size (by repeat (first | (with_reducible first | exact HB.out | apply below_alloc | apply pw_below_drewN | apply below_drew1) | exact HB.out))) : w.heap.size ≤ gb238)); have n3_ := Aside0.mk ((by rw [hg]; exact (below_size (by repeat (first | (with_reducible first | exact HB.out | apply below_alloc | apply pw_below_drewN | apply below_drew1) | exact HB.out))) : w.heap.size ≤ gb238)); clear HB; have HB := n0_; have BK238 := n1_; have GW238 := n2_; have GE238 := n3_; clear n0_ n1_ n2_ n3_; clear hb hbox hg; have hcz15_0 : w14.cell? ⟨gb238, 0, none⟩ = some (.int .i64 0) := (blk_cell BK238.out 0).trans rfl; have hcz15_1 : w14.cell? ⟨gb238, 1, none⟩ = some (.slice none 0 0) := (blk_cell BK238.out 1).trans rfl; have hcz15_2 : w14.cell? ⟨gb238, 2, none⟩ = some (.int .i64 0) := (blk_cell BK238.out 2).trans rfl; have hcz15_3 : w14.cell? ⟨gb238, 3, none⟩ = some (.bool false) := (blk_cell BK238.out 3).trans rfl; have hfz15_0 := blk_frozen BK238.out 0; have hfz15_1 := blk_frozen BK238.out 1; have hfz15_2 := blk_frozen BK238.out 2; have hfz15_3 := blk_frozen BK238.out 3))
                  go_roundg k1
                  case measure => have := HK1.out; omega
                  case rel => exact ⟨(wrap64 (x7_1 + 1)), (by first | rfl | (simp; done) | (simp [*]; done)), H', ⟨by have := HK1.out; omega⟩, ⟨by repeat (first | (with_reducible first | exact HB.out | apply below_alloc | apply pw_below_drewN | apply below_drew1 | refine below_set ?_ GE238.out) | exact HB.out)⟩⟩
          · rw [if_neg c4] at H
            exact absurd H (by simp)
        · rw [if_neg c3] at H
          exact absurd H (by simp)
      · rw [if_neg c2] at H
        have c2b0 : decide (x7_1 < (l0.length : Int)) = false := decide_eq_false c2
        clear c2
        obtain rfl := Option.some.inj H
        go_wp2
        go_ret
        exact ⟨by first | rfl | (simp [errW_none, errW_some] <;> rfl) | (simp [*, errW_none, errW_some] <;> rfl), by repeat (first | (with_reducible first | exact HB.out | apply below_alloc | apply pw_below_drewN | apply below_drew1) | exact HB.out)⟩
end Go.Proofs.Ytfcdaifaocgjfaa.Pr
end
section
namespace Go.Proofs.Ytfcdaifaocgjfaa.Pure
open Go.RowKit Go.Proofs.Ytfcdaifaocgjfaa.Pr Go.Proofs.YtfcdaifaocgjfaaW.PrintWords Go.Proofs.YtfcdaifaocgjfaaW.PrintLast Go.Proofs.YtfcdaifaocgjfaaW.PrintMore
set_option linter.unusedVariables false
set_option linter.unusedSimpArgs false
theorem fewv_loop (l : List S50) (m : Nat) (hm : m ≤ 1000000) : ∀ (n i k : Nat), m + 1 ≤ i + n → i ≤ m + 1 → 2 * n + 2 ≤ k → ∃ b, chalklineref34_FewVersions.l0 k l (m : Int) (i : Int) = some b ∧ (b = true → l.length ≤ m) := by
  intro n
  induction n with
  | zero =>
    intro i k h hi hk
    obtain ⟨k, rfl⟩ : ∃ j, k = j + 1 + 1 := ⟨k - 2, by omega⟩
    rw [chalklineref34_FewVersions.l0]
    have e : decide ((i : Int) ≤ (m : Int)) = false := decide_eq_false (by omega)
    refine ⟨decide ((l.length : Int) ≤ (m : Int)), ?_, fun h => by have := of_decide_eq_true h; omega⟩
    split
    · rw [e, chalklineref34_FewVersions.j1, if_neg (by decide)]
    · rw [chalklineref34_FewVersions.j1, if_neg (by decide)]
  | succ n ih =>
    intro i k h hi hk
    obtain ⟨k, rfl⟩ : ∃ j, k = j + 1 + 1 := ⟨k - 2, by omega⟩
    rw [chalklineref34_FewVersions.l0]
    by_cases h1 : (i : Int) < (l.length : Int)
    · rw [if_pos h1]
      by_cases h2 : (i : Int) ≤ (m : Int)
      · rw [decide_eq_true h2, chalklineref34_FewVersions.j1, if_pos rfl, if_pos (by omega), if_pos h1]
        by_cases h3 : ((rd_T50 l (i : Int)).f1.f0.length : Int) > 70
        · rw [if_pos h3]; exact ⟨false, rfl, fun h => by cases h⟩
        · rw [if_neg h3, w64 (by omega) (by omega), show (i : Int) + 1 = ((i + 1 : Nat) : Int) by omega]
          exact ih (i + 1) k (by omega) (by omega) (by omega)
      · rw [decide_eq_false h2, chalklineref34_FewVersions.j1, if_neg (by decide)]
        exact ⟨_, rfl, fun h => by have := of_decide_eq_true h; omega⟩
    · rw [if_neg h1, chalklineref34_FewVersions.j1, if_neg (by decide)]
      exact ⟨_, rfl, fun h => by have := of_decide_eq_true h; omega⟩
theorem fewv (l : List S50) (m : Nat) (hm : m ≤ 1000000) (k : Nat) (hk : 2 * m + 4 ≤ k) : ∃ b, chalklineref34_FewVersions.f k l (m : Int) = some b ∧ (b = true → l.length ≤ m) :=
  fewv_loop l m hm (m + 1) 0 k (by omega) (by omega) (by omega)
/-- A version that can be stored. -/
def fitV (v : S50) : Prop := 0 ≤ v.f2 ∧ v.f2 ≤ 1099511627776 ∧ v.f1.f0.length ≤ 64
theorem fits_loop (l : List S50) (hl : l.length ≤ 1000000) : ∀ (n i k : Nat), l.length ≤ i + n → n + 1 ≤ k → i ≤ l.length → ∃ b, chalklinelaw34_fits.l0 k l (l.length : Int) (i : Int) = some b ∧ (b = true → ∀ j, i ≤ j → j < l.length → fitV (rd_T50 l (j : Int))) := by
  intro n
  induction n with
  | zero =>
    intro i k h hk hi
    obtain ⟨k, rfl⟩ : ∃ j, k = j + 1 := ⟨k - 1, by omega⟩
    rw [chalklinelaw34_fits.l0, if_neg (by omega)]
    exact ⟨true, rfl, fun _ j h1 h2 => by omega⟩
  | succ n ih =>
    intro i k h hk hi
    obtain ⟨k, rfl⟩ : ∃ j, k = j + 1 := ⟨k - 1, by omega⟩
    rw [chalklinelaw34_fits.l0]
    by_cases h1 : (i : Int) < (l.length : Int)
    · rw [if_pos h1, if_pos (by omega), if_pos h1]
      by_cases h2 : (rd_T50 l (i : Int)).f2 < 0
      · rw [if_pos h2]; exact ⟨false, rfl, fun h => by cases h⟩
      rw [if_neg h2]
      by_cases h3 : (rd_T50 l (i : Int)).f2 > 1099511627776
      · rw [if_pos h3]; exact ⟨false, rfl, fun h => by cases h⟩
      rw [if_neg h3]
      by_cases h4 : ((rd_T50 l (i : Int)).f1.f0.length : Int) > 64
      · rw [if_pos h4]; exact ⟨false, rfl, fun h => by cases h⟩
      rw [if_neg h4, w64 (by omega) (by omega), show (i : Int) + 1 = ((i + 1 : Nat) : Int) by omega]
      obtain ⟨b, e, hb⟩ := ih (i + 1) k (by omega) (by omega) (by omega)
      refine ⟨b, e, fun h j h5 h6 => ?_⟩
      by_cases h7 : j = i
      · subst h7; exact ⟨by omega, by omega, by omega⟩
      · exact hb h j (by omega) h6
    · rw [if_neg h1]
      exact ⟨true, rfl, fun _ j h1 h2 => by omega⟩
theorem fits (l : List S50) (hl : l.length ≤ 1000000) (k : Nat) (hk : l.length + 1 ≤ k) : ∃ b, chalklinelaw34_fits.f k l = some b ∧ (b = true → ∀ j, j < l.length → fitV (rd_T50 l (j : Int))) := by
  obtain ⟨b, e, hb⟩ := fits_loop l hl l.length 0 k (by omega) (by omega) (by omega)
  exact ⟨b, e, fun h j hj => hb h j (by omega) hj⟩
/-- The records and the numbered versions of the first i. -/
def rc (l : List S50) (i : Nat) : List Int := recI ((i : Int) + 1) (rd_T50 l (i : Int)).f1.f0 (rd_T50 l (i : Int)).f2 (rd_T50 l (i : Int)).f3
def nv (l : List S50) (i : Nat) : S50 := ⟨(i : Int) + 1, ⟨(rd_T50 l (i : Int)).f1.f0⟩, (rd_T50 l (i : Int)).f2, (rd_T50 l (i : Int)).f3⟩
def recs (l : List S50) (i : Nat) : List (List Int) := (List.range i).map (rc l)
def nums (l : List S50) (i : Nat) : List S50 := (List.range i).map (nv l)
theorem recs_succ (l : List S50) (i : Nat) : recs l (i + 1) = recs l i ++ [rc l i] := by simp [recs, List.range_succ]
theorem nums_succ (l : List S50) (i : Nat) : nums l (i + 1) = nums l i ++ [nv l i] := by simp [nums, List.range_succ]
theorem recs_length (l : List S50) (i : Nat) : (recs l i).length = i := by simp [recs]
theorem nums_length (l : List S50) (i : Nat) : (nums l i).length = i := by simp [nums]
structure Fit (l : List S50) : Prop where
  len : l.length ≤ 10
  fit : ∀ j, j < l.length → fitV (rd_T50 l (j : Int))
  wok : ∀ j, j < l.length → wok (rd_T50 l (j : Int)).f1.f0
theorem Fit.one {l : List S50} (h : Fit l) (j : Nat) (hj : j < l.length) : Oc.ok64 ((j : Int) + 1) = true ∧ Oc.ok64 (rd_T50 l (j : Int)).f2 = true ∧ rdMay ((j : Int) + 1) (rd_T50 l (j : Int)).f2 (rd_T50 l (j : Int)).f1.f0.length = true ∧ (rc l j).length ≤ 1320 := by
  have h0 := h.len
  obtain ⟨h1, h2, h3⟩ := h.fit j hj
  have e1 : Oc.ok64 ((j : Int) + 1) = true := ok64_nat (j + 1) (by omega)
  have e2 : Oc.ok64 (rd_T50 l (j : Int)).f2 = true := by simp [Oc.ok64]; omega
  have e3 := recI_length ((j : Int) + 1) (rd_T50 l (j : Int)).f1.f0 (rd_T50 l (j : Int)).f2 (rd_T50 l (j : Int)).f3 e1 (h.wok j hj) (by omega) e2
  refine ⟨e1, e2, ?_, by unfold rc; omega⟩
  unfold rdMay
  simp only [Bool.and_eq_true, decide_eq_true_eq]
  exact ⟨⟨⟨⟨by omega, by omega⟩, h1⟩, h2⟩, h3⟩
theorem F_len {l : List S50} (h : Fit l) : ∀ i, i ≤ l.length → (Pl.F (recs l i)).length ≤ 1328 * i := by
  intro i
  induction i with
  | zero => intro _; simp [recs, Pl.F]
  | succ i ih =>
    intro hi
    have h1 := ih (by omega)
    have h2 := (h.one i (by omega)).2.2.2
    have h3 := Pl.frameI_length (rc l i)
    rw [recs_succ, Pl.F_append, Pl.F_one, List.length_append]
    omega
/-- One more. -/
theorem Fit.more {l : List S50} (h : Fit l) {s o : List Int} {ms mo : List (List Int)} {a b : List S50} (i : Nat) (hi : i < l.length) (V : Val s o ms mo a b) (hn : a.length + b.length = i) (hz : s.length + o.length ≤ 1328 * i) :
    Val s (o ++ Pl.frameI (rc l i)) ms (mo ++ [rc l i]) a (b ++ [nv l i]) ∧ ∀ (k : Nat), 100 ≤ k → journal_Append.f k s o ((i : Int) + 1) (rd_T50 l (i : Int)).f1.f0 (rd_T50 l (i : Int)).f2 (rd_T50 l (i : Int)).f3 = some (s, o ++ Pl.frameI (rc l i), 0) ∨ ¬ (Pl.bytes s ∧ Pl.bytes o) := by
  obtain ⟨e1, e2, e3, e4⟩ := h.one i hi
  have h3 := Pl.frameI_length (rc l i)
  have h0 := h.len
  obtain ⟨V', hA⟩ := V.append ((i : Int) + 1) (rd_T50 l (i : Int)).f1.f0 (rd_T50 l (i : Int)).f2 (rd_T50 l (i : Int)).f3 e1 (h.wok i hi) e2 e3 (by omega) (by rw [List.length_append]; unfold rc at h3 e4; omega)
  refine ⟨V', fun k hk => ?_⟩
  by_cases hb : Pl.bytes s ∧ Pl.bytes o
  · left
    rw [jAppend s o hb.1 hb.2 (by omega) (by omega) _ _ _ _ e1 (h.wok i hi) e2 k hk, hA]
    rfl
  · right; exact hb
theorem bytes_be4 (n : Int) : Pl.bytes (Pl.be4 n) := by
  intro x hx
  unfold Pl.be4 at hx
  simp only [List.mem_cons, List.not_mem_nil, or_false] at hx
  rcases hx with rfl | rfl | rfl | rfl <;> omega
theorem bytes_frame (x : List Int) (h : Pl.bytes x) : Pl.bytes (Pl.frameI x) := Pl.bytes_append (Pl.bytes_append (bytes_be4 _) (bytes_be4 _)) h
theorem bytes_F (xs : List (List Int)) (h : ∀ x ∈ xs, Pl.bytes x) : Pl.bytes (Pl.F xs) := by
  induction xs with
  | nil => intro x hx; simp [Pl.F] at hx
  | cons y ys ih =>
    rw [show y :: ys = [y] ++ ys from rfl, Pl.F_append, Pl.F_one]
    exact Pl.bytes_append (bytes_frame y (h y List.mem_cons_self)) (ih fun x hx => h x (List.mem_cons_of_mem _ hx))
theorem bytes_recs (l : List S50) (i : Nat) : ∀ x ∈ recs l i, Pl.bytes x := fun x hx => by
  obtain ⟨j, _, rfl⟩ := List.mem_map.1 hx
  exact bytes_recI _ _ _ _
/-- The disk where the first t records are safe and those to i are open. -/
def P (l : List S50) (t i : Nat) : List Int × List Int := (Pl.F (recs l t), Pl.F ((recs l i).drop t))
theorem bytes_P (l : List S50) (t i : Nat) : Pl.bytes (P l t i).1 ∧ Pl.bytes (P l t i).2 := ⟨bytes_F _ (bytes_recs l t), bytes_F _ fun x hx => bytes_recs l i x (List.mem_of_mem_drop hx)⟩
theorem P_succ (l : List S50) (t i : Nat) (h : t ≤ i) : P l t (i + 1) = ((P l t i).1, (P l t i).2 ++ Pl.frameI (rc l i)) := by
  unfold P
  rw [recs_succ, List.drop_append_of_le_length (by rw [recs_length]; exact h), Pl.F_append, Pl.F_one]
theorem P_len {l : List S50} (h : Fit l) (t i : Nat) (ht : t ≤ i) (hi : i ≤ l.length) : (P l t i).1.length + (P l t i).2.length ≤ 1328 * i := by
  have := F_len h i hi
  rw [← List.take_append_drop t (recs l i), Pl.F_append, List.length_append] at this
  have e : (recs l i).take t = recs l t := by
    unfold recs
    rw [← List.map_take, List.take_range, Nat.min_eq_left ht]
  rw [e] at this
  exact this
theorem val_P {l : List S50} (h : Fit l) : ∀ (t : Nat), t ≤ l.length → ∀ (d : Nat), t + d ≤ l.length → Val (P l t (t + d)).1 (P l t (t + d)).2 (recs l t) ((recs l (t + d)).drop t) (nums l t) ((nums l (t + d)).drop t) := by
  have step : ∀ (t : Nat), t ≤ l.length → Val (P l t t).1 (P l t t).2 (recs l t) ((recs l t).drop t) (nums l t) ((nums l t).drop t) → ∀ (d : Nat), t + d ≤ l.length → Val (P l t (t + d)).1 (P l t (t + d)).2 (recs l t) ((recs l (t + d)).drop t) (nums l t) ((nums l (t + d)).drop t) := by
    intro t ht h0 d
    induction d with
    | zero => intro _; exact h0
    | succ d ih =>
      intro hd
      have V := ih (by omega)
      have hm := (h.more (t + d) (by omega) V (by rw [List.length_drop, nums_length, nums_length]; omega) (P_len h t (t + d) (by omega) (by omega))).1
      rw [show t + (d + 1) = (t + d) + 1 from rfl, P_succ l t (t + d) (by omega), recs_succ, nums_succ, List.drop_append_of_le_length (by rw [recs_length]; omega), List.drop_append_of_le_length (by rw [nums_length]; omega)]
      exact hm
  have z := step 0 (by omega) ⟨rfl, rfl, fun x hx => (by cases hx), fun x hx => (by cases hx), rfl, rfl, by simp [P, recs, Pl.F]⟩
  intro t ht d hd
  refine step t ht ?_ d hd
  have V := z t (by omega)
  rw [Nat.zero_add] at V
  have e1 : (recs l t).drop t = [] := List.drop_eq_nil_of_le (by rw [recs_length]; omega)
  have e2 : (nums l t).drop t = [] := List.drop_eq_nil_of_le (by rw [nums_length]; omega)
  have vb := V.vb
  have ho := V.ho
  rw [List.drop_zero] at vb ho
  rw [List.drop_zero] at vb
  refine ⟨rfl, rfl, ho, (by rw [e1]; exact fun x hx => (by cases hx)), vb, by rw [e1, e2]; rfl, ?_⟩
  have := P_len h t t (by omega) ht
  have := h.len
  omega
end Go.Proofs.Ytfcdaifaocgjfaa.Pure
end
section
namespace Go.Proofs.Ytfcdaifaocgjfaa.Pr
open Go.RowKit Go.Proofs.YtfcdaifaocgjfaaW.PrintWords Go.Proofs.YtfcdaifaocgjfaaW.PrintLast Go.Proofs.YtfcdaifaocgjfaaW.PrintMore
set_option linter.unusedVariables false
set_option linter.unusedSimpArgs false
theorem fit_append {l : List S50} (h : Pure.Fit l) (t i : Nat) (ht : t ≤ i) (hi : i < l.length) (k : Nat) (hk : 100 ≤ k) : journal_Append.f k (Pure.P l t i).1 (Pure.P l t i).2 ((i : Int) + 1) (rd_T50 l (i : Int)).f1.f0 (rd_T50 l (i : Int)).f2 (rd_T50 l (i : Int)).f3 = some ((Pure.P l t (i + 1)).1, (Pure.P l t (i + 1)).2, 0) := by
  have V := Pure.val_P h t (by omega) (i - t) (by omega)
  rw [show t + (i - t) = i by omega] at V
  rcases (h.more i hi V (by rw [List.length_drop, Pure.nums_length, Pure.nums_length]; omega) (Pure.P_len h t i ht (by omega))).2 k hk with e | e
  · rw [e, Pure.P_succ l t i ht]
  · exact absurd (Pure.bytes_P l t i) e
theorem fit_sync {l : List S50} (h : Pure.Fit l) (t : Nat) (ht : t ≤ l.length) : journal_Sync.f (Pure.P l 0 t).1 (Pure.P l 0 t).2 = some ((Pure.P l t t).1, (Pure.P l t t).2, 0) := by
  have V := Pure.val_P h 0 (by omega) t (by omega)
  rw [Nat.zero_add] at V
  have hb := Pure.bytes_P l 0 t
  have hl := Pure.P_len h 0 t (by omega) ht
  have h0 := h.len
  rw [Pure.jSync _ _ hb.1 hb.2 (by omega) (by omega)]
  unfold Pure.syncI
  rw [V.read, if_pos rfl]
  have e1 : (Pure.P l 0 t).1 ++ (Pure.P l 0 t).2 = (Pure.P l t t).1 := by
    unfold Pure.P
    rw [List.drop_zero, ← Pl.F_append]
    rfl
  have e2 : (Pure.P l t t).2 = [] := by
    unfold Pure.P
    rw [List.drop_eq_nil_of_le (by rw [Pure.recs_length]; omega)]
    rfl
  rw [e1, e2]
theorem j_written {l : List S50} (h : Pure.Fit l) {t : Nat} (ht : t ≤ l.length) {A : Option Addr} {c : Nat} {w : World} (V : Vr w A c l) : Calls Try.prog 18 #[.slice A l.length c, .int .i64 t] w (WrR w (Pure.P l t l.length)) := by
  refine c_written 100 A c l t (fun i => Pure.P l (if i ≤ t then 0 else t) i) (Pure.P l t t) w V (Pure.P l t l.length) ⟨fun e => by subst e; rfl, fun e => ?_⟩ (by have := h.len; omega) ht ?_ ?_ ?_
  · show _ = Pure.P l (if l.length ≤ t then 0 else t) l.length
    rw [if_neg (by omega)]
  · show Pure.P l (if 0 ≤ t then 0 else t) 0 = _
    rw [if_pos (Nat.zero_le _)]
    rfl
  · show journal_Sync.f (Pure.P l (if t ≤ t then 0 else t) t).1 (Pure.P l (if t ≤ t then 0 else t) t).2 = _
    rw [if_pos (Nat.le_refl _)]
    exact fit_sync h t ht
  · intro i hi q h1 h2
    show journal_Append.f 100 q.1 q.2 _ _ _ _ = some ((Pure.P l (if i + 1 ≤ t then 0 else t) (i + 1)).1, (Pure.P l (if i + 1 ≤ t then 0 else t) (i + 1)).2, 0)
    by_cases e : i = t
    · rw [h1 e, if_neg (by omega)]
      subst e
      exact fit_append h i i (Nat.le_refl _) hi 100 (Nat.le_refl _)
    · rw [h2 e]
      show journal_Append.f 100 (Pure.P l (if i ≤ t then 0 else t) i).1 (Pure.P l (if i ≤ t then 0 else t) i).2 _ _ _ _ = _
      by_cases e2 : i ≤ t
      · rw [if_pos e2, if_pos (by omega)]
        exact fit_append h 0 i (by omega) hi 100 (Nat.le_refl _)
      · rw [if_neg e2, if_neg (by omega)]
        exact fit_append h t i (by omega) hi 100 (Nat.le_refl _)
end Go.Proofs.Ytfcdaifaocgjfaa.Pr
end
section
namespace Go.Proofs.Ytfcdaifaocgjfaa.Pure
open Go.RowKit Go.Proofs.Ytfcdaifaocgjfaa.Pr Go.Proofs.YtfcdaifaocgjfaaW.PrintWords Go.Proofs.YtfcdaifaocgjfaaW.PrintLast Go.Proofs.YtfcdaifaocgjfaaW.PrintMore
set_option linter.unusedVariables false
set_option linter.unusedSimpArgs false
theorem nums_take (l : List S50) (t i : Nat) (ht : t ≤ i) : nums l t = (nums l i).take t := by
  unfold nums
  rw [← List.map_take, List.take_range, Nat.min_eq_left ht]
theorem nums_weeks {l : List S50} (h : Fit l) : ∀ v ∈ nums l l.length, v.f1.f0.length ≤ 100000 := by
  intro v hv
  obtain ⟨j, hj, rfl⟩ := List.mem_map.1 hv
  have := (h.fit j (List.mem_range.1 hj)).2.2
  show (rd_T50 l (j : Int)).f1.f0.length ≤ 100000
  omega
theorem back {l : List S50} (h : Fit l) (t : Nat) (ht : t ≤ l.length) (keep : Int) (hk : 0 ≤ keep) :
    journal_Read.f (P l t l.length).1 (P l t l.length).2 = some (nums l t, (nums l l.length).drop t, 0) ∧
    chalklineref34_Versions.f 20000000 (nums l t ++ (nums l l.length).drop t) (nums l l.length) = some true ∧
    ∃ (x : List Int) (m : Nat), journal_Crash.f (P l t l.length).1 (P l t l.length).2 keep = some (x, [], 0) ∧ journal_Read.f x [] = some ((nums l l.length).take m, [], 0) ∧ t ≤ m ∧ m ≤ l.length ∧ (¬ keep < ((P l t l.length).2.length : Int) → m = l.length) ∧
      chalklineref34_Versions.f 20000000 ((nums l l.length).take m) ((nums l l.length).take m) = some true := by
  have V := val_P h t ht (l.length - t) (by omega)
  rw [show t + (l.length - t) = l.length by omega] at V
  have hb := bytes_P l t l.length
  have hlen := P_len h t l.length ht (Nat.le_refl _)
  have h10 := h.len
  have hcat : nums l t ++ (nums l l.length).drop t = nums l l.length := by rw [nums_take l t l.length ht, List.take_append_drop]
  have hw := nums_weeks h
  refine ⟨by rw [jRead _ _ hb.1 hb.2 (by omega) (by omega), V.read], ?_, ?_⟩
  · rw [hcat]
    exact versions_refl _ (by rw [nums_length]; omega) hw _ (by omega)
  obtain ⟨W, hW, h1, h2, hc, V2, he⟩ := V.crash keep hk
  rw [List.length_drop, recs_length] at hW
  have hm : nums l t ++ ((nums l l.length).drop t).take W = (nums l l.length).take (t + W) := by rw [List.take_add, ← nums_take l t l.length ht]
  rw [hm] at V2
  refine ⟨_, t + W, by rw [jCrash _ _ hb.1 hb.2 (by omega) (by omega), hc], ?_, by omega, by omega, fun hn => ?_, versions_refl _ (by rw [List.length_take, nums_length]; omega) (fun v hv => hw v (List.mem_of_mem_take hv)) _ (by omega)⟩
  · have hx : Pl.bytes (Pl.F (recs l t ++ ((recs l l.length).drop t).take W)) := bytes_F _ fun x hx => by
      rcases List.mem_append.1 hx with hx | hx
      · exact bytes_recs l t x hx
      · exact bytes_recs l l.length x (List.mem_of_mem_drop (List.mem_of_mem_take hx))
    rw [jRead _ _ hx (fun x hx => by cases hx) (by have := V2.le; omega) (by simp), V2.read]
  · rcases Nat.lt_or_ge W (l.length - t) with hlt | hge
    · have h3 := h2 (l.length - t) hlt (by rw [List.length_drop, recs_length]; omega)
      rw [Pl.G_all _ _ (by rw [List.length_drop, recs_length]; omega)] at h3
      have hmn : (mn keep ((P l t l.length).2.length : Int)).toNat = (P l t l.length).2.length := by
        unfold mn
        split <;> omega
      rw [hmn] at h3
      exact absurd h3 (Nat.lt_irrefl _)
    · omega
end Go.Proofs.Ytfcdaifaocgjfaa.Pure
end
section
namespace Go.Proofs.Ytfcdaifaocgjfaa.Pure
open Go.RowKit Go.Proofs.Ytfcdaifaocgjfaa.Pr Go.Proofs.YtfcdaifaocgjfaaW.PrintWords Go.Proofs.YtfcdaifaocgjfaaW.PrintLast Go.Proofs.YtfcdaifaocgjfaaW.PrintMore
set_option linter.unusedVariables false
def fitB (c : Int) (n : Nat) : Bool := decide (0 ≤ c) && decide (c ≤ 1099511627776) && decide (n ≤ 64)
/-- What Append answers to a version on a valid small disk. -/
theorem next (s o : List Int) (hs : Pl.bytes s) (ho : Pl.bytes o) (h : (readI s o).2.2 = 0) (hl : s.length ≤ 4000) (hm : o.length ≤ 4000) (n : Int) (ws : List S76) (c : Int) (t : Bool) (hn : Oc.ok64 n = true) (hw : wok ws) (hc : Oc.ok64 c = true) (h7 : ws.length ≤ 70) :
    ∃ a b, readI s o = (a, b, 0) ∧ (a.length ≤ 10000000 ∧ b.length ≤ 5000) ∧ ((∀ u ∈ a, u.f1.f0.length ≤ 64) ∧ ∀ u ∈ b, u.f1.f0.length ≤ 64) ∧
      (n = (a.length : Int) + (b.length : Int) + 1 ∧ fitB c ws.length = true → ∃ o', appendI s o n ws c t = (s, o', 0) ∧ readI s o' = (a, b ++ [⟨n, ⟨ws⟩, c, t⟩], 0) ∧ Pl.bytes o' ∧ o'.length ≤ 1000000) ∧
      (¬ (n = (a.length : Int) + (b.length : Int) + 1 ∧ fitB c ws.length = true) → appendI s o n ws c t = ([], [], 1)) := by
  obtain ⟨ms, mo, a, b, V, hr⟩ := val_of s o hs ho h
  have hsm := readI_small s o hs ho
  rw [hr] at hsm
  have hbl : b.length ≤ 5000 := by
    have h1 := V.counts.2
    have h2 := Pl.len_le_F mo
    rw [← V.eo] at h2
    omega
  refine ⟨a, b, hr, ⟨hsm.1.1, hbl⟩, ⟨hsm.1.2, hsm.2.2⟩, ?_, ?_⟩
  · rintro ⟨h1, h2⟩
    have hmay : rdMay n c ws.length = true := by
      unfold fitB at h2
      unfold rdMay
      simp only [Bool.and_eq_true, decide_eq_true_eq] at h2 ⊢
      have t1 := hsm.1.1
      have t2 := hsm.2.1
      dsimp only at t1 t2
      omega
    have hrl := recI_length n ws c t hn hw (by omega) hc
    have hfl := Pl.frameI_length (recI n ws c t)
    obtain ⟨V', e⟩ := V.append n ws c t hn hw hc hmay h1 (by rw [List.length_append]; omega)
    exact ⟨_, e, V'.read, Pl.bytes_append ho (Pl.bytes_append (Pl.bytes_append (Pl.bytes_be4 _) (Pl.bytes_be4 _)) (bytes_recI n ws c t)), by rw [List.length_append]; omega⟩
  · intro hno
    unfold appendI
    rw [hr, if_pos rfl, if_neg]
    rintro ⟨h1, h2⟩
    refine hno ⟨h2, ?_⟩
    unfold rdMay at h1
    unfold fitB
    simp only [Bool.and_eq_true, decide_eq_true_eq] at h1 ⊢
    exact ⟨⟨h1.1.1.2, h1.1.2⟩, h1.2⟩
end Go.Proofs.Ytfcdaifaocgjfaa.Pure
namespace Go.Proofs.Ytfcdaifaocgjfaa.Pr
open Go.RowKit Go.Proofs.YtfcdaifaocgjfaaW.PrintWords Go.Proofs.YtfcdaifaocgjfaaW.PrintLast Go.Proofs.YtfcdaifaocgjfaaW.PrintMore
set_option linter.unusedVariables false
set_option linter.unusedSimpArgs false
theorem j_fits (k : Nat) {A : Option Addr} {c : Nat} {l : List S50} {w : World} (V : Vr w A c l) {r : Bool} (h : chalklinelaw34_fits.f k l = some r) : Calls Try.prog 17 #[.slice A l.length c] w fun e w' => e = .returned (.bool r) ∧ Below w.heap.size w w' := chalklinelaw34_fits.calls k A c l r w V.c0 V.l0 h
theorem heap76 : Kd.Heap k76 := Kd.heap_iso _ (Kd.heap_pair (Kd.heap_int _) (Kd.heap_int _))
theorem heap50 : Kd.Heap k50 := Kd.heap_iso _ (Kd.heap_pair (Kd.heap_int _) (Kd.heap_pair (Kd.heap_iso _ (Kd.heap_slice _ heap76)) (Kd.heap_pair (Kd.heap_int _) Kd.heap_bool)))
theorem below_new {W w1 : World} (hg : W.grownBy w1 (Value.slice none 0 0).ownBlock) : Below W.heap.size W w1 := (Below.refl _ _).grown hg (Nat.le_refl _) (fun k e => by cases e)
theorem Lv.grown {w W W1 : World} {D V : Array Value} {row : Option Nat} (h : Lv w D V W) (hb : Below w.heap.size w W1) (hg : W.grownBy W1 row) (hne : ∀ k, row = some k → w.heap.size + 1 < k) : Lv w D V W1 :=
  ⟨hb, (hg.block w.heap.size (blk_lt h.d) (fun e => by have := hne _ e.symm; omega)).trans h.d, (hg.block (w.heap.size + 1) (blk_lt h.v) (fun e => by have := hne _ e.symm; omega)).trans h.v⟩
theorem own_span {W w1 : World} {v1 : Value} (hat : v1.ownBlock = (Value.slice none 0 0).ownBlock ∨ ∃ b, v1.ownBlock = some b ∧ W.heap.size ≤ b) (hlt : ∀ k, v1.ownBlock = some k → k < w1.heap.size) : ∀ k, v1.ownBlock = some k → W.heap.size ≤ k ∧ k < w1.heap.size := by
  intro k hk
  refine ⟨?_, hlt k hk⟩
  rcases hat with e | ⟨b, e, hb⟩
  · rw [e] at hk; cases hk
  · rw [e] at hk; cases hk; exact hb
end Go.Proofs.Ytfcdaifaocgjfaa.Pr
end
