/- Parts of the proof of JournalWrites; no condition. -/
import Derived.Test.YtfcdaifaocgjfaaGa0
import Derived.Test.YtfcdaifaocgjfaaPr35
import Derived.Test.YtfcdaifaocgjfaaGa12
import Derived.Test.YtfcdaifaocgjfaaGa10
import Derived.Test.YtfcdaifaocgjfaaPla
import Derived.Test.YtfcdaifaocgjfaaPr41
section
namespace Go.Proofs.Ytfcdaifaocgjfaa.Pr
open Go.RowKit Go.Proofs.YtfcdaifaocgjfaaW.PrintWords Go.Proofs.YtfcdaifaocgjfaaW.PrintLast Go.Proofs.YtfcdaifaocgjfaaW.PrintMore
attribute [local go_sem] max2_int min2_int max_two min_two max_three min_three max_four min_four   -- for this text's walks alone
set_option linter.unusedVariables false
set_option linter.unusedSimpArgs false
def chalklineref34_Sync.f (k : Nat) (l0_0 : List Int) (l0_1 : List Int) : Option (List Int × List Int × Int) := (chalklineref34_Check.f k l0_0 l0_1).bind fun t436 => (if t436 = 0 then ((chalklineref34_join.f l0_0 l0_1).bind fun t437 => (some (t437, ([] : List Int), 0))) else (some (([] : List Int), ([] : List Int), t436)))
set_option maxHeartbeats 8000000 in
set_option maxRecDepth 100000 in
theorem chalklineref34_Sync.calls (k : Nat) (A0_0 : Option Addr) (c0_0 : Nat) (l0_0 : List Int) (A0_1 : Option Addr) (c0_1 : Nat) (l0_1 : List Int) (r1 : List Int) (r2 : List Int) (r3 : Int) (w : World) (hr0_0 : Kd.C (Kd.int .u8) w A0_0 l0_0.length l0_0) (hc0_0 : l0_0.length ≤ c0_0) (hr0_1 : Kd.C (Kd.int .u8) w A0_1 l0_1.length l0_1) (hc0_1 : l0_1.length ≤ c0_1) (h : chalklineref34_Sync.f k l0_0 l0_1 = some (r1, r2, r3)) :
    Calls Try.prog 27 #[.agg #[.slice A0_0 l0_0.length c0_0, .slice A0_1 l0_1.length c0_1]] w fun e w' => ∃ v0_ v1_ : Value, e = .returned (.tuple #[.agg #[v0_, v1_], .int .i64 r3]) ∧ Kd.R (Kd.int .u8) 5 w' w.heap.size (fun k_ => some k_ ≠ (v1_ : Value).ownBlock) v0_ r1 ∧ Kd.R (Kd.int .u8) 5 w' w.heap.size (fun k_ => some k_ ≠ (v0_ : Value).ownBlock) v1_ r2 ∧ Below w.heap.size w w' := by
  have hu24 := Try.underlying24
  have HR0_0 := Aside0.mk hr0_0
  have HC0_0 := Aside0.mk hc0_0
  clear hr0_0 hc0_0
  have HR0_1 := Aside0.mk hr0_1
  have HC0_1 := Aside0.mk hc0_1
  clear hr0_1 hc0_1
  have HB := Aside0.mk (Below.refl w.heap.size w)
  have H : ((chalklineref34_Check.f k l0_0 l0_1).bind fun t436 => (if t436 = 0 then ((chalklineref34_join.f l0_0 l0_1).bind fun t437 => (some (t437, ([] : List Int), 0))) else (some (([] : List Int), ([] : List Int), t436)))) = some (r1, r2, r3) := h
  clear h
  replace H := Option.bind_eq_some_iff.mp H
  obtain ⟨t436, A20, H⟩ := H
  replace H : (if t436 = 0 then ((chalklineref34_join.f l0_0 l0_1).bind fun t437 => (some (t437, ([] : List Int), 0))) else (some (([] : List Int), ([] : List Int), t436))) = some (r1, r2, r3) := H
  have A2 := Aside0.mk A20
  clear A20
  by_cases c3 : t436 = 0
  · rw [if_pos c3] at H
    have c3b0 : (t436 == 0) = true := beq_iff_eq.mpr c3
    have c3b1 : (t436 != 0) = false := bne_eq_false_iff_eq.mpr c3
    clear c3
    replace H := Option.bind_eq_some_iff.mp H
    obtain ⟨t437, A40, H⟩ := H
    replace H : (some (t437, ([] : List Int), 0)) = some (r1, r2, r3) := H
    have A4 := Aside0.mk A40
    clear A40
    simp only [Option.some.injEq, Prod.mk.injEq] at H
    obtain ⟨rfl, rfl, rfl⟩ := H
    go_enter Try.func27, Try.ntmps27
    go_wp2_with (first | ((with_reducible refine gate_dst (N := 1) rfl ?_); refine box_event ?hg (N := 1) ?hd (cs := #[.slice A0_0 l0_0.length c0_0, .slice A0_1 l0_1.length c0_1]) (t := 24) ?hr ?_; (case hd => rfl); (case hg => rfl); (case hr => first | (go_simp; done) | (go_simp; rfl)); intro gb434 hg w5 hbox hb; have n0_ := Aside0.mk (below_step (by repeat (first | (with_reducible first | exact HB.out | apply below_alloc | apply pw_below_drewN | apply below_drew1) | exact HB.out)) hb); have n1_ := Aside0.mk (hbox); have n2_ := Aside0.mk ((by rw [hg]; exact (below_size (by repeat (first | (with_reducible first | exact HB.out | apply below_alloc | apply pw_below_drewN | apply below_drew1) | exact HB.out))) : w.heap.size ≤ gb434)); have n3_ := Aside0.mk ((by rw [hg]; exact (below_size (by repeat (first | (with_reducible first | exact HB.out | apply below_alloc | apply pw_below_drewN | apply below_drew1) | exact HB.out))) : w.heap.size ≤ gb434)); clear HB; have HB := n0_; have BK434 := n1_; have GW434 := n2_; have GE434 := n3_; clear n0_ n1_ n2_ n3_; clear hb hbox hg) | ((with_reducible refine gate_dst (N := 2) rfl ?_); refine box_event ?hg (N := 2) ?hd (cs := #[.slice none 0 0, .slice none 0 0]) (t := 24) ?hr ?_; (case hd => rfl); (case hg => rfl); (case hr => first | (go_simp; done) | (go_simp; rfl)); intro gb435 hg w6 hbox hb; have n0_ := Aside0.mk (blk_below (g := gb434) (o := .cells #[.slice A0_0 l0_0.length c0_0, .slice A0_1 l0_1.length c0_1] 24 (0, 0)) (by (with_reducible repeat (first | refine blk_drewN ?_ _ | refine blk_drew ?_ | refine blk_alloc ?_ _)); exact BK434.out) hb); have n1_ := Aside0.mk (below_step (by repeat (first | (with_reducible first | exact HB.out | apply below_alloc | apply pw_below_drewN | apply below_drew1 | refine below_set ?_ GE434.out) | exact HB.out)) hb); have n2_ := Aside0.mk (hbox); have n3_ := Aside0.mk ((by rw [hg]; exact (below_size (by repeat (first | (with_reducible first | exact HB.out | apply below_alloc | apply pw_below_drewN | apply below_drew1 | refine below_set ?_ GE434.out) | exact HB.out))) : w.heap.size ≤ gb435)); have n4_ := Aside0.mk ((by rw [hg]; exact (below_size (by repeat (first | (with_reducible first | exact HB.out | apply below_alloc | apply pw_below_drewN | apply below_drew1 | refine below_set ?_ GE434.out) | exact HB.out))) : w.heap.size ≤ gb435)); have n5_ := Aside0.mk ((by rw [hg]; exact Nat.ne_of_lt (blk_lt (g := gb434) (o := .cells #[.slice A0_0 l0_0.length c0_0, .slice A0_1 l0_1.length c0_1] 24 (0, 0)) (by (with_reducible repeat (first | refine blk_drewN ?_ _ | refine blk_drew ?_ | refine blk_alloc ?_ _)); exact BK434.out)) : gb434 ≠ gb435)); have n6_ := Aside0.mk ((by rw [hg]; exact Nat.ne_of_gt (blk_lt (g := gb434) (o := .cells #[.slice A0_0 l0_0.length c0_0, .slice A0_1 l0_1.length c0_1] 24 (0, 0)) (by (with_reducible repeat (first | refine blk_drewN ?_ _ | refine blk_drew ?_ | refine blk_alloc ?_ _)); exact BK434.out)) : gb435 ≠ gb434)); clear BK434; clear HB; have BK434 := n0_; have HB := n1_; have BK435 := n2_; have GW435 := n3_; have GE435 := n4_; have NB434_435 := n5_; have NB435_434 := n6_; clear n0_ n1_ n2_ n3_ n4_ n5_ n6_; clear hb hbox hg; have hnb7 := NB434_435.out; have hnc7 := NB435_434.out; have hcz8_0 : w6.cell? ⟨gb434, 0, none⟩ = some (.slice A0_0 l0_0.length c0_0) := (blk_cell BK434.out 0).trans rfl; have hcz8_1 : w6.cell? ⟨gb434, 1, none⟩ = some (.slice A0_1 l0_1.length c0_1) := (blk_cell BK434.out 1).trans rfl; have hfz8_0 := blk_frozen BK434.out 0; have hfz8_1 := blk_frozen BK434.out 1) | ((with_reducible refine gate_callee (f := 39) rfl ?_); refine goesL_ (some 6) rfl rfl Try.func39 (by kernel_rfl) rfl #[.agg #[.slice A0_0 l0_0.length c0_0, .slice A0_1 l0_1.length c0_1]] rfl (by (try simp only [List.map_toArray, List.map_cons, List.map_nil]); first | done | rfl | (simp only [List.length_drop, List.length_take]; rfl)) ?_; (with_reducible refine (chalklineref34_Check.calls k _ _ l0_0 _ _ l0_1 t436 _ ?side1 ?side2 ?side3 ?side4 A2.out).mono ?_); (case side1 => repeat (first | exact (Kd.C_below HR0_0.out HB.out) | (with_reducible refine Kd.C_alloc ?_ _) | (with_reducible refine Kd.C_drewN ?_ _) | (with_reducible refine Kd.C_drew ?_))); (case side2 => exact HC0_0.out); (case side3 => repeat (first | exact (Kd.C_below HR0_1.out HB.out) | (with_reducible refine Kd.C_alloc ?_ _) | (with_reducible refine Kd.C_drewN ?_ _) | (with_reducible refine Kd.C_drew ?_))); (case side4 => exact HC0_1.out); rintro e w9 ⟨rfl, hb⟩; refine ⟨_, rfl, ?_⟩; have n0_ := Aside0.mk (blk_below (g := gb434) (o := .cells #[.slice A0_0 l0_0.length c0_0, .slice A0_1 l0_1.length c0_1] 24 (0, 0)) (by (with_reducible repeat (first | refine blk_drewN ?_ _ | refine blk_drew ?_ | refine blk_alloc ?_ _)); exact BK434.out) hb); have n1_ := Aside0.mk (blk_below (g := gb435) (o := .cells #[.slice none 0 0, .slice none 0 0] 24 (0, 0)) (by (with_reducible repeat (first | refine blk_drewN ?_ _ | refine blk_drew ?_ | refine blk_alloc ?_ _)); exact BK435.out) hb); have n2_ := Aside0.mk (below_step (by repeat (first | (with_reducible first | exact HB.out | apply below_alloc | apply pw_below_drewN | apply below_drew1 | refine below_set ?_ GE434.out | refine below_set ?_ GE435.out) | exact HB.out)) hb); clear BK434; clear BK435; clear HB; have BK434 := n0_; have BK435 := n1_; have HB := n2_; clear n0_ n1_ n2_; (try clear hb); (try clear hb2); (try clear hk); (try clear hi); have hcz10_0 : w9.cell? ⟨gb434, 0, none⟩ = some (.slice A0_0 l0_0.length c0_0) := (blk_cell BK434.out 0).trans rfl; have hcz10_1 : w9.cell? ⟨gb434, 1, none⟩ = some (.slice A0_1 l0_1.length c0_1) := (blk_cell BK434.out 1).trans rfl; have hfz10_0 := blk_frozen BK434.out 0; have hfz10_1 := blk_frozen BK434.out 1) | ((with_reducible refine gate_callee (f := 41) rfl ?_); refine goesL_ (some 15) rfl rfl Try.func41 (by kernel_rfl) rfl #[.slice A0_0 l0_0.length c0_0, .slice A0_1 l0_1.length c0_1] rfl (by (try simp only [List.map_toArray, List.map_cons, List.map_nil]); first | done | rfl | (simp only [List.length_drop, List.length_take]; rfl)) ?_; (with_reducible refine (chalklineref34_join.calls _ _ l0_0 _ _ l0_1 t437 _ ?side1 ?side2 ?side3 ?side4 A4.out).mono ?_); (case side1 => repeat (first | exact (Kd.C_below HR0_0.out HB.out) | (with_reducible refine Kd.C_alloc ?_ _) | (with_reducible refine Kd.C_drewN ?_ _) | (with_reducible refine Kd.C_drew ?_))); (case side2 => exact HC0_0.out); (case side3 => repeat (first | exact (Kd.C_below HR0_1.out HB.out) | (with_reducible refine Kd.C_alloc ?_ _) | (with_reducible refine Kd.C_drewN ?_ _) | (with_reducible refine Kd.C_drew ?_))); (case side4 => exact HC0_1.out); rintro e w11 ⟨v438, rfl, ho0, hb⟩; refine ⟨_, rfl, ?_⟩; have n0_ := Aside0.mk (Kd.R_lower ho0 (below_size (by repeat (first | (with_reducible first | exact HB.out | apply below_alloc | apply pw_below_drewN | apply below_drew1 | refine below_set ?_ GE434.out | refine below_set ?_ GE435.out) | exact HB.out)))); have n1_ := Aside0.mk (blk_below (g := gb434) (o := .cells #[.slice A0_0 l0_0.length c0_0, .slice A0_1 l0_1.length c0_1] 24 (0, 0)) (by (with_reducible repeat (first | refine blk_drewN ?_ _ | refine blk_drew ?_ | refine blk_alloc ?_ _)); exact BK434.out) hb); have n2_ := Aside0.mk (blk_below (g := gb435) (o := .cells #[.slice none 0 0, .slice none 0 0] 24 (0, 0)) (by (with_reducible repeat (first | refine blk_drewN ?_ _ | refine blk_drew ?_ | refine blk_alloc ?_ _)); exact BK435.out) hb); have n3_ := Aside0.mk (below_step (by repeat (first | (with_reducible first | exact HB.out | apply below_alloc | apply pw_below_drewN | apply below_drew1 | refine below_set ?_ GE434.out | refine below_set ?_ GE435.out) | exact HB.out)) hb); clear BK434; clear BK435; clear HB; have HO439 := n0_; have BK434 := n1_; have BK435 := n2_; have HB := n3_; clear n0_ n1_ n2_ n3_; (try clear hb); (try clear hb2); (try clear hk); (try clear hi); (try clear ho0); obtain ⟨Ao12, co12, eo12⟩ := Kd.R_slice HO439.out; subst eo12; have hcz13_0 : w11.cell? ⟨gb435, 0, none⟩ = some (.slice none 0 0) := (blk_cell BK435.out 0).trans rfl; have hcz13_1 : w11.cell? ⟨gb435, 1, none⟩ = some (.slice none 0 0) := (blk_cell BK435.out 1).trans rfl; have hfz13_0 := blk_frozen BK435.out 0; have hfz13_1 := blk_frozen BK435.out 1))
    refine bodyPost_ret (results_ct rfl _ _ gb435 24 #[.slice Ao12 t437.length co12, .slice none 0 0] (0, 0) _ rfl (by (with_reducible repeat (first | refine blk_drewN ?_ _ | refine blk_drew ?_ | refine blk_alloc ?_ _)); refine blk_put (cs := #[.slice Ao12 t437.length co12, .slice none 0 0]) ?_ 1 _ rfl; (with_reducible repeat (first | refine blk_drewN ?_ _ | refine blk_drew ?_ | refine blk_alloc ?_ _)); refine blk_put (cs := #[.slice none 0 0, .slice none 0 0]) ?_ 0 _ rfl; (with_reducible repeat (first | refine blk_drewN ?_ _ | refine blk_drew ?_ | refine blk_alloc ?_ _)); exact BK435.out) Try.underlying24 rfl (by kernel_rfl)) rfl ?_
    exact ⟨_, _, by first | rfl | (simp [errW_none, errW_some] <;> rfl) | (simp [*, errW_none, errW_some] <;> rfl), by (with_reducible repeat (first | apply Kd.R_alloc | apply Kd.R_drewN | apply Kd.R_drew)); exact Kd.R_mono (Kd.R_far (p := ⟨gb435, 1, none⟩) (Kd.R_far (p := ⟨gb435, 0, none⟩) (Kd.R_types HO439.out BK435.out (by decide)) (fun _ hk => hk.2) (.slice Ao12 t437.length co12)) (fun _ hk => hk.2) (.slice none 0 0)) (fun _ hk => (by simp [Value.ownBlock])), by first | exact Kd.R_nil _ _ _ _ _ | exact Kd.N_nil _ _ _ _ _ | exact Kd.V_nil _ _ _ _ _ | exact Kd.Q_nil _ _ _ _ _ | exact Kd.S_nil _ _ _ _ _, by repeat (first | (with_reducible first | exact HB.out | apply below_alloc | apply pw_below_drewN | apply below_drew1 | refine below_set ?_ GE434.out | refine below_set ?_ GE435.out) | exact HB.out)⟩
  · rw [if_neg c3] at H
    have c3b0 : (t436 == 0) = false := beq_eq_false_iff_ne.mpr c3
    have c3b1 : (t436 != 0) = true := bne_iff_ne.mpr c3
    simp only [Option.some.injEq, Prod.mk.injEq] at H
    obtain ⟨rfl, rfl, rfl⟩ := H
    go_enter Try.func27, Try.ntmps27
    go_wp2_with (first | ((with_reducible refine gate_dst (N := 1) rfl ?_); refine box_event ?hg (N := 1) ?hd (cs := #[.slice A0_0 l0_0.length c0_0, .slice A0_1 l0_1.length c0_1]) (t := 24) ?hr ?_; (case hd => rfl); (case hg => rfl); (case hr => first | (go_simp; done) | (go_simp; rfl)); intro gb434 hg w14 hbox hb; have n0_ := Aside0.mk (below_step (by repeat (first | (with_reducible first | exact HB.out | apply below_alloc | apply pw_below_drewN | apply below_drew1) | exact HB.out)) hb); have n1_ := Aside0.mk (hbox); have n2_ := Aside0.mk ((by rw [hg]; exact (below_size (by repeat (first | (with_reducible first | exact HB.out | apply below_alloc | apply pw_below_drewN | apply below_drew1) | exact HB.out))) : w.heap.size ≤ gb434)); have n3_ := Aside0.mk ((by rw [hg]; exact (below_size (by repeat (first | (with_reducible first | exact HB.out | apply below_alloc | apply pw_below_drewN | apply below_drew1) | exact HB.out))) : w.heap.size ≤ gb434)); clear HB; have HB := n0_; have BK434 := n1_; have GW434 := n2_; have GE434 := n3_; clear n0_ n1_ n2_ n3_; clear hb hbox hg) | ((with_reducible refine gate_dst (N := 2) rfl ?_); refine box_event ?hg (N := 2) ?hd (cs := #[.slice none 0 0, .slice none 0 0]) (t := 24) ?hr ?_; (case hd => rfl); (case hg => rfl); (case hr => first | (go_simp; done) | (go_simp; rfl)); intro gb435 hg w15 hbox hb; have n0_ := Aside0.mk (blk_below (g := gb434) (o := .cells #[.slice A0_0 l0_0.length c0_0, .slice A0_1 l0_1.length c0_1] 24 (0, 0)) (by (with_reducible repeat (first | refine blk_drewN ?_ _ | refine blk_drew ?_ | refine blk_alloc ?_ _)); exact BK434.out) hb); have n1_ := Aside0.mk (below_step (by repeat (first | (with_reducible first | exact HB.out | apply below_alloc | apply pw_below_drewN | apply below_drew1 | refine below_set ?_ GE434.out) | exact HB.out)) hb); have n2_ := Aside0.mk (hbox); have n3_ := Aside0.mk ((by rw [hg]; exact (below_size (by repeat (first | (with_reducible first | exact HB.out | apply below_alloc | apply pw_below_drewN | apply below_drew1 | refine below_set ?_ GE434.out) | exact HB.out))) : w.heap.size ≤ gb435)); have n4_ := Aside0.mk ((by rw [hg]; exact (below_size (by repeat (first | (with_reducible first | exact HB.out | apply below_alloc | apply pw_below_drewN | apply below_drew1 | refine below_set ?_ GE434.out) | exact HB.out))) : w.heap.size ≤ gb435)); have n5_ := Aside0.mk ((by rw [hg]; exact Nat.ne_of_lt (blk_lt (g := gb434) (o := .cells #[.slice A0_0 l0_0.length c0_0, .slice A0_1 l0_1.length c0_1] 24 (0, 0)) (by (with_reducible repeat (first | refine blk_drewN ?_ _ | refine blk_drew ?_ | refine blk_alloc ?_ _)); exact BK434.out)) : gb434 ≠ gb435)); have n6_ := Aside0.mk ((by rw [hg]; exact Nat.ne_of_gt (blk_lt (g := gb434) (o := .cells #[.slice A0_0 l0_0.length c0_0, .slice A0_1 l0_1.length c0_1] 24 (0, 0)) (by (with_reducible repeat (first | refine blk_drewN ?_ _ | refine blk_drew ?_ | refine blk_alloc ?_ _)); exact BK434.out)) : gb435 ≠ gb434)); clear BK434; clear HB; have BK434 := n0_; have HB := n1_; have BK435 := n2_; have GW435 := n3_; have GE435 := n4_; have NB434_435 := n5_; have NB435_434 := n6_; clear n0_ n1_ n2_ n3_ n4_ n5_ n6_; clear hb hbox hg; have hnb16 := NB434_435.out; have hnc16 := NB435_434.out; have hcz17_0 : w15.cell? ⟨gb434, 0, none⟩ = some (.slice A0_0 l0_0.length c0_0) := (blk_cell BK434.out 0).trans rfl; have hcz17_1 : w15.cell? ⟨gb434, 1, none⟩ = some (.slice A0_1 l0_1.length c0_1) := (blk_cell BK434.out 1).trans rfl; have hfz17_0 := blk_frozen BK434.out 0; have hfz17_1 := blk_frozen BK434.out 1) | ((with_reducible refine gate_callee (f := 39) rfl ?_); refine goesL_ (some 6) rfl rfl Try.func39 (by kernel_rfl) rfl #[.agg #[.slice A0_0 l0_0.length c0_0, .slice A0_1 l0_1.length c0_1]] rfl (by (try simp only [List.map_toArray, List.map_cons, List.map_nil]); first | done | rfl | (simp only [List.length_drop, List.length_take]; rfl)) ?_; (with_reducible refine (chalklineref34_Check.calls k _ _ l0_0 _ _ l0_1 t436 _ ?side1 ?side2 ?side3 ?side4 A2.out).mono ?_); (case side1 => repeat (first | exact (Kd.C_below HR0_0.out HB.out) | (with_reducible refine Kd.C_alloc ?_ _) | (with_reducible refine Kd.C_drewN ?_ _) | (with_reducible refine Kd.C_drew ?_))); (case side2 => exact HC0_0.out); (case side3 => repeat (first | exact (Kd.C_below HR0_1.out HB.out) | (with_reducible refine Kd.C_alloc ?_ _) | (with_reducible refine Kd.C_drewN ?_ _) | (with_reducible refine Kd.C_drew ?_))); (case side4 => exact HC0_1.out); rintro e w18 ⟨rfl, hb⟩; refine ⟨_, rfl, ?_⟩; have n0_ := Aside0.mk (blk_below (g := gb434) (o := .cells #[.slice A0_0 l0_0.length c0_0, .slice A0_1 l0_1.length c0_1] 24 (0, 0)) (by (with_reducible repeat (first | refine blk_drewN ?_ _ | refine blk_drew ?_ | refine blk_alloc ?_ _)); exact BK434.out) hb); have n1_ := Aside0.mk (blk_below (g := gb435) (o := .cells #[.slice none 0 0, .slice none 0 0] 24 (0, 0)) (by (with_reducible repeat (first | refine blk_drewN ?_ _ | refine blk_drew ?_ | refine blk_alloc ?_ _)); exact BK435.out) hb); have n2_ := Aside0.mk (below_step (by repeat (first | (with_reducible first | exact HB.out | apply below_alloc | apply pw_below_drewN | apply below_drew1 | refine below_set ?_ GE434.out | refine below_set ?_ GE435.out) | exact HB.out)) hb); clear BK434; clear BK435; clear HB; have BK434 := n0_; have BK435 := n1_; have HB := n2_; clear n0_ n1_ n2_; (try clear hb); (try clear hb2); (try clear hk); (try clear hi); have hcz19_0 : w18.cell? ⟨gb435, 0, none⟩ = some (.slice none 0 0) := (blk_cell BK435.out 0).trans rfl; have hcz19_1 : w18.cell? ⟨gb435, 1, none⟩ = some (.slice none 0 0) := (blk_cell BK435.out 1).trans rfl; have hfz19_0 := blk_frozen BK435.out 0; have hfz19_1 := blk_frozen BK435.out 1))
    refine bodyPost_ret (results_ct rfl _ _ gb435 24 #[.slice none 0 0, .slice none 0 0] (0, 0) _ rfl (by (with_reducible repeat (first | refine blk_drewN ?_ _ | refine blk_drew ?_ | refine blk_alloc ?_ _)); refine blk_put (cs := #[.slice none 0 0, .slice none 0 0]) ?_ 1 _ rfl; (with_reducible repeat (first | refine blk_drewN ?_ _ | refine blk_drew ?_ | refine blk_alloc ?_ _)); refine blk_put (cs := #[.slice none 0 0, .slice none 0 0]) ?_ 0 _ rfl; (with_reducible repeat (first | refine blk_drewN ?_ _ | refine blk_drew ?_ | refine blk_alloc ?_ _)); exact BK435.out) Try.underlying24 rfl (by kernel_rfl)) rfl ?_
    exact ⟨_, _, by first | rfl | (simp [errW_none, errW_some] <;> rfl) | (simp [*, errW_none, errW_some] <;> rfl), by first | exact Kd.R_nil _ _ _ _ _ | exact Kd.N_nil _ _ _ _ _ | exact Kd.V_nil _ _ _ _ _ | exact Kd.Q_nil _ _ _ _ _ | exact Kd.S_nil _ _ _ _ _, by first | exact Kd.R_nil _ _ _ _ _ | exact Kd.N_nil _ _ _ _ _ | exact Kd.V_nil _ _ _ _ _ | exact Kd.Q_nil _ _ _ _ _ | exact Kd.S_nil _ _ _ _ _, by repeat (first | (with_reducible first | exact HB.out | apply below_alloc | apply pw_below_drewN | apply below_drew1 | refine below_set ?_ GE434.out | refine below_set ?_ GE435.out) | exact HB.out)⟩
end Go.Proofs.Ytfcdaifaocgjfaa.Pr
end
section
namespace Go.Proofs.Ytfcdaifaocgjfaa.Pure
open Go.RowKit Go.Proofs.Ytfcdaifaocgjfaa.Pr Go.Proofs.YtfcdaifaocgjfaaW.PrintWords Go.Proofs.YtfcdaifaocgjfaaW.PrintLast Go.Proofs.YtfcdaifaocgjfaaW.PrintMore
set_option linter.unusedVariables false
set_option linter.unusedSimpArgs false
theorem refJoin (a b : List Int) (h : a.length ≤ 1000000000) (h' : b.length ≤ 1000000000) : chalklineref34_join.f a b = some (a ++ b) := by unfold chalklineref34_join.f; rw [if_pos (by omega)]
theorem refFour (n : Int) (h0 : 0 ≤ n) (_h1 : n < 4294967296) : chalklineref02_four.f n = some (Pl.be4 n) := by
  unfold chalklineref02_four.f Pl.be4
  rw [Int.tdiv_eq_ediv_of_nonneg h0, Int.tdiv_eq_ediv_of_nonneg h0, Int.tdiv_eq_ediv_of_nonneg h0, Int.tmod_eq_emod_of_nonneg h0]
  rw [show n / 16777216 % 4294967296 % 256 = n / 16777216 % 256 by omega, show n / 65536 % 4294967296 % 256 = n / 65536 % 256 by omega, show n / 256 % 4294967296 % 256 = n / 256 % 256 by omega, show n % 256 % 256 = n % 256 by omega]
theorem refFrame (l : List Int) (hb : Pl.bytes l) (h : l.length ≤ 65536) (k : Nat) (hk : 10 * l.length + 1 ≤ k) : chalklineref02_Frame.f k l = some (Pl.frameI l, 0) := by
  unfold chalklineref02_Frame.f
  rw [if_neg (by omega)]
  have hs := Pl.sumI_range l
  rw [show (l.length : Int) % 4294967296 = (l.length : Int) by omega, refFour _ (by omega) (by omega), Option.bind_some, refSum_of l (by omega) hb k hk, Option.bind_some, refFour _ hs.1 hs.2, Option.bind_some]
  have h4 : ∀ n, (Pl.be4 n).length = 4 := fun n => rfl
  rw [h4, h4, if_pos (by omega), Option.bind_some, List.length_append, h4, h4, if_pos (by omega)]
  rfl
theorem refPut' (l : List Int) (n : Int) (hn : Oc.ok64 n = true) (hl : l.length ≤ 10000000000000) (k : Nat) (hk : 11 ≤ k) : chalklineref01_PutInt.f k l n = some (l ++ Oc.grp (Oc.zz n)) := refPut l n hn hl k hk
theorem refWeekPut_loop (ws : List S76) (hw : wok ws) (hl : ws.length ≤ 1000000000) : ∀ (d i : Nat) (acc : List Int), i + d = ws.length → acc.length + 20 * d ≤ 900000000000 → ∀ k, d + 12 ≤ k → chalklineref04_Put.l0 k acc (i : Int) ws = some (acc ++ Wk (ws.drop i)) := by
  intro d
  induction d with
  | zero =>
    intro i acc hi ha k hk
    obtain ⟨k, rfl⟩ : ∃ j, k = j + 1 := ⟨k - 1, by omega⟩
    rw [chalklineref04_Put.l0, if_neg (by omega), List.drop_eq_nil_of_le (by omega), Wk_nil, List.append_nil]
  | succ d ih =>
    intro i acc hi ha k hk
    obtain ⟨k, rfl⟩ : ∃ j, k = j + 1 := ⟨k - 1, by omega⟩
    have hlt : i < ws.length := by omega
    have hp := hw ws[i] (List.getElem_mem hlt)
    have g0 := grp10 hp.1
    have g1 := grp10 hp.2
    have e2 : (i : Int) + 1 = ((i + 1 : Nat) : Int) := by omega
    rw [chalklineref04_Put.l0, if_pos (show (i : Int) < (ws.length : Int) by omega), if_pos (show (0 : Int) ≤ (i : Int) by omega), rdT76 ws i hlt, refPut' _ _ hp.1 (by omega) k (by omega), Option.bind_some, refPut' _ _ hp.2 (by rw [List.length_append]; omega) k (by omega), Option.bind_some, w64 (by omega) (by omega), e2,
      ih (i + 1) _ (by omega) (by rw [List.length_append, List.length_append]; omega) k (by omega), List.drop_eq_getElem_cons hlt, Wk_cons]
    simp only [List.append_assoc]
theorem refRecord (n : Int) (ws : List S76) (c : Int) (b : Bool) (hn : Oc.ok64 n = true) (hw : wok ws) (hl : ws.length ≤ 1000000000) (hc : Oc.ok64 c = true) (k : Nat) (hk : ws.length + 20 ≤ k) : chalklineref34_record.f k n ws c b = some (recI n ws c b) := by
  have g0 := grp10 hn
  have g1 := grp10 (ok64_nat ws.length (by omega))
  have g2 := Wk_length ws hw
  have g3 := grp10 hc
  have key : ∀ k, ws.length + 19 ≤ k → chalklineref34_record.j0 k (bit b) n ws c b = some (recI n ws c b) := by
    intro k hk
    obtain ⟨k, rfl⟩ : ∃ j, k = j + 1 := ⟨k - 1, by omega⟩
    have hlp := refWeekPut_loop ws hw hl ws.length 0 (Oc.grp (Oc.zz n) ++ Oc.grp (Oc.zz ws.length)) (by omega) (by rw [List.length_append]; omega) k (by omega)
    rw [show ((0 : Nat) : Int) = 0 from rfl, List.drop_zero] at hlp
    rw [chalklineref34_record.j0]
    unfold chalklineref04_Put.f
    rw [refPut' [] n hn (by simp) k (by omega), Option.bind_some, List.nil_append, refPut' _ _ (ok64_nat ws.length (by omega)) (by omega) k (by omega), Option.bind_some, hlp, Option.bind_some, refPut' _ _ hc (by simp only [List.length_append]; omega) k (by omega), Option.bind_some, refPut' _ _ (ok64_bit b) (by simp only [List.length_append]; omega) k (by omega), Option.bind_some]
    simp only [recI, List.append_assoc]
  unfold chalklineref34_record.f
  cases b with
  | true => rw [if_pos rfl]; exact key k (by omega)
  | false => rw [if_neg (by decide)]; exact key k (by omega)
theorem refAppend (s o : List Int) (hs : Pl.bytes s) (ho : Pl.bytes o) (hl : s.length ≤ 10000000) (hm : o.length ≤ 10000000) (n : Int) (ws : List S76) (c : Int) (b : Bool) (hn : Oc.ok64 n = true) (hw : wok ws) (hc : Oc.ok64 c = true) (k : Nat) (hk : 20000000 ≤ k) : chalklineref34_Append.f k s o n ws c b = some (appendI s o n ws c b) := by
  unfold chalklineref34_Append.f appendI
  rw [refRead s o hs ho (by omega) (by omega) k (by omega), Option.bind_some]
  by_cases h0 : (readI s o).2.2 = 0
  case neg => rw [if_neg h0, if_neg h0]
  rw [if_pos h0, if_pos h0, refMay, Option.bind_some, next_eq s o hs ho n]
  obtain ⟨k, rfl⟩ : ∃ j, k = j + 1 := ⟨k - 1, by omega⟩
  by_cases hy : rdMay n c ws.length = true
  · rw [if_pos hy]
    by_cases hq : n = ((readI s o).1.length : Int) + ((readI s o).2.1.length : Int) + 1
    · rw [if_pos ⟨hy, hq⟩, decide_eq_true hq, chalklineref34_Append.j0, if_neg (by decide)]
      have hlen := (may_len hy).2.2.2.2
      have hr := recI_length n ws c b hn hw (by omega) hc
      have hfl := Pl.frameI_length (recI n ws c b)
      rw [refRecord n ws c b hn hw (by omega) hc k (by omega), Option.bind_some, refFrame _ (bytes_recI n ws c b) (by omega) k (by omega), Option.bind_some, if_pos rfl]
      dsimp only
      rw [w64 (n := (s.length : Int) + (o.length : Int)) (by omega) (by omega), w64 (by omega) (by omega), refJoin s [] (by omega) (by simp), Option.bind_some, refJoin o _ (by omega) (by omega), Option.bind_some, List.append_nil]
      by_cases hsz : s.length + (o ++ Pl.frameI (recI n ws c b)).length > 1048576
      · rw [if_pos hsz, if_pos (by rw [List.length_append] at hsz; omega)]
      · rw [if_neg hsz, if_neg (by rw [List.length_append] at hsz; omega)]
    · rw [if_neg (fun h => hq h.2), decide_eq_false hq, chalklineref34_Append.j0, if_pos (by decide)]
  · rw [if_neg hy, if_neg (fun h => hy h.1), chalklineref34_Append.j0, if_pos rfl]
theorem refSync (s o : List Int) (hs : Pl.bytes s) (ho : Pl.bytes o) (hl : s.length ≤ 10000000) (hm : o.length ≤ 10000000) (k : Nat) (hk : 20000000 ≤ k) : chalklineref34_Sync.f k s o = some (syncI s o) := by
  unfold chalklineref34_Sync.f syncI
  rw [refCheck s o hs ho (by omega) (by omega) k (by omega), Option.bind_some]
  by_cases h0 : (readI s o).2.2 = 0
  · rw [if_pos h0, if_pos h0, refJoin _ _ (by omega) (by omega), Option.bind_some]
  · rw [if_neg h0, if_neg h0]
end Go.Proofs.Ytfcdaifaocgjfaa.Pure
namespace Go.Proofs.Ytfcdaifaocgjfaa.Pr
open Go.RowKit Go.Proofs.YtfcdaifaocgjfaaW.PrintWords Go.Proofs.YtfcdaifaocgjfaaW.PrintLast Go.Proofs.YtfcdaifaocgjfaaW.PrintMore
set_option linter.unusedVariables false
set_option linter.unusedSimpArgs false
theorem j_refAppend (k : Nat) {A A' B : Option Addr} {c c' d : Nat} {s o : List Int} {l : List S76} {w : World} (D : Dk w A c s A' c' o) (V : Pv w B d l) (n m : Int) (b : Bool) {r1 r2 : List Int} {r3 : Int} (h : chalklineref34_Append.f k s o n l m b = some (r1, r2, r3)) : Calls Try.prog 26 #[.agg #[.slice A s.length c, .slice A' o.length c'], .agg #[.int .i64 n, .slice B l.length d, .int .i64 m, .bool b]] w (DkR w r1 r2 r3) :=
  (chalklineref34_Append.calls k A c s A' c' o n B d l m b r1 r2 r3 w D.c0 D.l0 D.c1 D.l1 V.c0 V.l0 h).mono fun e w' ⟨v, v', he, hr, hr', hb⟩ => dkR (dk_ret he hr hr' hb)
theorem j_refSync (k : Nat) {A A' : Option Addr} {c c' : Nat} {s o : List Int} {w : World} (D : Dk w A c s A' c' o) {r1 r2 : List Int} {r3 : Int} (h : chalklineref34_Sync.f k s o = some (r1, r2, r3)) : Calls Try.prog 27 #[.agg #[.slice A s.length c, .slice A' o.length c']] w (DkR w r1 r2 r3) :=
  (chalklineref34_Sync.calls k A c s A' c' o r1 r2 r3 w D.c0 D.l0 D.c1 D.l1 h).mono fun e w' ⟨v, v', he, hr, hr', hb⟩ => dkR (dk_ret he hr hr' hb)
set_option maxHeartbeats 4000000 in
set_option maxRecDepth 100000 in
theorem c_JournalWrites (A : Option Addr) (c : Nat) (s : List Int) (A' : Option Addr) (c' : Nat) (o : List Int) (n : Int) (B : Option Addr) (d : Nat) (l : List S76) (m : Int) (b : Bool) (w : World) (h0 : Kd.C (Kd.int .u8) w A s.length s) (hc : s.length ≤ c) (h1 : Kd.C (Kd.int .u8) w A' o.length o) (hc' : o.length ≤ c') (h2 : Kd.C k76 w B l.length l) (hd : l.length ≤ d)
    (hs : ∀ x ∈ s, (Lit.int .u8 x).wf = true) (ho : ∀ x ∈ o, (Lit.int .u8 x).wf = true) (_ : s.length ≤ reachBytes) (_ : o.length ≤ reachBytes) (hv : Ra.VerWf ⟨n, ⟨l⟩, m, b⟩) :
    Calls Try.prog 9 #[.agg #[.slice A s.length c, .slice A' o.length c'], .agg #[.int .i64 n, .slice B l.length d, .int .i64 m, .bool b]] w fun e w' => e = .returned (.bool true) ∧ Below w.heap.size w w' := by
  have hs := Pure.bytes_wf hs
  have ho := Pure.bytes_wf ho
  obtain ⟨ok0, ok2, ok1⟩ := Pure.wok_of hv
  have hf := few_eq s o
  have hF := @few_small s o
  generalize (decide ((s.length : Int) ≤ 4000) && decide ((o.length : Int) ≤ 4000)) = fw at hf hF
  have hfv := Pure.fewv_one ⟨n, ⟨l⟩, m, b⟩
  generalize decide ((⟨n, ⟨l⟩, m, b⟩ : S50).f1.f0.length ≤ 70) = fv at hfv
  have S := Aside0.mk (Lv.start w #[.slice A s.length c, .slice A' o.length c'] #[.int .i64 n, .slice B l.length d, .int .i64 m, .bool b])
  have D := Aside0.mk (((Dk.mk h0 hc h1 hc').alloc (.cells #[.slice A s.length c, .slice A' o.length c'] 24)).alloc (.cells #[.int .i64 n, .slice B l.length d, .int .i64 m, .bool b] 50))
  have V := Aside0.mk (((Pv.mk h2 hd).alloc (.cells #[.slice A s.length c, .slice A' o.length c'] 24)).alloc (.cells #[.int .i64 n, .slice B l.length d, .int .i64 m, .bool b] 50))
  have F0 := Aside0.mk (And.intro hf hfv)
  clear hf hfv h0 hc h1 hc' h2 hd hv
  cases fw with
  | false =>
    clear hF hs ho ok0 ok1 ok2
    go_enter Try.func9, Try.ntmps9
    go_wp2_with fail
    refine (chalklinelaw34_live.calls true _ rfl).mono ?_
    rintro e_ w1 ⟨rfl, hb1⟩
    have S1 := Aside0.mk (S.out.below hb1)
    have D1 := Aside0.mk (D.out.below hb1)
    have V1 := Aside0.mk (V.out.below hb1)
    clear hb1 S D V
    obtain ⟨⟨k0, k1⟩, _⟩ := S1.out.facts
    go_wp2_with fail
    refine (j_few D1.out F0.out.1).mono ?_
    rintro e_ w2 ⟨rfl, hb2⟩
    have S2 := Aside0.mk (S1.out.below hb2)
    clear hb2 S1 D1 V1 k0 k1
    go_wp2
    go_ret
    exact ⟨rfl, S2.out.hb⟩
  | true =>
    cases fv with
    | false =>
      clear hF hs ho ok0 ok1 ok2
      go_enter Try.func9, Try.ntmps9
      go_wp2_with fail
      refine (chalklinelaw34_live.calls true _ rfl).mono ?_
      rintro e_ w1 ⟨rfl, hb1⟩
      have S1 := Aside0.mk (S.out.below hb1)
      have D1 := Aside0.mk (D.out.below hb1)
      have V1 := Aside0.mk (V.out.below hb1)
      clear hb1 S D V
      obtain ⟨⟨k0, k1⟩, _⟩ := S1.out.facts
      go_wp2_with fail
      refine (j_few D1.out F0.out.1).mono ?_
      rintro e_ w2 ⟨rfl, hb2⟩
      have S2 := Aside0.mk (S1.out.below hb2)
      have D2 := Aside0.mk (D1.out.below hb2)
      have V2 := Aside0.mk (V1.out.below hb2)
      clear hb2 S1 D1 V1 k0 k1
      obtain ⟨⟨k0, k1⟩, k2, k3, k4, k5⟩ := S2.out.facts
      go_wp2_with fail
      refine (j_fewv 5 (Pv.one (v := ⟨n, ⟨l⟩, m, b⟩) (V2.out.alloc (.cells #[.int .i64 n, .slice B l.length d, .int .i64 m, .bool b] 50)) (blk_new w2 (.cells #[.int .i64 n, .slice B l.length d, .int .i64 m, .bool b] 50))) 1 F0.out.2).mono ?_
      rintro e_ w3 ⟨rfl, hb3⟩
      have S3 := Aside0.mk ((S2.out.alloc (.cells #[.int .i64 n, .slice B l.length d, .int .i64 m, .bool b] 50)).below hb3)
      clear hb3 S2 D2 V2 k0 k1 k2 k3 k4 k5
      go_wp2
      go_ret
      exact ⟨rfl, S3.out.hb⟩
    | true =>
      obtain ⟨hl, hm⟩ := hF rfl
      have r1 := Pure.jAppend s o hs ho (by omega) (by omega) n l m b ok0 ok1 ok2 20000000 (by omega)
      have r2 := Pure.refAppend s o hs ho (by omega) (by omega) n l m b ok0 ok1 ok2 20000000 (by omega)
      have r3 := Pure.jSync s o hs ho (by omega) (by omega)
      have r4 := Pure.refSync s o hs ho (by omega) (by omega) 20000000 (by omega)
      generalize Pure.appendI s o n l m b = R at r1 r2
      generalize Pure.syncI s o = R' at r3 r4
      obtain ⟨x, y, e⟩ := R
      obtain ⟨x', y', e'⟩ := R'
      have ee : (e == e) = true := beq_self_eq_true e
      have ee' : (e' == e') = true := beq_self_eq_true e'
      have F := Aside0.mk (And.intro (And.intro r1 r2) (And.intro (And.intro r3 r4) (And.intro (Pure.same_refl x y) (Pure.same_refl x' y'))))
      clear hF hs ho hl hm r1 r2 r3 r4 ok0 ok1 ok2
      go_enter Try.func9, Try.ntmps9
      go_wp2_with fail
      refine (chalklinelaw34_live.calls true _ rfl).mono ?_
      rintro e_ w1 ⟨rfl, hb1⟩
      have S1 := Aside0.mk (S.out.below hb1)
      have D1 := Aside0.mk (D.out.below hb1)
      have V1 := Aside0.mk (V.out.below hb1)
      clear hb1 S D V
      obtain ⟨⟨k0, k1⟩, _⟩ := S1.out.facts
      go_wp2_with fail
      refine (j_few D1.out F0.out.1).mono ?_
      rintro e_ w2 ⟨rfl, hb2⟩
      have S2 := Aside0.mk (S1.out.below hb2)
      have D2 := Aside0.mk (D1.out.below hb2)
      have V2 := Aside0.mk (V1.out.below hb2)
      clear hb2 S1 D1 V1 k0 k1
      obtain ⟨⟨k0, k1⟩, k2, k3, k4, k5⟩ := S2.out.facts
      go_wp2_with fail
      refine (j_fewv 5 (Pv.one (v := ⟨n, ⟨l⟩, m, b⟩) (V2.out.alloc (.cells #[.int .i64 n, .slice B l.length d, .int .i64 m, .bool b] 50)) (blk_new w2 (.cells #[.int .i64 n, .slice B l.length d, .int .i64 m, .bool b] 50))) 1 F0.out.2).mono ?_
      rintro e_ w3 ⟨rfl, hb3⟩
      have S3 := Aside0.mk ((S2.out.alloc (.cells #[.int .i64 n, .slice B l.length d, .int .i64 m, .bool b] 50)).below hb3)
      have D3 := Aside0.mk ((D2.out.alloc (.cells #[.int .i64 n, .slice B l.length d, .int .i64 m, .bool b] 50)).below hb3)
      have V3 := Aside0.mk ((V2.out.alloc (.cells #[.int .i64 n, .slice B l.length d, .int .i64 m, .bool b] 50)).below hb3)
      clear hb3 S2 D2 V2 k0 k1 k2 k3 k4 k5
      obtain ⟨⟨k0, k1⟩, k2, k3, k4, k5⟩ := S3.out.facts
      go_wp2_with fail
      refine (j_append 20000000 D3.out V3.out n m b F.out.1.1).mono ?_
      rintro e_ w4 ⟨B1, d1, B2, d2, rfl, X4, hb4⟩
      have S4 := Aside0.mk ((S3.out.below hb4).alloc (.cells #[.slice B1 x.length d1, .slice B2 y.length d2] 24))
      have D4 := Aside0.mk ((D3.out.below hb4).alloc (.cells #[.slice B1 x.length d1, .slice B2 y.length d2] 24))
      have V4 := Aside0.mk ((V3.out.below hb4).alloc (.cells #[.slice B1 x.length d1, .slice B2 y.length d2] 24))
      have E4 := Aside0.mk (And.intro (X4.alloc (.cells #[.slice B1 x.length d1, .slice B2 y.length d2] 24)) (blk_new w4 (.cells #[.slice B1 x.length d1, .slice B2 y.length d2] 24)))
      clear hb4 S3 D3 V3 X4 k0 k1 k2 k3 k4 k5
      obtain ⟨⟨k0, k1⟩, k2, k3, k4, k5⟩ := S4.out.facts
      go_wp2_with fail
      refine (j_refAppend 20000000 D4.out V4.out n m b F.out.1.2).mono ?_
      rintro e_ w5 ⟨B3, d3, B4, d4, rfl, X5, hb5⟩
      have S5 := Aside0.mk ((S4.out.below hb5).alloc (.cells #[.slice B3 x.length d3, .slice B4 y.length d4] 24))
      have D5 := Aside0.mk ((D4.out.below hb5).alloc (.cells #[.slice B3 x.length d3, .slice B4 y.length d4] 24))
      have E5 := Aside0.mk (And.intro (And.intro ((E4.out.1.below hb5).alloc (.cells #[.slice B3 x.length d3, .slice B4 y.length d4] 24)) (blk_alloc (blk_below E4.out.2 hb5) (.cells #[.slice B3 x.length d3, .slice B4 y.length d4] 24))) (And.intro (X5.alloc (.cells #[.slice B3 x.length d3, .slice B4 y.length d4] 24)) (blk_new w5 (.cells #[.slice B3 x.length d3, .slice B4 y.length d4] 24))))
      clear hb5 S4 D4 V4 E4 X5 k0 k1 k2 k3 k4 k5
      obtain ⟨⟨k0, k1⟩, _⟩ := S5.out.facts
      go_wp2_with fail
      refine (j_sync D5.out F.out.2.1.1).mono ?_
      rintro e_ w6 ⟨B5, d5, B6, d6, rfl, X6, hb6⟩
      have S6 := Aside0.mk ((S5.out.below hb6).alloc (.cells #[.slice B5 x'.length d5, .slice B6 y'.length d6] 24))
      have D6 := Aside0.mk ((D5.out.below hb6).alloc (.cells #[.slice B5 x'.length d5, .slice B6 y'.length d6] 24))
      have E6 := Aside0.mk (And.intro (And.intro (And.intro ((E5.out.1.1.below hb6).alloc (.cells #[.slice B5 x'.length d5, .slice B6 y'.length d6] 24)) (blk_alloc (blk_below E5.out.1.2 hb6) (.cells #[.slice B5 x'.length d5, .slice B6 y'.length d6] 24))) (And.intro ((E5.out.2.1.below hb6).alloc (.cells #[.slice B5 x'.length d5, .slice B6 y'.length d6] 24)) (blk_alloc (blk_below E5.out.2.2 hb6) (.cells #[.slice B5 x'.length d5, .slice B6 y'.length d6] 24))))
        (And.intro (X6.alloc (.cells #[.slice B5 x'.length d5, .slice B6 y'.length d6] 24)) (blk_new w6 (.cells #[.slice B5 x'.length d5, .slice B6 y'.length d6] 24))))
      clear hb6 S5 D5 E5 X6 k0 k1
      obtain ⟨⟨k0, k1⟩, _⟩ := S6.out.facts
      go_wp2_with fail
      refine (j_refSync 20000000 D6.out F.out.2.1.2).mono ?_
      rintro e_ w7 ⟨B7, d7, B8, d8, rfl, X7, hb7⟩
      have S7 := Aside0.mk ((S6.out.below hb7).alloc (.cells #[.slice B7 x'.length d7, .slice B8 y'.length d8] 24)).hb
      have E7 := Aside0.mk (And.intro (And.intro (And.intro ((E6.out.1.1.1.below hb7).alloc (.cells #[.slice B7 x'.length d7, .slice B8 y'.length d8] 24)) (blk_alloc (blk_below E6.out.1.1.2 hb7) (.cells #[.slice B7 x'.length d7, .slice B8 y'.length d8] 24))) (And.intro ((E6.out.1.2.1.below hb7).alloc (.cells #[.slice B7 x'.length d7, .slice B8 y'.length d8] 24)) (blk_alloc (blk_below E6.out.1.2.2 hb7) (.cells #[.slice B7 x'.length d7, .slice B8 y'.length d8] 24))))
        (And.intro (And.intro ((E6.out.2.1.below hb7).alloc (.cells #[.slice B7 x'.length d7, .slice B8 y'.length d8] 24)) (blk_alloc (blk_below E6.out.2.2 hb7) (.cells #[.slice B7 x'.length d7, .slice B8 y'.length d8] 24))) (And.intro (X7.alloc (.cells #[.slice B7 x'.length d7, .slice B8 y'.length d8] 24)) (blk_new w7 (.cells #[.slice B7 x'.length d7, .slice B8 y'.length d8] 24)))))
      clear hb7 S6 D6 E6 X7 k0 k1
      have k0 := dk0 E7.out.1.1.2
      have k1 := dk1 E7.out.1.1.2
      have k2 := dk0 E7.out.1.2.2
      have k3 := dk1 E7.out.1.2.2
      go_wp2_with fail
      refine (j_same E7.out.1.1.1 E7.out.1.2.1 F.out.2.2.1).mono ?_
      rintro e_ w8 ⟨rfl, hb8⟩
      have S8 := Aside0.mk (below_step S7.out hb8)
      have E8 := Aside0.mk (And.intro (And.intro (E7.out.2.1.1.below hb8) (blk_below E7.out.2.1.2 hb8)) (And.intro (E7.out.2.2.1.below hb8) (blk_below E7.out.2.2.2 hb8)))
      clear hb8 S7 E7 k0 k1 k2 k3
      have k0 := dk0 E8.out.1.2
      have k1 := dk1 E8.out.1.2
      have k2 := dk0 E8.out.2.2
      have k3 := dk1 E8.out.2.2
      go_wp2_with fail
      refine (j_same E8.out.1.1 E8.out.2.1 F.out.2.2.2).mono ?_
      rintro e_ w9 ⟨rfl, hb9⟩
      have S9 := Aside0.mk (below_step S8.out hb9)
      clear hb9 S8 E8 k0 k1 k2 k3
      go_wp2
      go_ret
      exact ⟨rfl, S9.out⟩
end Go.Proofs.Ytfcdaifaocgjfaa.Pr
end
