/- Parts of the proof of JournalBack; no condition. -/
import Derived.Test.YtfcdaifaocgjfaaGa0
import Derived.Test.YtfcdaifaocgjfaaPr14
import Derived.Test.YtfcdaifaocgjfaaGa4
import Derived.Test.YtfcdaifaocgjfaaPr24
section
namespace Go.Proofs.Ytfcdaifaocgjfaa.Pr
open Go.RowKit Go.Proofs.YtfcdaifaocgjfaaW.PrintWords Go.Proofs.YtfcdaifaocgjfaaW.PrintLast Go.Proofs.YtfcdaifaocgjfaaW.PrintMore
attribute [local go_sem] max2_int min2_int max_two min_two max_three min_three max_four min_four   -- for this text's walks alone
set_option linter.unusedVariables false
set_option linter.unusedSimpArgs false
def chalklineref34_Versions.l0 : Nat → List (S50) → List (S50) → Int → Int → Option (Bool)
  | 0, _, _, _, _ => none
  | k + 1, x0, x1, x12, x13 => if x13 < x12 then (if 0 ≤ x13 then (if x13 < (x0.length : Int) then (if x13 < (x1.length : Int) then ((chalklineref34_Version.f k ((rd_T50 x0 x13).f0) ((rd_T50 x0 x13).f1.f0) ((rd_T50 x0 x13).f2) ((rd_T50 x0 x13).f3) ((rd_T50 x1 x13).f0) ((rd_T50 x1 x13).f1.f0) ((rd_T50 x1 x13).f2) ((rd_T50 x1 x13).f3)).bind fun t150 => (if t150 = true then (chalklineref34_Versions.l0 k x0 x1 x12 (wrap64 (x13 + 1))) else (some false))) else (none)) else (none)) else (none)) else (some true)
def chalklineref34_Versions.f (k : Nat) (l0 : List (S50)) (l1 : List (S50)) : Option (Bool) := if (l0.length : Int) = (l1.length : Int) then (chalklineref34_Versions.l0 k l0 l1 (l0.length : Int) 0) else (some false)
def chalklineref34_Versions.T6 : Bool × List (List Nat × List Nat) := (true, [([], []), ([], []), ([0, 1], [0, 1]), ([2], [2]), ([], []), ([], []), ([4, 5], [4, 5]), ([6], [6]), ([3, 7], [3, 7]), ([8], [8])])
def chalklineref34_Versions.B6 : List Nat := [0, 0, 3, 7, 0, 0, 48, 112, 255, 511]
theorem chalklineref34_Versions.tab6 : rtab .any (opsOf Try.f23 6) = chalklineref34_Versions.T6 := by kernel_rfl
theorem chalklineref34_Versions.bits6 : waitsOk chalklineref34_Versions.T6.2 chalklineref34_Versions.B6 = true := by kernel_rfl
set_option maxHeartbeats 8000000 in
set_option maxRecDepth 100000 in
theorem chalklineref34_Versions.calls (k : Nat) (A0 : Option Addr) (c0 : Nat) (l0 : List (S50)) (A1 : Option Addr) (c1 : Nat) (l1 : List (S50)) (r : Bool) (w : World) (hr0 : Kd.C k50 w A0 l0.length l0) (hc0 : l0.length ≤ c0) (hr1 : Kd.C k50 w A1 l1.length l1) (hc1 : l1.length ≤ c1) (h : chalklineref34_Versions.f k l0 l1 = some r) :
    Calls Try.prog 23 #[.slice A0 l0.length c0, .slice A1 l1.length c1] w fun e w' => e = .returned (.bool r) ∧ Below w.heap.size w w' := by
  have hu50 := Try.underlying50
  have HR0 := Aside0.mk hr0
  have HC0 := Aside0.mk hc0
  clear hr0 hc0
  have HR1 := Aside0.mk hr1
  have HC1 := Aside0.mk hc1
  clear hr1 hc1
  have HB := Aside0.mk (Below.refl w.heap.size w)
  have H : (if (l0.length : Int) = (l1.length : Int) then (chalklineref34_Versions.l0 k l0 l1 (l0.length : Int) 0) else (some false)) = some r := h
  clear h
  by_cases c3 : (l0.length : Int) = (l1.length : Int)
  · rw [if_pos c3] at H
    have c3b0 : ((l0.length : Int) == (l1.length : Int)) = true := beq_iff_eq.mpr c3
    have c3b1 : ((l0.length : Int) != (l1.length : Int)) = false := bne_eq_false_iff_eq.mpr c3
    have c3b2 : (l0.length == l1.length) = true := by first | simpa using c3 | (simp at c3 ⊢; omega)
    clear c3
    have H' := Aside0.mk H
    clear H
    go_enter Try.func23, Try.ntmps23
    go_wp2
    go_loopg [13] k (fun kq v13 w' => ∃ (x13_1 : Int), v13 = .int .i64 x13_1 ∧ Aside0 (chalklineref34_Versions.l0 kq l0 l1 (l0.length : Int) x13_1 = some r) ∧ Aside0 (kq ≤ k) ∧ Aside0 (Below w.heap.size w w'))
    case atStart => exact ⟨(0), (by first | rfl | (simp; done) | (simp [*]; done)), H', ⟨Nat.le_refl _⟩, ⟨by repeat (first | (with_reducible first | exact HB.out | apply below_alloc | apply pw_below_drewN | apply below_drew1) | exact HB.out)⟩⟩
    case round =>
      clear H'
      try clear c1
      try clear c2
      try clear p2
      try clear c3
      try clear c3b0
      try clear c3b1
      try clear c3b2
      obtain ⟨x13_1, rfl, HA, HK1, HB⟩ := hrel
      cases gk with
      | zero => exact absurd HA.out (by simp [chalklineref34_Versions.l0])
      | succ k1 =>
        have H := HA.out
        clear HA
        simp only [chalklineref34_Versions.l0] at H
        by_cases c4 : x13_1 < (l0.length : Int)
        · rw [if_pos c4] at H
          have c4b0 : decide (x13_1 < (l0.length : Int)) = true := decide_eq_true c4
          clear c4
          by_cases c5 : 0 ≤ x13_1
          · rw [if_pos c5] at H
            have c5b0 : decide (0 ≤ x13_1) = true := decide_eq_true c5
            clear c5
            by_cases c6 : x13_1 < (l0.length : Int)
            · rw [if_pos c6] at H
              have c6b0 : decide (x13_1 < (l0.length : Int)) = true := decide_eq_true c6
              clear c6
              by_cases c7 : x13_1 < (l1.length : Int)
              · rw [if_pos c7] at H
                have c7b0 : decide (x13_1 < (l1.length : Int)) = true := decide_eq_true c7
                clear c7
                replace H := Option.bind_eq_some_iff.mp H
                obtain ⟨t150, A80, H⟩ := H
                replace H : (if t150 = true then (chalklineref34_Versions.l0 k1 l0 l1 (l0.length : Int) (wrap64 (x13_1 + 1))) else (some false)) = some r := H
                have A8 := Aside0.mk A80
                clear A80
                by_cases c9 : t150 = true
                · subst c9
                  have H1 : (chalklineref34_Versions.l0 k1 l0 l1 (l0.length : Int) (wrap64 (x13_1 + 1))) = some r := by rw [if_pos rfl] at H; exact H
                  clear H
                  have H := H1
                  clear H1
                  have H' := Aside0.mk H
                  clear H
                  try go_wp2
                  have n0_ := Aside0.mk (below_drew1 HB.out)
                  clear HB
                  have HB := n0_
                  clear n0_
                  have p148 : 0 ≤ (x13_1 : Int) := of_decide_eq_true (by first | (with_reducible assumption) | assumption)
                  have q148 : x13_1 < (l0.length : Int) := of_decide_eq_true (by first | (with_reducible assumption) | assumption)
                  obtain ⟨ad148, A148_1, c148_1, e148, hx148_0, hx148_1, hx148_2, hx148_3, hl148_1, hi148_1⟩ := at_T50 HR0.out x13_1 p148 q148
                  have hw148_3 := hx148_3
                  have hw148_2 := hx148_2
                  have hw148_1 := hx148_1
                  have hw148_0 := hx148_0
                  cases e148
                  replace hx148_0 := (HB.out.cell (World.block_lt_of_cell? w _ hx148_0)).trans hx148_0
                  replace hx148_1 := (HB.out.cell (World.block_lt_of_cell? w _ hx148_1)).trans hx148_1
                  replace hx148_2 := (HB.out.cell (World.block_lt_of_cell? w _ hx148_2)).trans hx148_2
                  replace hx148_3 := (HB.out.cell (World.block_lt_of_cell? w _ hx148_3)).trans hx148_3
                  have HR148_1 := Aside0.mk hi148_1
                  have HC148_1 := Aside0.mk hl148_1
                  clear hi148_1 hl148_1
                  replace p148 := eq_true p148
                  replace q148 := eq_true q148
                  have p149 : 0 ≤ (x13_1 : Int) := of_decide_eq_true (by first | (with_reducible assumption) | assumption)
                  have q149 : x13_1 < (l1.length : Int) := of_decide_eq_true (by first | (with_reducible assumption) | assumption)
                  obtain ⟨ad149, A149_1, c149_1, e149, hx149_0, hx149_1, hx149_2, hx149_3, hl149_1, hi149_1⟩ := at_T50 HR1.out x13_1 p149 q149
                  have hw149_3 := hx149_3
                  have hw149_2 := hx149_2
                  have hw149_1 := hx149_1
                  have hw149_0 := hx149_0
                  cases e149
                  replace hx149_0 := (HB.out.cell (World.block_lt_of_cell? w _ hx149_0)).trans hx149_0
                  replace hx149_1 := (HB.out.cell (World.block_lt_of_cell? w _ hx149_1)).trans hx149_1
                  replace hx149_2 := (HB.out.cell (World.block_lt_of_cell? w _ hx149_2)).trans hx149_2
                  replace hx149_3 := (HB.out.cell (World.block_lt_of_cell? w _ hx149_3)).trans hx149_3
                  have HR149_1 := Aside0.mk hi149_1
                  have HC149_1 := Aside0.mk hl149_1
                  clear hi149_1 hl149_1
                  replace p149 := eq_true p149
                  replace q149 := eq_true q149
                  refine start_ (n := 10) (S := fun w' => w'.cell? (ad148.add ((x13_1).toNat * 4)) = some (.int .i64 ((rd_T50 l0 x13_1).f0)) ∧ w'.cell? ⟨(ad148.add ((x13_1).toNat * 4)).block, (ad148.add ((x13_1).toNat * 4)).off + 1, none⟩ = some (.slice A148_1 ((rd_T50 l0 x13_1).f1.f0).length c148_1) ∧ w'.cell? ⟨(ad148.add ((x13_1).toNat * 4)).block, (ad148.add ((x13_1).toNat * 4)).off + 2, none⟩ = some (.int .i64 ((rd_T50 l0 x13_1).f2)) ∧ w'.cell? ⟨(ad148.add ((x13_1).toNat * 4)).block, (ad148.add ((x13_1).toNat * 4)).off + 3, none⟩ = some (.bool ((rd_T50 l0 x13_1).f3)) ∧ w'.cell? (ad149.add ((x13_1).toNat * 4)) = some (.int .i64 ((rd_T50 l1 x13_1).f0)) ∧ w'.cell? ⟨(ad149.add ((x13_1).toNat * 4)).block, (ad149.add ((x13_1).toNat * 4)).off + 1, none⟩ = some (.slice A149_1 ((rd_T50 l1 x13_1).f1.f0).length c149_1) ∧ w'.cell? ⟨(ad149.add ((x13_1).toNat * 4)).block, (ad149.add ((x13_1).toNat * 4)).off + 2, none⟩ = some (.int .i64 ((rd_T50 l1 x13_1).f2)) ∧ w'.cell? ⟨(ad149.add ((x13_1).toNat * 4)).block, (ad149.add ((x13_1).toNat * 4)).off + 3, none⟩ = some (.bool ((rd_T50 l1 x13_1).f3))) (ds := []) #[false, false, false, false, false, false, false, false, false, false] (by kernel_rfl) rfl rfl ⟨((HB.out.cell (World.block_lt_of_cell? w _ hw148_0)).trans hw148_0), ((HB.out.cell (World.block_lt_of_cell? w _ hw148_1)).trans hw148_1), ((HB.out.cell (World.block_lt_of_cell? w _ hw148_2)).trans hw148_2), ((HB.out.cell (World.block_lt_of_cell? w _ hw148_3)).trans hw148_3), ((HB.out.cell (World.block_lt_of_cell? w _ hw149_0)).trans hw149_0), ((HB.out.cell (World.block_lt_of_cell? w _ hw149_1)).trans hw149_1), ((HB.out.cell (World.block_lt_of_cell? w _ hw149_2)).trans hw149_2), ((HB.out.cell (World.block_lt_of_cell? w _ hw149_3)).trans hw149_3)⟩ (fun hHeld => ?_); refine with_tabW chalklineref34_Versions.tab6 chalklineref34_Versions.bits6 (fun HT_ HW_ => ?_)
                  generalize wr.drew = w10 at HB HR148_1 HR149_1 hx148_0 hx148_1 hx148_2 hx148_3 hx149_0 hx149_1 hx149_2 hx149_3 hHeld ⊢
                  refine pure_ (i := 0) (N := some 16) (v := ?_) (a' := ?_) #[true, false, false, false, false, false, false, false, false, false] rfl rfl (any_of HT_.out (by kernel_rfl)) (fun _ _ _ h => h) (Or.inl ⟨by rfl, ?_⟩) ?_ ?_
                  rotate_left
                  · intro w'
                    go_simp
                    with_reducible rfl
                  rotate_left
                  · simp only [Act.put, List.setIfInBounds_toArray, List.set_cons_zero, List.set_cons_succ, i64_w, i32_w]
                    rfl
                  refine pure_ (i := 1) (N := some 17) (v := ?_) (a' := ?_) #[true, true, false, false, false, false, false, false, false, false] rfl rfl (any_of HT_.out (by kernel_rfl)) (fun _ _ _ h => h) (Or.inl ⟨by rfl, ?_⟩) ?_ ?_
                  rotate_left
                  · intro w'
                    go_simp
                    with_reducible rfl
                  rotate_left
                  · simp only [Act.put, List.setIfInBounds_toArray, List.set_cons_zero, List.set_cons_succ, i64_w, i32_w]
                    rfl
                  refine pure_ (i := 2) (N := some 18) (v := ?_) (a' := ?_) #[true, true, true, false, false, false, false, false, false, false] rfl rfl (any_of HT_.out (by kernel_rfl)) (fun _ _ _ h => h) (Or.inl ⟨by rfl, ?_⟩) ?_ ?_
                  rotate_left
                  · intro w'
                    go_simp
                    with_reducible rfl
                  rotate_left
                  · simp only [Act.put, List.setIfInBounds_toArray, List.set_cons_zero, List.set_cons_succ, i64_w, i32_w]
                    rfl
                  refine pure_ (i := 4) (N := some 20) (v := ?_) (a' := ?_) #[true, true, true, false, true, false, false, false, false, false] rfl rfl (any_of HT_.out (by kernel_rfl)) (fun _ _ _ h => h) (Or.inl ⟨by rfl, ?_⟩) ?_ ?_
                  rotate_left
                  · intro w'
                    go_simp
                    with_reducible rfl
                  rotate_left
                  · simp only [Act.put, List.setIfInBounds_toArray, List.set_cons_zero, List.set_cons_succ, i64_w, i32_w]
                    rfl
                  refine pure_ (i := 5) (N := some 21) (v := ?_) (a' := ?_) #[true, true, true, false, true, true, false, false, false, false] rfl rfl (any_of HT_.out (by kernel_rfl)) (fun _ _ _ h => h) (Or.inl ⟨by rfl, ?_⟩) ?_ ?_
                  rotate_left
                  · intro w'
                    go_simp
                    with_reducible rfl
                  rotate_left
                  · simp only [Act.put, List.setIfInBounds_toArray, List.set_cons_zero, List.set_cons_succ, i64_w, i32_w]
                    rfl
                  refine pure_ (i := 6) (N := some 22) (v := ?_) (a' := ?_) #[true, true, true, false, true, true, true, false, false, false] rfl rfl (any_of HT_.out (by kernel_rfl)) (fun _ _ _ h => h) (Or.inl ⟨by rfl, ?_⟩) ?_ ?_
                  rotate_left
                  · intro w'
                    go_simp
                    with_reducible rfl
                  rotate_left
                  · simp only [Act.put, List.setIfInBounds_toArray, List.set_cons_zero, List.set_cons_succ, i64_w, i32_w]
                    rfl
                  refine take_ (i := 3) (N := some 19) (v := ?_) (a' := ?_) #[true, true, true, true, true, true, true, false, false, false] rfl rfl (take_ofW HT_.out HW_.out (by kernel_rfl)) (fun _ _ _ h => h) (Or.inl ⟨by rfl, ?_⟩) hHeld ?_ ?_
                  rotate_left
                  · rintro w' ⟨s0, s1, s2, s3, s4, s5, s6, s7⟩
                    go_simp
                    with_reducible rfl
                  rotate_left
                  · simp only [Act.put, List.setIfInBounds_toArray, List.set_cons_zero, List.set_cons_succ, i64_w, i32_w]
                    rfl
                  refine take_ (i := 7) (N := some 23) (v := ?_) (a' := ?_) #[true, true, true, true, true, true, true, true, false, false] rfl rfl (take_ofW HT_.out HW_.out (by kernel_rfl)) (fun _ _ _ h => h) (Or.inl ⟨by rfl, ?_⟩) hHeld ?_ ?_
                  rotate_left
                  · rintro w' ⟨s0, s1, s2, s3, s4, s5, s6, s7⟩
                    go_simp
                    with_reducible rfl
                  rotate_left
                  · simp only [Act.put, List.setIfInBounds_toArray, List.set_cons_zero, List.set_cons_succ, i64_w, i32_w]
                    rfl
                  refine one_ (i := 8) (N := some 24) #[true, true, true, true, true, true, true, true, true, false] rfl rfl (one_of HT_.out (by kernel_rfl)) (by decide) (fun K hK => ?_)
                  refine goes_ Try.func38 (by kernel_rfl) rfl #[.agg #[.int .i64 ((rd_T50 l0 x13_1).f0), .slice A148_1 ((rd_T50 l0 x13_1).f1.f0).length c148_1, .int .i64 ((rd_T50 l0 x13_1).f2), .bool ((rd_T50 l0 x13_1).f3)], .agg #[.int .i64 ((rd_T50 l1 x13_1).f0), .slice A149_1 ((rd_T50 l1 x13_1).f1.f0).length c149_1, .int .i64 ((rd_T50 l1 x13_1).f2), .bool ((rd_T50 l1 x13_1).f3)]] (by rfl) rfl rfl (by (try simp only [List.map_toArray, List.map_cons, List.map_nil]); first | done | rfl | (simp only [List.length_drop, List.length_take]; rfl)) ?_
                  with_reducible refine (chalklineref34_Version.calls k1 ((rd_T50 l0 x13_1).f0) _ _ ((rd_T50 l0 x13_1).f1.f0) ((rd_T50 l0 x13_1).f2) ((rd_T50 l0 x13_1).f3) ((rd_T50 l1 x13_1).f0) _ _ ((rd_T50 l1 x13_1).f1.f0) ((rd_T50 l1 x13_1).f2) ((rd_T50 l1 x13_1).f3) true _ ?side1 ?side2 ?side3 ?side4 A8.out).mono ?_
                  (case side1 => repeat (first | exact (Kd.C_below HR148_1.out HB.out) | (with_reducible refine Kd.C_alloc ?_ _) | (with_reducible refine Kd.C_drewN ?_ _) | (with_reducible refine Kd.C_drew ?_)))
                  (case side2 => exact HC148_1.out)
                  (case side3 => repeat (first | exact (Kd.C_below HR149_1.out HB.out) | (with_reducible refine Kd.C_alloc ?_ _) | (with_reducible refine Kd.C_drewN ?_ _) | (with_reducible refine Kd.C_drew ?_)))
                  (case side4 => exact HC149_1.out)
                  rintro e w11 ⟨rfl, hb⟩
                  refine ⟨_, rfl, ?_⟩
                  have n0_ := Aside0.mk (below_step (by repeat (first | (with_reducible first | exact HB.out | apply below_alloc | apply pw_below_drewN | apply below_drew1) | exact HB.out)) hb)
                  clear HB
                  have HB := n0_
                  clear n0_
                  (try clear hb)
                  (try clear hb2)
                  (try clear hk)
                  (try clear hi)
                  refine hK.out _ _ ⟨((HB.out.cell (World.block_lt_of_cell? w _ hw148_0)).trans hw148_0), ((HB.out.cell (World.block_lt_of_cell? w _ hw148_1)).trans hw148_1), ((HB.out.cell (World.block_lt_of_cell? w _ hw148_2)).trans hw148_2), ((HB.out.cell (World.block_lt_of_cell? w _ hw148_3)).trans hw148_3), ((HB.out.cell (World.block_lt_of_cell? w _ hw149_0)).trans hw149_0), ((HB.out.cell (World.block_lt_of_cell? w _ hw149_1)).trans hw149_1), ((HB.out.cell (World.block_lt_of_cell? w _ hw149_2)).trans hw149_2), ((HB.out.cell (World.block_lt_of_cell? w _ hw149_3)).trans hw149_3)⟩ (fun hHeld => ?_)
                  clear hK K
                  refine norm_ (a' := ?_) ?_ ?_
                  rotate_left
                  · show Act.put _ (some 24) _ = _
                    simp only [Act.put, List.setIfInBounds_toArray, List.set_cons_zero, List.set_cons_succ, i64_w, i32_w]
                    rfl
                  refine pure_ (i := 9) (N := some 25) (v := ?_) (a' := ?_) #[true, true, true, true, true, true, true, true, true, true] rfl rfl (any_of HT_.out (by kernel_rfl)) (fun _ _ _ h => h) (Or.inl ⟨by rfl, ?_⟩) ?_ ?_
                  rotate_left
                  · intro w'
                    go_simp
                    with_reducible rfl
                  rotate_left
                  · simp only [Act.put, List.setIfInBounds_toArray, List.set_cons_zero, List.set_cons_succ, i64_w, i32_w]
                    rfl
                  refine done_ (done_of HT_.out (by kernel_rfl)) ?_
                  try go_wp2
                  go_roundg k1
                  case measure => have := HK1.out; omega
                  case rel => exact ⟨(wrap64 (x13_1 + 1)), (by first | rfl | (simp; done) | (simp [*]; done)), H', ⟨by have := HK1.out; omega⟩, ⟨by repeat (first | (with_reducible first | exact HB.out | apply below_alloc | apply pw_below_drewN | apply below_drew1) | exact HB.out)⟩⟩
                · replace c9 := Bool.eq_false_iff.mpr c9
                  subst c9
                  have H1 : (some false) = some r := by rw [if_neg (show ¬ (false = true) by decide)] at H; exact H
                  clear H
                  have H := H1
                  clear H1
                  obtain rfl := Option.some.inj H
                  try go_wp2
                  have n0_ := Aside0.mk (below_drew1 HB.out)
                  clear HB
                  have HB := n0_
                  clear n0_
                  have p148 : 0 ≤ (x13_1 : Int) := of_decide_eq_true (by first | (with_reducible assumption) | assumption)
                  have q148 : x13_1 < (l0.length : Int) := of_decide_eq_true (by first | (with_reducible assumption) | assumption)
                  obtain ⟨ad148, A148_1, c148_1, e148, hx148_0, hx148_1, hx148_2, hx148_3, hl148_1, hi148_1⟩ := at_T50 HR0.out x13_1 p148 q148
                  have hw148_3 := hx148_3
                  have hw148_2 := hx148_2
                  have hw148_1 := hx148_1
                  have hw148_0 := hx148_0
                  cases e148
                  replace hx148_0 := (HB.out.cell (World.block_lt_of_cell? w _ hx148_0)).trans hx148_0
                  replace hx148_1 := (HB.out.cell (World.block_lt_of_cell? w _ hx148_1)).trans hx148_1
                  replace hx148_2 := (HB.out.cell (World.block_lt_of_cell? w _ hx148_2)).trans hx148_2
                  replace hx148_3 := (HB.out.cell (World.block_lt_of_cell? w _ hx148_3)).trans hx148_3
                  have HR148_1 := Aside0.mk hi148_1
                  have HC148_1 := Aside0.mk hl148_1
                  clear hi148_1 hl148_1
                  replace p148 := eq_true p148
                  replace q148 := eq_true q148
                  have p149 : 0 ≤ (x13_1 : Int) := of_decide_eq_true (by first | (with_reducible assumption) | assumption)
                  have q149 : x13_1 < (l1.length : Int) := of_decide_eq_true (by first | (with_reducible assumption) | assumption)
                  obtain ⟨ad149, A149_1, c149_1, e149, hx149_0, hx149_1, hx149_2, hx149_3, hl149_1, hi149_1⟩ := at_T50 HR1.out x13_1 p149 q149
                  have hw149_3 := hx149_3
                  have hw149_2 := hx149_2
                  have hw149_1 := hx149_1
                  have hw149_0 := hx149_0
                  cases e149
                  replace hx149_0 := (HB.out.cell (World.block_lt_of_cell? w _ hx149_0)).trans hx149_0
                  replace hx149_1 := (HB.out.cell (World.block_lt_of_cell? w _ hx149_1)).trans hx149_1
                  replace hx149_2 := (HB.out.cell (World.block_lt_of_cell? w _ hx149_2)).trans hx149_2
                  replace hx149_3 := (HB.out.cell (World.block_lt_of_cell? w _ hx149_3)).trans hx149_3
                  have HR149_1 := Aside0.mk hi149_1
                  have HC149_1 := Aside0.mk hl149_1
                  clear hi149_1 hl149_1
                  replace p149 := eq_true p149
                  replace q149 := eq_true q149
                  refine start_ (n := 10) (S := fun w' => w'.cell? (ad148.add ((x13_1).toNat * 4)) = some (.int .i64 ((rd_T50 l0 x13_1).f0)) ∧ w'.cell? ⟨(ad148.add ((x13_1).toNat * 4)).block, (ad148.add ((x13_1).toNat * 4)).off + 1, none⟩ = some (.slice A148_1 ((rd_T50 l0 x13_1).f1.f0).length c148_1) ∧ w'.cell? ⟨(ad148.add ((x13_1).toNat * 4)).block, (ad148.add ((x13_1).toNat * 4)).off + 2, none⟩ = some (.int .i64 ((rd_T50 l0 x13_1).f2)) ∧ w'.cell? ⟨(ad148.add ((x13_1).toNat * 4)).block, (ad148.add ((x13_1).toNat * 4)).off + 3, none⟩ = some (.bool ((rd_T50 l0 x13_1).f3)) ∧ w'.cell? (ad149.add ((x13_1).toNat * 4)) = some (.int .i64 ((rd_T50 l1 x13_1).f0)) ∧ w'.cell? ⟨(ad149.add ((x13_1).toNat * 4)).block, (ad149.add ((x13_1).toNat * 4)).off + 1, none⟩ = some (.slice A149_1 ((rd_T50 l1 x13_1).f1.f0).length c149_1) ∧ w'.cell? ⟨(ad149.add ((x13_1).toNat * 4)).block, (ad149.add ((x13_1).toNat * 4)).off + 2, none⟩ = some (.int .i64 ((rd_T50 l1 x13_1).f2)) ∧ w'.cell? ⟨(ad149.add ((x13_1).toNat * 4)).block, (ad149.add ((x13_1).toNat * 4)).off + 3, none⟩ = some (.bool ((rd_T50 l1 x13_1).f3))) (ds := []) #[false, false, false, false, false, false, false, false, false, false] (by kernel_rfl) rfl rfl ⟨((HB.out.cell (World.block_lt_of_cell? w _ hw148_0)).trans hw148_0), ((HB.out.cell (World.block_lt_of_cell? w _ hw148_1)).trans hw148_1), ((HB.out.cell (World.block_lt_of_cell? w _ hw148_2)).trans hw148_2), ((HB.out.cell (World.block_lt_of_cell? w _ hw148_3)).trans hw148_3), ((HB.out.cell (World.block_lt_of_cell? w _ hw149_0)).trans hw149_0), ((HB.out.cell (World.block_lt_of_cell? w _ hw149_1)).trans hw149_1), ((HB.out.cell (World.block_lt_of_cell? w _ hw149_2)).trans hw149_2), ((HB.out.cell (World.block_lt_of_cell? w _ hw149_3)).trans hw149_3)⟩ (fun hHeld => ?_); refine with_tabW chalklineref34_Versions.tab6 chalklineref34_Versions.bits6 (fun HT_ HW_ => ?_)
                  generalize wr.drew = w12 at HB HR148_1 HR149_1 hx148_0 hx148_1 hx148_2 hx148_3 hx149_0 hx149_1 hx149_2 hx149_3 hHeld ⊢
                  refine pure_ (i := 0) (N := some 16) (v := ?_) (a' := ?_) #[true, false, false, false, false, false, false, false, false, false] rfl rfl (any_of HT_.out (by kernel_rfl)) (fun _ _ _ h => h) (Or.inl ⟨by rfl, ?_⟩) ?_ ?_
                  rotate_left
                  · intro w'
                    go_simp
                    with_reducible rfl
                  rotate_left
                  · simp only [Act.put, List.setIfInBounds_toArray, List.set_cons_zero, List.set_cons_succ, i64_w, i32_w]
                    rfl
                  refine pure_ (i := 1) (N := some 17) (v := ?_) (a' := ?_) #[true, true, false, false, false, false, false, false, false, false] rfl rfl (any_of HT_.out (by kernel_rfl)) (fun _ _ _ h => h) (Or.inl ⟨by rfl, ?_⟩) ?_ ?_
                  rotate_left
                  · intro w'
                    go_simp
                    with_reducible rfl
                  rotate_left
                  · simp only [Act.put, List.setIfInBounds_toArray, List.set_cons_zero, List.set_cons_succ, i64_w, i32_w]
                    rfl
                  refine pure_ (i := 2) (N := some 18) (v := ?_) (a' := ?_) #[true, true, true, false, false, false, false, false, false, false] rfl rfl (any_of HT_.out (by kernel_rfl)) (fun _ _ _ h => h) (Or.inl ⟨by rfl, ?_⟩) ?_ ?_
                  rotate_left
                  · intro w'
                    go_simp
                    with_reducible rfl
                  rotate_left
                  · simp only [Act.put, List.setIfInBounds_toArray, List.set_cons_zero, List.set_cons_succ, i64_w, i32_w]
                    rfl
                  refine pure_ (i := 4) (N := some 20) (v := ?_) (a' := ?_) #[true, true, true, false, true, false, false, false, false, false] rfl rfl (any_of HT_.out (by kernel_rfl)) (fun _ _ _ h => h) (Or.inl ⟨by rfl, ?_⟩) ?_ ?_
                  rotate_left
                  · intro w'
                    go_simp
                    with_reducible rfl
                  rotate_left
                  · simp only [Act.put, List.setIfInBounds_toArray, List.set_cons_zero, List.set_cons_succ, i64_w, i32_w]
                    rfl
                  refine pure_ (i := 5) (N := some 21) (v := ?_) (a' := ?_) #[true, true, true, false, true, true, false, false, false, false] rfl rfl (any_of HT_.out (by kernel_rfl)) (fun _ _ _ h => h) (Or.inl ⟨by rfl, ?_⟩) ?_ ?_
                  rotate_left
                  · intro w'
                    go_simp
                    with_reducible rfl
                  rotate_left
                  · simp only [Act.put, List.setIfInBounds_toArray, List.set_cons_zero, List.set_cons_succ, i64_w, i32_w]
                    rfl
                  refine pure_ (i := 6) (N := some 22) (v := ?_) (a' := ?_) #[true, true, true, false, true, true, true, false, false, false] rfl rfl (any_of HT_.out (by kernel_rfl)) (fun _ _ _ h => h) (Or.inl ⟨by rfl, ?_⟩) ?_ ?_
                  rotate_left
                  · intro w'
                    go_simp
                    with_reducible rfl
                  rotate_left
                  · simp only [Act.put, List.setIfInBounds_toArray, List.set_cons_zero, List.set_cons_succ, i64_w, i32_w]
                    rfl
                  refine take_ (i := 3) (N := some 19) (v := ?_) (a' := ?_) #[true, true, true, true, true, true, true, false, false, false] rfl rfl (take_ofW HT_.out HW_.out (by kernel_rfl)) (fun _ _ _ h => h) (Or.inl ⟨by rfl, ?_⟩) hHeld ?_ ?_
                  rotate_left
                  · rintro w' ⟨s0, s1, s2, s3, s4, s5, s6, s7⟩
                    go_simp
                    with_reducible rfl
                  rotate_left
                  · simp only [Act.put, List.setIfInBounds_toArray, List.set_cons_zero, List.set_cons_succ, i64_w, i32_w]
                    rfl
                  refine take_ (i := 7) (N := some 23) (v := ?_) (a' := ?_) #[true, true, true, true, true, true, true, true, false, false] rfl rfl (take_ofW HT_.out HW_.out (by kernel_rfl)) (fun _ _ _ h => h) (Or.inl ⟨by rfl, ?_⟩) hHeld ?_ ?_
                  rotate_left
                  · rintro w' ⟨s0, s1, s2, s3, s4, s5, s6, s7⟩
                    go_simp
                    with_reducible rfl
                  rotate_left
                  · simp only [Act.put, List.setIfInBounds_toArray, List.set_cons_zero, List.set_cons_succ, i64_w, i32_w]
                    rfl
                  refine one_ (i := 8) (N := some 24) #[true, true, true, true, true, true, true, true, true, false] rfl rfl (one_of HT_.out (by kernel_rfl)) (by decide) (fun K hK => ?_)
                  refine goes_ Try.func38 (by kernel_rfl) rfl #[.agg #[.int .i64 ((rd_T50 l0 x13_1).f0), .slice A148_1 ((rd_T50 l0 x13_1).f1.f0).length c148_1, .int .i64 ((rd_T50 l0 x13_1).f2), .bool ((rd_T50 l0 x13_1).f3)], .agg #[.int .i64 ((rd_T50 l1 x13_1).f0), .slice A149_1 ((rd_T50 l1 x13_1).f1.f0).length c149_1, .int .i64 ((rd_T50 l1 x13_1).f2), .bool ((rd_T50 l1 x13_1).f3)]] (by rfl) rfl rfl (by (try simp only [List.map_toArray, List.map_cons, List.map_nil]); first | done | rfl | (simp only [List.length_drop, List.length_take]; rfl)) ?_
                  with_reducible refine (chalklineref34_Version.calls k1 ((rd_T50 l0 x13_1).f0) _ _ ((rd_T50 l0 x13_1).f1.f0) ((rd_T50 l0 x13_1).f2) ((rd_T50 l0 x13_1).f3) ((rd_T50 l1 x13_1).f0) _ _ ((rd_T50 l1 x13_1).f1.f0) ((rd_T50 l1 x13_1).f2) ((rd_T50 l1 x13_1).f3) false _ ?side1 ?side2 ?side3 ?side4 A8.out).mono ?_
                  (case side1 => repeat (first | exact (Kd.C_below HR148_1.out HB.out) | (with_reducible refine Kd.C_alloc ?_ _) | (with_reducible refine Kd.C_drewN ?_ _) | (with_reducible refine Kd.C_drew ?_)))
                  (case side2 => exact HC148_1.out)
                  (case side3 => repeat (first | exact (Kd.C_below HR149_1.out HB.out) | (with_reducible refine Kd.C_alloc ?_ _) | (with_reducible refine Kd.C_drewN ?_ _) | (with_reducible refine Kd.C_drew ?_)))
                  (case side4 => exact HC149_1.out)
                  rintro e w13 ⟨rfl, hb⟩
                  refine ⟨_, rfl, ?_⟩
                  have n0_ := Aside0.mk (below_step (by repeat (first | (with_reducible first | exact HB.out | apply below_alloc | apply pw_below_drewN | apply below_drew1) | exact HB.out)) hb)
                  clear HB
                  have HB := n0_
                  clear n0_
                  (try clear hb)
                  (try clear hb2)
                  (try clear hk)
                  (try clear hi)
                  refine hK.out _ _ ⟨((HB.out.cell (World.block_lt_of_cell? w _ hw148_0)).trans hw148_0), ((HB.out.cell (World.block_lt_of_cell? w _ hw148_1)).trans hw148_1), ((HB.out.cell (World.block_lt_of_cell? w _ hw148_2)).trans hw148_2), ((HB.out.cell (World.block_lt_of_cell? w _ hw148_3)).trans hw148_3), ((HB.out.cell (World.block_lt_of_cell? w _ hw149_0)).trans hw149_0), ((HB.out.cell (World.block_lt_of_cell? w _ hw149_1)).trans hw149_1), ((HB.out.cell (World.block_lt_of_cell? w _ hw149_2)).trans hw149_2), ((HB.out.cell (World.block_lt_of_cell? w _ hw149_3)).trans hw149_3)⟩ (fun hHeld => ?_)
                  clear hK K
                  refine norm_ (a' := ?_) ?_ ?_
                  rotate_left
                  · show Act.put _ (some 24) _ = _
                    simp only [Act.put, List.setIfInBounds_toArray, List.set_cons_zero, List.set_cons_succ, i64_w, i32_w]
                    rfl
                  refine pure_ (i := 9) (N := some 25) (v := ?_) (a' := ?_) #[true, true, true, true, true, true, true, true, true, true] rfl rfl (any_of HT_.out (by kernel_rfl)) (fun _ _ _ h => h) (Or.inl ⟨by rfl, ?_⟩) ?_ ?_
                  rotate_left
                  · intro w'
                    go_simp
                    with_reducible rfl
                  rotate_left
                  · simp only [Act.put, List.setIfInBounds_toArray, List.set_cons_zero, List.set_cons_succ, i64_w, i32_w]
                    rfl
                  refine done_ (done_of HT_.out (by kernel_rfl)) ?_
                  try go_wp2
                  go_ret
                  exact ⟨by first | rfl | (simp [errW_none, errW_some] <;> rfl) | (simp [*, errW_none, errW_some] <;> rfl), by repeat (first | (with_reducible first | exact HB.out | apply below_alloc | apply pw_below_drewN | apply below_drew1) | exact HB.out)⟩
              · rw [if_neg c7] at H
                exact absurd H (by simp)
            · rw [if_neg c6] at H
              exact absurd H (by simp)
          · rw [if_neg c5] at H
            exact absurd H (by simp)
        · rw [if_neg c4] at H
          have c4b0 : decide (x13_1 < (l0.length : Int)) = false := decide_eq_false c4
          clear c4
          obtain rfl := Option.some.inj H
          go_wp2
          go_ret
          exact ⟨by first | rfl | (simp [errW_none, errW_some] <;> rfl) | (simp [*, errW_none, errW_some] <;> rfl), by repeat (first | (with_reducible first | exact HB.out | apply below_alloc | apply pw_below_drewN | apply below_drew1) | exact HB.out)⟩
  · rw [if_neg c3] at H
    have c3b0 : ((l0.length : Int) == (l1.length : Int)) = false := beq_eq_false_iff_ne.mpr c3
    have c3b1 : ((l0.length : Int) != (l1.length : Int)) = true := bne_iff_ne.mpr c3
    have c3b2 : (l0.length == l1.length) = false := by first | simpa using c3 | (simp at c3 ⊢; omega)
    obtain rfl := Option.some.inj H
    go_enter Try.func23, Try.ntmps23
    go_wp2
    go_ret
    exact ⟨by first | rfl | (simp [errW_none, errW_some] <;> rfl) | (simp [*, errW_none, errW_some] <;> rfl), by repeat (first | (with_reducible first | exact HB.out | apply below_alloc | apply pw_below_drewN | apply below_drew1) | exact HB.out)⟩
end Go.Proofs.Ytfcdaifaocgjfaa.Pr
end
section
namespace Go.Proofs.Ytfcdaifaocgjfaa.Pr
open Go.RowKit Go.Proofs.YtfcdaifaocgjfaaW.PrintWords Go.Proofs.YtfcdaifaocgjfaaW.PrintLast Go.Proofs.YtfcdaifaocgjfaaW.PrintMore
set_option linter.unusedVariables false
/-- A disk's bytes, where they are read. -/
structure Dk (W : World) (A : Option Addr) (c : Nat) (s : List Int) (A' : Option Addr) (c' : Nat) (o : List Int) : Prop where
  c0 : Kd.C (Kd.int .u8) W A s.length s
  l0 : s.length ≤ c
  c1 : Kd.C (Kd.int .u8) W A' o.length o
  l1 : o.length ≤ c'
theorem Dk.below {W W' : World} {A A' : Option Addr} {c c' : Nat} {s o : List Int} (h : Dk W A c s A' c' o) (hb : Below W.heap.size W W') : Dk W' A c s A' c' o := ⟨Kd.C_below h.c0 hb, h.l0, Kd.C_below h.c1 hb, h.l1⟩
theorem Dk.alloc {W : World} {A A' : Option Addr} {c c' : Nat} {s o : List Int} (h : Dk W A c s A' c' o) (x : Obj) : Dk (W.alloc x) A c s A' c' o := h.below (below_alloc (Below.refl _ _) x)
/-- Versions, where they are read. -/
structure Vr (W : World) (A : Option Addr) (c : Nat) (l : List S50) : Prop where
  c0 : Kd.C k50 W A l.length l
  l0 : l.length ≤ c
theorem Vr.below {W W' : World} {A : Option Addr} {c : Nat} {l : List S50} (h : Vr W A c l) (hb : Below W.heap.size W W') : Vr W' A c l := ⟨Kd.C_below h.c0 hb, h.l0⟩
theorem Vr.alloc {W : World} {A : Option Addr} {c : Nat} {l : List S50} (h : Vr W A c l) (x : Obj) : Vr (W.alloc x) A c l := h.below (below_alloc (Below.refl _ _) x)
def DkR (w : World) (r1 r2 : List Int) (r3 : Int) (e : Ending) (w' : World) : Prop := ∃ (A : Option Addr) (c : Nat) (A' : Option Addr) (c' : Nat), e = .returned (.tuple #[.agg #[.slice A r1.length c, .slice A' r2.length c'], .int .i64 r3]) ∧ Dk w' A c r1 A' c' r2 ∧ Below w.heap.size w w'
theorem dkR {w w' : World} {r1 r2 : List Int} {r3 : Int} {e : Ending} (h : DkRet w r1 r2 r3 e w') : DkR w r1 r2 r3 e w' := by
  obtain ⟨A, c, A', c', he, ⟨h1, h2⟩, h3, h4, hb⟩ := h
  exact ⟨A, c, A', c', he, ⟨h3, h1, h4, h2⟩, hb⟩
def RdR (w : World) (r1 r2 : List S50) (r3 : Int) (e : Ending) (w' : World) : Prop := ∃ (A : Option Addr) (c : Nat) (A' : Option Addr) (c' : Nat), e = .returned (.tuple #[.slice A r1.length c, .slice A' r2.length c', .int .i64 r3]) ∧ Vr w' A c r1 ∧ Vr w' A' c' r2 ∧ Below w.heap.size w w'
variable {A A' B B' : Option Addr} {c c' d d' : Nat} {s o s' o' : List Int} {w : World}
theorem j_read (D : Dk w A c s A' c' o) {r1 r2 : List S50} {r3 : Int} (h : journal_Read.f s o = some (r1, r2, r3)) : Calls Try.prog 21 #[.agg #[.slice A s.length c, .slice A' o.length c']] w (RdR w r1 r2 r3) :=
  (c_read A c s A' c' o r1 r2 r3 w D.c0 D.l0 D.c1 D.l1 h).mono fun e w' ⟨A, c, A', c', he, ⟨h1, h2⟩, h3, h4, hb⟩ => ⟨A, c, A', c', he, ⟨h3, h1⟩, ⟨h4, h2⟩, hb⟩
theorem j_sync (D : Dk w A c s A' c' o) {r1 r2 : List Int} {r3 : Int} (h : journal_Sync.f s o = some (r1, r2, r3)) : Calls Try.prog 15 #[.agg #[.slice A s.length c, .slice A' o.length c']] w (DkR w r1 r2 r3) :=
  (c_sync A c s A' c' o r1 r2 r3 w D.c0 D.l0 D.c1 D.l1 h).mono fun _ _ h => dkR h
theorem j_crash (D : Dk w A c s A' c' o) (n : Int) {r1 r2 : List Int} {r3 : Int} (h : journal_Crash.f s o n = some (r1, r2, r3)) : Calls Try.prog 13 #[.agg #[.slice A s.length c, .slice A' o.length c'], .int .i64 n] w (DkR w r1 r2 r3) :=
  (c_crash A c s A' c' o n r1 r2 r3 w D.c0 D.l0 D.c1 D.l1 h).mono fun _ _ h => dkR h
theorem j_versions (k : Nat) {l m : List S50} (D : Vr w A c l) (E : Vr w B d m) {r : Bool} (h : chalklineref34_Versions.f k l m = some r) : Calls Try.prog 23 #[.slice A l.length c, .slice B m.length d] w fun e w' => e = .returned (.bool r) ∧ Below w.heap.size w w' := chalklineref34_Versions.calls k A c l B d m r w D.c0 D.l0 E.c0 E.l0 h
/-- While a law over a disk runs: the disk's own block. -/
structure Lw (w : World) (D : Array Value) (W : World) : Prop where
  hb : Below w.heap.size w W
  d : W.heap[w.heap.size]? = some (.cells D 24)
theorem Lw.start (w : World) (D : Array Value) : Lw w D (w.alloc (.cells D 24)) := ⟨below_alloc (Below.refl _ _) _, blk_new _ _⟩
theorem Lw.below {W W' : World} {D : Array Value} (h : Lw w D W) (hb : Below W.heap.size W W') : Lw w D W' := ⟨below_step h.hb hb, blk_below h.d hb⟩
theorem Lw.alloc {W : World} {D : Array Value} (h : Lw w D W) (x : Obj) : Lw w D (W.alloc x) := h.below (below_alloc (Below.refl _ _) x)
theorem Lw.k0 {W : World} {a b : Value} (h : Lw w #[a, b] W) : W.cell? ⟨w.heap.size, 0, none⟩ = some a := dk0 h.d
theorem Lw.k1 {W : World} {a b : Value} (h : Lw w #[a, b] W) : W.cell? ⟨w.heap.size, 1, none⟩ = some b := dk1 h.d
end Go.Proofs.Ytfcdaifaocgjfaa.Pr
end
