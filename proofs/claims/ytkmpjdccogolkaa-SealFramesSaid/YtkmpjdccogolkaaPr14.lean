-- Written by this session's own program (wip/pp.sh: a patched run of the kit's print, with contracts of my own).
import Derived.Test.YtkmpjdccogolkaaPr0
import Derived.Test.YtkmpjdccogolkaaPr4
import Derived.Test.YtkmpjdccogolkaaPr7
import Derived.Test.YtkmpjdccogolkaaPr8
import Derived.Test.YtkmpjdccogolkaaPr9
import Derived.Test.YtkmpjdccogolkaaPr10
import Derived.Test.YtkmpjdccogolkaaPr11
import Derived.Test.YtkmpjdccogolkaaPr13
namespace Go.Proofs.Ytkmpjdccogolkaa.Pr
open Go.RowKit Go.Proofs.YtkmpjdccogolkaaW.PrintWords Go.Proofs.YtkmpjdccogolkaaW.PrintLast Go.Proofs.YtkmpjdccogolkaaW.PrintMore
attribute [local go_sem] max2_int min2_int max_two min_two max_three min_three max_four min_four   -- for this text's walks alone
set_option linter.unusedVariables false
set_option linter.unusedSimpArgs false

/-! ### chalklinelaw02_SealFrames: function 4 -/
mutual
def chalklinelaw02_SealFrames.j0 : Nat → List Int → Int → Bool → Option (Bool)
  | 0, _, _, _ => none
  | k + 1, x0, x1, x32 => if x32 = true then (some true) else ((seal_Frame.f x0).bind fun bt133 => ((chalklineref02_Frame.f k x0).bind fun bt137 => ((chalklineref02_Copy.f x0).bind fun t141 => ((seal_Open.f x0 x1).bind fun bt144 => ((chalklineref02_Open.f x0 x1).bind fun bt149 => ((chalklineref02_Same.f bt133.1 bt137.1).bind fun t154 => (if t154 = true then (if bt133.2 = bt137.2 then ((chalklineref02_Same.f bt144.1 bt149.1).bind fun t155 => (if t155 = true then (if bt144.2.1 = bt149.2.1 then (chalklinelaw02_SealFrames.j1 k x0 t141 bt144.1 (bt144.2.2 == bt149.2.2)) else (chalklinelaw02_SealFrames.j1 k x0 t141 bt144.1 false)) else (chalklinelaw02_SealFrames.j1 k x0 t141 bt144.1 false))) else (chalklinelaw02_SealFrames.j1 k x0 t141 bt144.1 false)) else (chalklinelaw02_SealFrames.j1 k x0 t141 bt144.1 false))))))))
def chalklinelaw02_SealFrames.j1 : Nat → List Int → List Int → List Int → Bool → Option (Bool)
  | 0, _, _, _, _ => none
  | k + 1, x0, x9, x10, x16 => chalklinelaw02_SealFrames.l0 k x0 x9 x10 x16 (x10.length : Int) 0
def chalklinelaw02_SealFrames.l0 : Nat → List Int → List Int → List Int → Bool → Int → Int → Option (Bool)
  | 0, _, _, _, _, _, _ => none
  | k + 1, x0, x9, x10, x16, x83, x84 => if x84 < x83 then (if 0 ≤ x84 then (if x84 < (x10.length : Int) then (chalklinelaw02_SealFrames.l0 k x0 x9 (x10.set (x84 : Int).toNat (((rd x10 x84) + 1) % 256)) x16 x83 (wrap64 (x84 + 1))) else (none)) else (none)) else (if x16 = true then ((chalklineref02_Same.f x0 x9).bind fun t158 => (some t158)) else (some false))
end
def chalklinelaw02_SealFrames.f (k : Nat) (l0 : List Int) (a1 : Int) : Option (Bool) := (chalklinelaw02_live.f).bind fun t132 => (if t132 = true then (if (l0.length : Int) > 4000 then (if (l0.length : Int) ≤ 65536 then (chalklinelaw02_SealFrames.j0 k l0 a1 true) else (chalklinelaw02_SealFrames.j0 k l0 a1 (decide ((l0.length : Int) > 100000)))) else (chalklinelaw02_SealFrames.j0 k l0 a1 (decide ((l0.length : Int) > 100000)))) else (some false))
theorem chalklinelaw02_SealFrames.mono_l : ∀ k, (∀ y0 y1 y2, LeO (chalklinelaw02_SealFrames.j0 k y0 y1 y2) (chalklinelaw02_SealFrames.j0 (k + 1) y0 y1 y2)) ∧ (∀ y0 y1 y2 y3, LeO (chalklinelaw02_SealFrames.j1 k y0 y1 y2 y3) (chalklinelaw02_SealFrames.j1 (k + 1) y0 y1 y2 y3)) ∧ (∀ y0 y1 y2 y3 y4 y5, LeO (chalklinelaw02_SealFrames.l0 k y0 y1 y2 y3 y4 y5) (chalklinelaw02_SealFrames.l0 (k + 1) y0 y1 y2 y3 y4 y5))
  | 0 => ⟨fun _ _ _ r h => by simp [chalklinelaw02_SealFrames.j0] at h, fun _ _ _ _ r h => by simp [chalklinelaw02_SealFrames.j1] at h, fun _ _ _ _ _ _ r h => by simp [chalklinelaw02_SealFrames.l0] at h⟩
  | k + 1 => by
    obtain ⟨ih0, ih1, ih2⟩ := chalklinelaw02_SealFrames.mono_l k
    refine ⟨?_, ?_, ?_⟩
    · intro y0 y1 y2
      unfold chalklinelaw02_SealFrames.j0
      repeat' first
      | (with_reducible exact ih0 _ _ _)
      | (with_reducible exact ih1 _ _ _ _)
      | (with_reducible exact ih2 _ _ _ _ _ _)
      | (with_reducible exact chalklineref02_Frame.mono _ _)
      | (with_reducible exact LeO.refl _)
      | (with_reducible exact LeO.none _)
      | (with_reducible refine LeO.ite ?_ ?_)
      | (with_reducible refine LeO.bind ?_ (fun _ => ?_))
      | exact ih0 _ _ _
      | exact ih1 _ _ _ _
      | exact ih2 _ _ _ _ _ _
      | exact chalklineref02_Frame.mono _ _
      | exact LeO.none _
      | refine LeO.ite ?_ ?_
      | refine LeO.bind ?_ (fun _ => ?_)
    · intro y0 y1 y2 y3
      unfold chalklinelaw02_SealFrames.j1
      repeat' first
      | (with_reducible exact ih0 _ _ _)
      | (with_reducible exact ih1 _ _ _ _)
      | (with_reducible exact ih2 _ _ _ _ _ _)
      | (with_reducible exact chalklineref02_Frame.mono _ _)
      | (with_reducible exact LeO.refl _)
      | (with_reducible exact LeO.none _)
      | (with_reducible refine LeO.ite ?_ ?_)
      | (with_reducible refine LeO.bind ?_ (fun _ => ?_))
      | exact ih0 _ _ _
      | exact ih1 _ _ _ _
      | exact ih2 _ _ _ _ _ _
      | exact chalklineref02_Frame.mono _ _
      | exact LeO.none _
      | refine LeO.ite ?_ ?_
      | refine LeO.bind ?_ (fun _ => ?_)
    · intro y0 y1 y2 y3 y4 y5
      unfold chalklinelaw02_SealFrames.l0
      repeat' first
      | (with_reducible exact ih0 _ _ _)
      | (with_reducible exact ih1 _ _ _ _)
      | (with_reducible exact ih2 _ _ _ _ _ _)
      | (with_reducible exact chalklineref02_Frame.mono _ _)
      | (with_reducible exact LeO.refl _)
      | (with_reducible exact LeO.none _)
      | (with_reducible refine LeO.ite ?_ ?_)
      | (with_reducible refine LeO.bind ?_ (fun _ => ?_))
      | exact ih0 _ _ _
      | exact ih1 _ _ _ _
      | exact ih2 _ _ _ _ _ _
      | exact chalklineref02_Frame.mono _ _
      | exact LeO.none _
      | refine LeO.ite ?_ ?_
      | refine LeO.bind ?_ (fun _ => ?_)
theorem chalklinelaw02_SealFrames.mono : ∀ a0 a1 k, LeO (chalklinelaw02_SealFrames.f k a0 a1) (chalklinelaw02_SealFrames.f (k + 1) a0 a1) := by
  intro a0 a1 k
  obtain ⟨ih0, ih1, ih2⟩ := chalklinelaw02_SealFrames.mono_l k
  unfold chalklinelaw02_SealFrames.f
  repeat' first
      | (with_reducible exact ih0 _ _ _)
      | (with_reducible exact ih1 _ _ _ _)
      | (with_reducible exact ih2 _ _ _ _ _ _)
      | (with_reducible exact chalklineref02_Frame.mono _ _)
      | (with_reducible exact LeO.refl _)
      | (with_reducible exact LeO.none _)
      | (with_reducible refine LeO.ite ?_ ?_)
      | (with_reducible refine LeO.bind ?_ (fun _ => ?_))
      | exact ih0 _ _ _
      | exact ih1 _ _ _ _
      | exact ih2 _ _ _ _ _ _
      | exact chalklineref02_Frame.mono _ _
      | exact LeO.none _
      | refine LeO.ite ?_ ?_
      | refine LeO.bind ?_ (fun _ => ?_)
set_option maxHeartbeats 8000000 in
set_option maxRecDepth 100000 in
theorem chalklinelaw02_SealFrames.calls (k : Nat) (A0 : Option Addr) (c0 : Nat) (l0 : List Int) (a1 : Int) (r : Bool) (w : World) (hr0 : Kd.C (Kd.int .u8) w A0 l0.length l0) (hc0 : l0.length ≤ c0) (h : chalklinelaw02_SealFrames.f k l0 a1 = some r) :
    Calls Try.prog 4 #[.slice A0 l0.length c0, .int .i64 a1] w fun e w' => e = .returned (.bool r) ∧ Below w.heap.size w w' := by
  have HR0 := Aside0.mk hr0
  have HC0 := Aside0.mk hc0
  clear hr0 hc0
  have HB := Aside0.mk (Below.refl w.heap.size w)
  have H : ((chalklinelaw02_live.f).bind fun t132 => (if t132 = true then (if (l0.length : Int) > 4000 then (if (l0.length : Int) ≤ 65536 then (chalklinelaw02_SealFrames.j0 k l0 a1 true) else (chalklinelaw02_SealFrames.j0 k l0 a1 (decide ((l0.length : Int) > 100000)))) else (chalklinelaw02_SealFrames.j0 k l0 a1 (decide ((l0.length : Int) > 100000)))) else (some false))) = some r := h
  clear h
  replace H := Option.bind_eq_some_iff.mp H
  obtain ⟨t132, A30, H⟩ := H
  replace H : (if t132 = true then (if (l0.length : Int) > 4000 then (if (l0.length : Int) ≤ 65536 then (chalklinelaw02_SealFrames.j0 k l0 a1 true) else (chalklinelaw02_SealFrames.j0 k l0 a1 (decide ((l0.length : Int) > 100000)))) else (chalklinelaw02_SealFrames.j0 k l0 a1 (decide ((l0.length : Int) > 100000)))) else (some false)) = some r := H
  have A3 := Aside0.mk A30
  clear A30
  by_cases c4 : t132 = true
  · subst c4
    have H1 : (if (l0.length : Int) > 4000 then (if (l0.length : Int) ≤ 65536 then (chalklinelaw02_SealFrames.j0 k l0 a1 true) else (chalklinelaw02_SealFrames.j0 k l0 a1 (decide ((l0.length : Int) > 100000)))) else (chalklinelaw02_SealFrames.j0 k l0 a1 (decide ((l0.length : Int) > 100000)))) = some r := by rw [if_pos rfl] at H; exact H
    clear H
    have H := H1
    clear H1
    have HC5 := Aside0.mk H
    clear H
    go_enter Try.func4, Try.ntmps4
    go_upto_region 3 with (first | ((with_reducible refine gate_callee (f := 12) rfl ?_); refine goesL_ (some 18) rfl rfl Try.func12 (by kernel_rfl) rfl #[] rfl (by (try simp only [List.map_toArray, List.map_cons, List.map_nil]); first | done | rfl | (simp only [List.length_drop, List.length_take]; rfl)) ?_; (with_reducible refine (chalklinelaw02_live.calls  true _ A3.out).mono ?_); rintro e w6 ⟨rfl, hb⟩; refine ⟨_, rfl, ?_⟩; have n0_ := Aside0.mk (below_step (by repeat (first | (with_reducible first | exact HB.out | apply below_alloc | apply pw_below_drewN | apply below_drew1) | exact HB.out)) hb); clear HB; have HB := n0_; clear n0_; (try clear hb); (try clear hb2); (try clear hk); (try clear hi)))
    (try simp only [Act.put, List.setIfInBounds_toArray, List.set_cons_zero, List.set_cons_succ])
    go_cut [32] (fun v32 wc => ∃ (kq : Nat) (x32_4 : Bool), v32 = .bool x32_4 ∧ Aside0 (chalklinelaw02_SealFrames.j0 kq l0 a1 x32_4 = some r) ∧ Aside0 (kq ≤ k) ∧ Aside0 (Below w.heap.size w wc))
    case first =>
      have H := HC5.out
      clear HC5
      by_cases c7 : (l0.length : Int) > 4000
      · rw [if_pos c7] at H
        have c7b0 : decide (4000 < (l0.length : Int)) = true := decide_eq_true c7
        have c7b1 : decide (4000 < l0.length) = true := decide_eq_true (by omega)
        clear c7
        (first | rw [c7b0] | (simp only [i64_w, i32_w]; rw [c7b0]) | skip)
        by_cases c8 : (l0.length : Int) ≤ 65536
        · rw [if_pos c8] at H
          have c8b0 : decide ((l0.length : Int) ≤ 65536) = true := decide_eq_true c8
          have c8b1 : decide (l0.length ≤ 65536) = true := decide_eq_true (by omega)
          clear c8
          have H' := Aside0.mk H
          clear H
          go_wp2
          go_meet
          case rel => exact ⟨_, (true), (by first | rfl | (simp; done) | (simp [*]; done)), H', ⟨by first | omega | exact Nat.le_refl _⟩, ⟨by repeat (first | (with_reducible first | exact HB.out | apply below_alloc | apply pw_below_drewN | apply below_drew1) | exact HB.out)⟩⟩
        · rw [if_neg c8] at H
          have c8b0 : decide ((l0.length : Int) ≤ 65536) = false := decide_eq_false c8
          have c8b1 : decide (l0.length ≤ 65536) = false := decide_eq_false (by omega)
          clear c8
          have H' := Aside0.mk H
          clear H
          go_wp2
          go_meet
          case rel => exact ⟨_, (decide ((l0.length : Int) > 100000)), (by first | rfl | (simp; done) | (simp [*]; done)), H', ⟨by first | omega | exact Nat.le_refl _⟩, ⟨by repeat (first | (with_reducible first | exact HB.out | apply below_alloc | apply pw_below_drewN | apply below_drew1) | exact HB.out)⟩⟩
      · rw [if_neg c7] at H
        have c7b0 : decide (4000 < (l0.length : Int)) = false := decide_eq_false c7
        have c7b1 : decide (4000 < l0.length) = false := decide_eq_false (by omega)
        clear c7
        (first | rw [c7b0] | (simp only [i64_w, i32_w]; rw [c7b0]) | skip)
        have H' := Aside0.mk H
        clear H
        go_wp2
        go_meet
        case rel => exact ⟨_, (decide ((l0.length : Int) > 100000)), (by first | rfl | (simp; done) | (simp [*]; done)), H', ⟨by first | omega | exact Nat.le_refl _⟩, ⟨by repeat (first | (with_reducible first | exact HB.out | apply below_alloc | apply pw_below_drewN | apply below_drew1) | exact HB.out)⟩⟩
    case rest =>
      clear HC5
      try clear c1
      try clear p2
      try clear c4
      try clear c7
      try clear c7b0
      try clear c7b1
      try clear c8
      try clear c8b0
      try clear c8b1
      obtain ⟨kq, x32_4, rfl, HA, HJ4, HB⟩ := hcut
      cases kq with
      | zero => exact absurd HA.out (by simp [chalklinelaw02_SealFrames.j0])
      | succ kj4 =>
        have H := HA.out
        clear HA
        simp only [chalklinelaw02_SealFrames.j0] at H
        by_cases c9 : x32_4 = true
        · subst c9
          have H1 : (some true) = some r := by rw [if_pos rfl] at H; exact H
          clear H
          have H := H1
          clear H1
          obtain rfl := Option.some.inj H
          go_wp2
          go_ret
          exact ⟨by first | rfl | (simp [errW_none, errW_some] <;> rfl) | (simp [*, errW_none, errW_some] <;> rfl), by repeat (first | (with_reducible first | exact HB.out | apply below_alloc | apply pw_below_drewN | apply below_drew1) | exact HB.out)⟩
        · replace c9 := Bool.eq_false_iff.mpr c9
          subst c9
          have H1 : ((seal_Frame.f l0).bind fun bt133 => ((chalklineref02_Frame.f kj4 l0).bind fun bt137 => ((chalklineref02_Copy.f l0).bind fun t141 => ((seal_Open.f l0 a1).bind fun bt144 => ((chalklineref02_Open.f l0 a1).bind fun bt149 => ((chalklineref02_Same.f bt133.1 bt137.1).bind fun t154 => (if t154 = true then (if bt133.2 = bt137.2 then ((chalklineref02_Same.f bt144.1 bt149.1).bind fun t155 => (if t155 = true then (if bt144.2.1 = bt149.2.1 then (chalklinelaw02_SealFrames.j1 kj4 l0 t141 bt144.1 (bt144.2.2 == bt149.2.2)) else (chalklinelaw02_SealFrames.j1 kj4 l0 t141 bt144.1 false)) else (chalklinelaw02_SealFrames.j1 kj4 l0 t141 bt144.1 false))) else (chalklinelaw02_SealFrames.j1 kj4 l0 t141 bt144.1 false)) else (chalklinelaw02_SealFrames.j1 kj4 l0 t141 bt144.1 false)))))))) = some r := by rw [if_neg (show ¬ (false = true) by decide)] at H; exact H
          clear H
          have H := H1
          clear H1
          replace H := Option.bind_eq_some_iff.mp H
          obtain ⟨⟨t133, t134⟩, A100, H⟩ := H
          replace H : ((chalklineref02_Frame.f kj4 l0).bind fun bt137 => ((chalklineref02_Copy.f l0).bind fun t141 => ((seal_Open.f l0 a1).bind fun bt144 => ((chalklineref02_Open.f l0 a1).bind fun bt149 => ((chalklineref02_Same.f t133 bt137.1).bind fun t154 => (if t154 = true then (if t134 = bt137.2 then ((chalklineref02_Same.f bt144.1 bt149.1).bind fun t155 => (if t155 = true then (if bt144.2.1 = bt149.2.1 then (chalklinelaw02_SealFrames.j1 kj4 l0 t141 bt144.1 (bt144.2.2 == bt149.2.2)) else (chalklinelaw02_SealFrames.j1 kj4 l0 t141 bt144.1 false)) else (chalklinelaw02_SealFrames.j1 kj4 l0 t141 bt144.1 false))) else (chalklinelaw02_SealFrames.j1 kj4 l0 t141 bt144.1 false)) else (chalklinelaw02_SealFrames.j1 kj4 l0 t141 bt144.1 false))))))) = some r := H
          have A10 := Aside0.mk A100
          clear A100
          replace H := Option.bind_eq_some_iff.mp H
          obtain ⟨⟨t137, t138⟩, A110, H⟩ := H
          replace H : ((chalklineref02_Copy.f l0).bind fun t141 => ((seal_Open.f l0 a1).bind fun bt144 => ((chalklineref02_Open.f l0 a1).bind fun bt149 => ((chalklineref02_Same.f t133 t137).bind fun t154 => (if t154 = true then (if t134 = t138 then ((chalklineref02_Same.f bt144.1 bt149.1).bind fun t155 => (if t155 = true then (if bt144.2.1 = bt149.2.1 then (chalklinelaw02_SealFrames.j1 kj4 l0 t141 bt144.1 (bt144.2.2 == bt149.2.2)) else (chalklinelaw02_SealFrames.j1 kj4 l0 t141 bt144.1 false)) else (chalklinelaw02_SealFrames.j1 kj4 l0 t141 bt144.1 false))) else (chalklinelaw02_SealFrames.j1 kj4 l0 t141 bt144.1 false)) else (chalklinelaw02_SealFrames.j1 kj4 l0 t141 bt144.1 false)))))) = some r := H
          have A11 := Aside0.mk A110
          clear A110
          replace H := Option.bind_eq_some_iff.mp H
          obtain ⟨t141, A120, H⟩ := H
          replace H : ((seal_Open.f l0 a1).bind fun bt144 => ((chalklineref02_Open.f l0 a1).bind fun bt149 => ((chalklineref02_Same.f t133 t137).bind fun t154 => (if t154 = true then (if t134 = t138 then ((chalklineref02_Same.f bt144.1 bt149.1).bind fun t155 => (if t155 = true then (if bt144.2.1 = bt149.2.1 then (chalklinelaw02_SealFrames.j1 kj4 l0 t141 bt144.1 (bt144.2.2 == bt149.2.2)) else (chalklinelaw02_SealFrames.j1 kj4 l0 t141 bt144.1 false)) else (chalklinelaw02_SealFrames.j1 kj4 l0 t141 bt144.1 false))) else (chalklinelaw02_SealFrames.j1 kj4 l0 t141 bt144.1 false)) else (chalklinelaw02_SealFrames.j1 kj4 l0 t141 bt144.1 false))))) = some r := H
          have A12 := Aside0.mk A120
          clear A120
          replace H := Option.bind_eq_some_iff.mp H
          obtain ⟨⟨t144, t145, t146⟩, A130, H⟩ := H
          replace H : ((chalklineref02_Open.f l0 a1).bind fun bt149 => ((chalklineref02_Same.f t133 t137).bind fun t154 => (if t154 = true then (if t134 = t138 then ((chalklineref02_Same.f t144 bt149.1).bind fun t155 => (if t155 = true then (if t145 = bt149.2.1 then (chalklinelaw02_SealFrames.j1 kj4 l0 t141 t144 (t146 == bt149.2.2)) else (chalklinelaw02_SealFrames.j1 kj4 l0 t141 t144 false)) else (chalklinelaw02_SealFrames.j1 kj4 l0 t141 t144 false))) else (chalklinelaw02_SealFrames.j1 kj4 l0 t141 t144 false)) else (chalklinelaw02_SealFrames.j1 kj4 l0 t141 t144 false)))) = some r := H
          have A13 := Aside0.mk A130
          clear A130
          replace H := Option.bind_eq_some_iff.mp H
          obtain ⟨⟨t149, t150, t151⟩, A140, H⟩ := H
          replace H : ((chalklineref02_Same.f t133 t137).bind fun t154 => (if t154 = true then (if t134 = t138 then ((chalklineref02_Same.f t144 t149).bind fun t155 => (if t155 = true then (if t145 = t150 then (chalklinelaw02_SealFrames.j1 kj4 l0 t141 t144 (t146 == t151)) else (chalklinelaw02_SealFrames.j1 kj4 l0 t141 t144 false)) else (chalklinelaw02_SealFrames.j1 kj4 l0 t141 t144 false))) else (chalklinelaw02_SealFrames.j1 kj4 l0 t141 t144 false)) else (chalklinelaw02_SealFrames.j1 kj4 l0 t141 t144 false))) = some r := H
          have A14 := Aside0.mk A140
          clear A140
          have HC15 := Aside0.mk H
          clear H
          go_upto_region 10 with (first | ((with_reducible refine gate_callee (f := 15) rfl ?_); refine goesL_ (some 35) rfl rfl Try.func15 (by kernel_rfl) rfl #[.slice A0 l0.length c0] rfl (by (try simp only [List.map_toArray, List.map_cons, List.map_nil]); first | done | rfl | (simp only [List.length_drop, List.length_take]; rfl)) ?_; (with_reducible refine (seal_Frame.calls _ _ l0 t133 t134 _ ?side1 ?side2 A10.out).mono ?_); (case side1 => repeat (first | exact (Kd.C_below HR0.out HB.out) | (with_reducible refine Kd.C_alloc ?_ _) | (with_reducible refine Kd.C_drewN ?_ _) | (with_reducible refine Kd.C_drew ?_))); (case side2 => exact HC0.out); rintro e w16 ⟨v135, rfl, ho0, hb⟩; refine ⟨_, rfl, ?_⟩; have n0_ := Aside0.mk (Kd.R_lower ho0 (below_size (by repeat (first | (with_reducible first | exact HB.out | apply below_alloc | apply pw_below_drewN | apply below_drew1) | exact HB.out)))); have n1_ := Aside0.mk (below_step (by repeat (first | (with_reducible first | exact HB.out | apply below_alloc | apply pw_below_drewN | apply below_drew1) | exact HB.out)) hb); clear HB; have HO136 := n0_; have HB := n1_; clear n0_ n1_; (try clear hb); (try clear hb2); (try clear hk); (try clear hi); (try clear ho0)) | ((with_reducible refine gate_callee (f := 16) rfl ?_); refine goesL_ (some 40) rfl rfl Try.func16 (by kernel_rfl) rfl #[.slice A0 l0.length c0] rfl (by (try simp only [List.map_toArray, List.map_cons, List.map_nil]); first | done | rfl | (simp only [List.length_drop, List.length_take]; rfl)) ?_; (with_reducible refine (chalklineref02_Frame.calls kj4 _ _ l0 t137 t138 _ ?side1 ?side2 A11.out).mono ?_); (case side1 => repeat (first | exact (Kd.C_below HR0.out HB.out) | (with_reducible refine Kd.C_alloc ?_ _) | (with_reducible refine Kd.C_drewN ?_ _) | (with_reducible refine Kd.C_drew ?_))); (case side2 => exact HC0.out); rintro e w17 ⟨v139, rfl, ho0, hb⟩; refine ⟨_, rfl, ?_⟩; have n0_ := Aside0.mk (Kd.R_elder' (by (with_reducible repeat (first | apply Kd.R_alloc | apply Kd.R_drewN | apply Kd.R_drew)); exact HO136.out) (Kd.R_base ho0) hb); have n1_ := Aside0.mk (Kd.R_lower (Kd.R_new' ho0 (Kd.R_lt (by (with_reducible repeat (first | apply Kd.R_alloc | apply Kd.R_drewN | apply Kd.R_drew)); exact HO136.out))) (below_size (by repeat (first | (with_reducible first | exact HB.out | apply below_alloc | apply pw_below_drewN | apply below_drew1) | exact HB.out)))); have n2_ := Aside0.mk (below_step (by repeat (first | (with_reducible first | exact HB.out | apply below_alloc | apply pw_below_drewN | apply below_drew1) | exact HB.out)) hb); clear HO136; clear HB; have HO136 := n0_; have HO140 := n1_; have HB := n2_; clear n0_ n1_ n2_; (try clear hb); (try clear hb2); (try clear hk); (try clear hi); (try clear ho0)) | ((with_reducible refine gate_callee (f := 17) rfl ?_); refine goesL_ (some 44) rfl rfl Try.func17 (by kernel_rfl) rfl #[.slice A0 l0.length c0] rfl (by (try simp only [List.map_toArray, List.map_cons, List.map_nil]); first | done | rfl | (simp only [List.length_drop, List.length_take]; rfl)) ?_; (with_reducible refine (chalklineref02_Copy.calls _ _ l0 t141 _ ?side1 ?side2 A12.out).mono ?_); (case side1 => repeat (first | exact (Kd.C_below HR0.out HB.out) | (with_reducible refine Kd.C_alloc ?_ _) | (with_reducible refine Kd.C_drewN ?_ _) | (with_reducible refine Kd.C_drew ?_))); (case side2 => exact HC0.out); rintro e w18 ⟨v142, rfl, ho0, hb⟩; refine ⟨_, rfl, ?_⟩; have n0_ := Aside0.mk (Kd.R_elder' (by (with_reducible repeat (first | apply Kd.R_alloc | apply Kd.R_drewN | apply Kd.R_drew)); exact HO136.out) (Kd.R_base ho0) hb); have n1_ := Aside0.mk (Kd.R_elder' (by (with_reducible repeat (first | apply Kd.R_alloc | apply Kd.R_drewN | apply Kd.R_drew)); exact HO140.out) (Kd.R_base ho0) hb); have n2_ := Aside0.mk (Kd.R_lower (Kd.R_new' (Kd.R_new' ho0 (Kd.R_lt (by (with_reducible repeat (first | apply Kd.R_alloc | apply Kd.R_drewN | apply Kd.R_drew)); exact HO136.out))) (Kd.R_lt (by (with_reducible repeat (first | apply Kd.R_alloc | apply Kd.R_drewN | apply Kd.R_drew)); exact HO140.out))) (below_size (by repeat (first | (with_reducible first | exact HB.out | apply below_alloc | apply pw_below_drewN | apply below_drew1) | exact HB.out)))); have n3_ := Aside0.mk (below_step (by repeat (first | (with_reducible first | exact HB.out | apply below_alloc | apply pw_below_drewN | apply below_drew1) | exact HB.out)) hb); clear HO136; clear HO140; clear HB; have HO136 := n0_; have HO140 := n1_; have HO143 := n2_; have HB := n3_; clear n0_ n1_ n2_ n3_; (try clear hb); (try clear hb2); (try clear hk); (try clear hi); (try clear ho0)) | ((with_reducible refine gate_callee (f := 18) rfl ?_); refine goesL_ (some 48) rfl rfl Try.func18 (by kernel_rfl) rfl #[.slice A0 l0.length c0, .int .i64 a1] rfl (by (try simp only [List.map_toArray, List.map_cons, List.map_nil]); first | done | rfl | (simp only [List.length_drop, List.length_take]; rfl)) ?_; (with_reducible refine (seal_Open.calls _ _ l0 a1 t144 t145 t146 _ ?side1 ?side2 A13.out).mono ?_); (case side1 => repeat (first | exact (Kd.C_below HR0.out HB.out) | (with_reducible refine Kd.C_alloc ?_ _) | (with_reducible refine Kd.C_drewN ?_ _) | (with_reducible refine Kd.C_drew ?_))); (case side2 => exact HC0.out); rintro e w19 ⟨v147, rfl, ho0, hb⟩; refine ⟨_, rfl, ?_⟩; have n0_ := Aside0.mk (Kd.R_elder' (by (with_reducible repeat (first | apply Kd.R_alloc | apply Kd.R_drewN | apply Kd.R_drew)); exact HO136.out) (Kd.R_base ho0) hb); have n1_ := Aside0.mk (Kd.R_elder' (by (with_reducible repeat (first | apply Kd.R_alloc | apply Kd.R_drewN | apply Kd.R_drew)); exact HO140.out) (Kd.R_base ho0) hb); have n2_ := Aside0.mk (Kd.R_elder' (by (with_reducible repeat (first | apply Kd.R_alloc | apply Kd.R_drewN | apply Kd.R_drew)); exact HO143.out) (Kd.R_base ho0) hb); have n3_ := Aside0.mk (Kd.R_lower (Kd.R_new' (Kd.R_new' (Kd.R_new' ho0 (Kd.R_lt (by (with_reducible repeat (first | apply Kd.R_alloc | apply Kd.R_drewN | apply Kd.R_drew)); exact HO136.out))) (Kd.R_lt (by (with_reducible repeat (first | apply Kd.R_alloc | apply Kd.R_drewN | apply Kd.R_drew)); exact HO140.out))) (Kd.R_lt (by (with_reducible repeat (first | apply Kd.R_alloc | apply Kd.R_drewN | apply Kd.R_drew)); exact HO143.out))) (below_size (by repeat (first | (with_reducible first | exact HB.out | apply below_alloc | apply pw_below_drewN | apply below_drew1) | exact HB.out)))); have n4_ := Aside0.mk (below_step (by repeat (first | (with_reducible first | exact HB.out | apply below_alloc | apply pw_below_drewN | apply below_drew1) | exact HB.out)) hb); clear HO136; clear HO140; clear HO143; clear HB; have HO136 := n0_; have HO140 := n1_; have HO143 := n2_; have HO148 := n3_; have HB := n4_; clear n0_ n1_ n2_ n3_ n4_; (try clear hb); (try clear hb2); (try clear hk); (try clear hi); (try clear ho0)) | ((with_reducible refine gate_callee (f := 19) rfl ?_); refine goesL_ (some 55) rfl rfl Try.func19 (by kernel_rfl) rfl #[.slice A0 l0.length c0, .int .i64 a1] rfl (by (try simp only [List.map_toArray, List.map_cons, List.map_nil]); first | done | rfl | (simp only [List.length_drop, List.length_take]; rfl)) ?_; (with_reducible refine (chalklineref02_Open.calls _ _ l0 a1 t149 t150 t151 _ ?side1 ?side2 A14.out).mono ?_); (case side1 => repeat (first | exact (Kd.C_below HR0.out HB.out) | (with_reducible refine Kd.C_alloc ?_ _) | (with_reducible refine Kd.C_drewN ?_ _) | (with_reducible refine Kd.C_drew ?_))); (case side2 => exact HC0.out); rintro e w20 ⟨v152, rfl, ho0, hb⟩; refine ⟨_, rfl, ?_⟩; have n0_ := Aside0.mk (Kd.R_elder' (by (with_reducible repeat (first | apply Kd.R_alloc | apply Kd.R_drewN | apply Kd.R_drew)); exact HO136.out) (Kd.R_base ho0) hb); have n1_ := Aside0.mk (Kd.R_elder' (by (with_reducible repeat (first | apply Kd.R_alloc | apply Kd.R_drewN | apply Kd.R_drew)); exact HO140.out) (Kd.R_base ho0) hb); have n2_ := Aside0.mk (Kd.R_elder' (by (with_reducible repeat (first | apply Kd.R_alloc | apply Kd.R_drewN | apply Kd.R_drew)); exact HO143.out) (Kd.R_base ho0) hb); have n3_ := Aside0.mk (Kd.R_elder' (by (with_reducible repeat (first | apply Kd.R_alloc | apply Kd.R_drewN | apply Kd.R_drew)); exact HO148.out) (Kd.R_base ho0) hb); have n4_ := Aside0.mk (Kd.R_lower (Kd.R_new' (Kd.R_new' (Kd.R_new' (Kd.R_new' ho0 (Kd.R_lt (by (with_reducible repeat (first | apply Kd.R_alloc | apply Kd.R_drewN | apply Kd.R_drew)); exact HO136.out))) (Kd.R_lt (by (with_reducible repeat (first | apply Kd.R_alloc | apply Kd.R_drewN | apply Kd.R_drew)); exact HO140.out))) (Kd.R_lt (by (with_reducible repeat (first | apply Kd.R_alloc | apply Kd.R_drewN | apply Kd.R_drew)); exact HO143.out))) (Kd.R_lt (by (with_reducible repeat (first | apply Kd.R_alloc | apply Kd.R_drewN | apply Kd.R_drew)); exact HO148.out))) (below_size (by repeat (first | (with_reducible first | exact HB.out | apply below_alloc | apply pw_below_drewN | apply below_drew1) | exact HB.out)))); have n5_ := Aside0.mk (below_step (by repeat (first | (with_reducible first | exact HB.out | apply below_alloc | apply pw_below_drewN | apply below_drew1) | exact HB.out)) hb); clear HO136; clear HO140; clear HO143; clear HO148; clear HB; have HO136 := n0_; have HO140 := n1_; have HO143 := n2_; have HO148 := n3_; have HO153 := n4_; have HB := n5_; clear n0_ n1_ n2_ n3_ n4_ n5_; (try clear hb); (try clear hb2); (try clear hk); (try clear hi); (try clear ho0)))
          (try simp only [Act.put, List.setIfInBounds_toArray, List.set_cons_zero, List.set_cons_succ])
          go_cut [16] (fun v16 wc => ∃ (kq : Nat) (x16_14 : Bool), v16 = .bool x16_14 ∧ Aside0 (chalklinelaw02_SealFrames.j1 kq l0 t141 t144 x16_14 = some r) ∧ Aside0 (kq ≤ kj4) ∧ Aside0 (Kd.R (Kd.int .u8) 5 wc w.heap.size (fun k_ => some k_ ≠ (v147 : Value).ownBlock) v142 t141) ∧ Aside0 (Kd.R (Kd.int .u8) 5 wc w.heap.size (fun k_ => some k_ ≠ (v142 : Value).ownBlock) v147 t144) ∧ Aside0 (Below w.heap.size w wc))
          case first =>
            have H := HC15.out
            clear HC15
            replace H := Option.bind_eq_some_iff.mp H
            obtain ⟨t154, A210, H⟩ := H
            replace H : (if t154 = true then (if t134 = t138 then ((chalklineref02_Same.f t144 t149).bind fun t155 => (if t155 = true then (if t145 = t150 then (chalklinelaw02_SealFrames.j1 kj4 l0 t141 t144 (t146 == t151)) else (chalklinelaw02_SealFrames.j1 kj4 l0 t141 t144 false)) else (chalklinelaw02_SealFrames.j1 kj4 l0 t141 t144 false))) else (chalklinelaw02_SealFrames.j1 kj4 l0 t141 t144 false)) else (chalklinelaw02_SealFrames.j1 kj4 l0 t141 t144 false)) = some r := H
            have A21 := Aside0.mk A210
            clear A210
            by_cases c22 : t154 = true
            · subst c22
              have H1 : (if t134 = t138 then ((chalklineref02_Same.f t144 t149).bind fun t155 => (if t155 = true then (if t145 = t150 then (chalklinelaw02_SealFrames.j1 kj4 l0 t141 t144 (t146 == t151)) else (chalklinelaw02_SealFrames.j1 kj4 l0 t141 t144 false)) else (chalklinelaw02_SealFrames.j1 kj4 l0 t141 t144 false))) else (chalklinelaw02_SealFrames.j1 kj4 l0 t141 t144 false)) = some r := by rw [if_pos rfl] at H; exact H
              clear H
              have H := H1
              clear H1
              by_cases c23 : t134 = t138
              · rw [if_pos c23] at H
                have c23b0 : (t134 == t138) = true := beq_iff_eq.mpr c23
                have c23b1 : (t134 != t138) = false := bne_eq_false_iff_eq.mpr c23
                clear c23
                (first | rw [c23b0] | (simp only [i64_w, i32_w]; rw [c23b0]) | skip)
                replace H := Option.bind_eq_some_iff.mp H
                obtain ⟨t155, A240, H⟩ := H
                replace H : (if t155 = true then (if t145 = t150 then (chalklinelaw02_SealFrames.j1 kj4 l0 t141 t144 (t146 == t151)) else (chalklinelaw02_SealFrames.j1 kj4 l0 t141 t144 false)) else (chalklinelaw02_SealFrames.j1 kj4 l0 t141 t144 false)) = some r := H
                have A24 := Aside0.mk A240
                clear A240
                by_cases c25 : t155 = true
                · subst c25
                  have H1 : (if t145 = t150 then (chalklinelaw02_SealFrames.j1 kj4 l0 t141 t144 (t146 == t151)) else (chalklinelaw02_SealFrames.j1 kj4 l0 t141 t144 false)) = some r := by rw [if_pos rfl] at H; exact H
                  clear H
                  have H := H1
                  clear H1
                  by_cases c26 : t145 = t150
                  · rw [if_pos c26] at H
                    have c26b0 : (t145 == t150) = true := beq_iff_eq.mpr c26
                    have c26b1 : (t145 != t150) = false := bne_eq_false_iff_eq.mpr c26
                    clear c26
                    have H' := Aside0.mk H
                    clear H
                    obtain ⟨Ao27, co27, eo27⟩ := Kd.R_slice HO136.out
                    subst eo27
                    obtain ⟨Ao28, co28, eo28⟩ := Kd.R_slice HO140.out
                    subst eo28
                    go_wp2_with (first | ((with_reducible refine gate_callee (f := 20) rfl ?_); refine goesL_ (some 61) rfl rfl Try.func20 (by kernel_rfl) rfl #[.slice Ao27 t133.length co27, .slice Ao28 t137.length co28] rfl (by (try simp only [List.map_toArray, List.map_cons, List.map_nil]); first | done | rfl | (simp only [List.length_drop, List.length_take]; rfl)) ?_; (with_reducible refine (chalklineref02_Same.calls _ _ t133 _ _ t137 true _ ?side1 ?side2 ?side3 ?side4 A21.out).mono ?_); (case side1 => repeat (first | exact (Kd.R_reads' HO136.out).2.2 | (with_reducible refine Kd.C_alloc ?_ _) | (with_reducible refine Kd.C_drewN ?_ _) | (with_reducible refine Kd.C_drew ?_))); (case side2 => exact (Kd.R_reads' HO136.out).2.1); (case side3 => repeat (first | exact (Kd.R_reads' HO140.out).2.2 | (with_reducible refine Kd.C_alloc ?_ _) | (with_reducible refine Kd.C_drewN ?_ _) | (with_reducible refine Kd.C_drew ?_))); (case side4 => exact (Kd.R_reads' HO140.out).2.1); rintro e w' ⟨rfl, ⟨nd, rfl⟩⟩; refine ⟨_, rfl, ?_⟩; obtain ⟨Ao29, co29, eo29⟩ := Kd.R_slice HO148.out; subst eo29; obtain ⟨Ao30, co30, eo30⟩ := Kd.R_slice HO153.out; subst eo30) | (go_at_call 20; (with_reducible refine (chalklineref02_Same.calls _ _ t144 _ _ t149 true _ ?side1 ?side2 ?side3 ?side4 A24.out).mono ?_); (case side1 => repeat (first | exact (Kd.R_reads' HO148.out).2.2 | (with_reducible refine Kd.C_alloc ?_ _) | (with_reducible refine Kd.C_drewN ?_ _) | (with_reducible refine Kd.C_drew ?_))); (case side2 => exact (Kd.R_reads' HO148.out).2.1); (case side3 => repeat (first | exact (Kd.R_reads' HO153.out).2.2 | (with_reducible refine Kd.C_alloc ?_ _) | (with_reducible refine Kd.C_drewN ?_ _) | (with_reducible refine Kd.C_drew ?_))); (case side4 => exact (Kd.R_reads' HO153.out).2.1); rintro e w' ⟨rfl, ⟨nd, rfl⟩⟩))
                    go_meet
                    case rel => exact ⟨_, ((t146 == t151)), (by first | rfl | (simp; done) | (simp [*]; done)), H', ⟨by have := HJ4.out; first | omega | exact Nat.le_refl _⟩, ⟨by (with_reducible repeat (first | apply Kd.R_alloc | apply Kd.R_drewN | apply Kd.R_drew)); exact Kd.R_mono HO143.out (fun _ hk => hk.1.2)⟩, ⟨by (with_reducible repeat (first | apply Kd.R_alloc | apply Kd.R_drewN | apply Kd.R_drew)); exact Kd.R_mono HO148.out (fun _ hk => hk.1.2)⟩, ⟨by repeat (first | (with_reducible first | exact HB.out | apply below_alloc | apply pw_below_drewN | apply below_drew1) | exact HB.out)⟩⟩
                  · rw [if_neg c26] at H
                    have c26b0 : (t145 == t150) = false := beq_eq_false_iff_ne.mpr c26
                    have c26b1 : (t145 != t150) = true := bne_iff_ne.mpr c26
                    have H' := Aside0.mk H
                    clear H
                    obtain ⟨Ao31, co31, eo31⟩ := Kd.R_slice HO136.out
                    subst eo31
                    obtain ⟨Ao32, co32, eo32⟩ := Kd.R_slice HO140.out
                    subst eo32
                    go_wp2_with (first | ((with_reducible refine gate_callee (f := 20) rfl ?_); refine goesL_ (some 61) rfl rfl Try.func20 (by kernel_rfl) rfl #[.slice Ao31 t133.length co31, .slice Ao32 t137.length co32] rfl (by (try simp only [List.map_toArray, List.map_cons, List.map_nil]); first | done | rfl | (simp only [List.length_drop, List.length_take]; rfl)) ?_; (with_reducible refine (chalklineref02_Same.calls _ _ t133 _ _ t137 true _ ?side1 ?side2 ?side3 ?side4 A21.out).mono ?_); (case side1 => repeat (first | exact (Kd.R_reads' HO136.out).2.2 | (with_reducible refine Kd.C_alloc ?_ _) | (with_reducible refine Kd.C_drewN ?_ _) | (with_reducible refine Kd.C_drew ?_))); (case side2 => exact (Kd.R_reads' HO136.out).2.1); (case side3 => repeat (first | exact (Kd.R_reads' HO140.out).2.2 | (with_reducible refine Kd.C_alloc ?_ _) | (with_reducible refine Kd.C_drewN ?_ _) | (with_reducible refine Kd.C_drew ?_))); (case side4 => exact (Kd.R_reads' HO140.out).2.1); rintro e w' ⟨rfl, ⟨nd, rfl⟩⟩; refine ⟨_, rfl, ?_⟩; obtain ⟨Ao33, co33, eo33⟩ := Kd.R_slice HO148.out; subst eo33; obtain ⟨Ao34, co34, eo34⟩ := Kd.R_slice HO153.out; subst eo34) | (go_at_call 20; (with_reducible refine (chalklineref02_Same.calls _ _ t144 _ _ t149 true _ ?side1 ?side2 ?side3 ?side4 A24.out).mono ?_); (case side1 => repeat (first | exact (Kd.R_reads' HO148.out).2.2 | (with_reducible refine Kd.C_alloc ?_ _) | (with_reducible refine Kd.C_drewN ?_ _) | (with_reducible refine Kd.C_drew ?_))); (case side2 => exact (Kd.R_reads' HO148.out).2.1); (case side3 => repeat (first | exact (Kd.R_reads' HO153.out).2.2 | (with_reducible refine Kd.C_alloc ?_ _) | (with_reducible refine Kd.C_drewN ?_ _) | (with_reducible refine Kd.C_drew ?_))); (case side4 => exact (Kd.R_reads' HO153.out).2.1); rintro e w' ⟨rfl, ⟨nd, rfl⟩⟩))
                    go_meet
                    case rel => exact ⟨_, (false), (by first | rfl | (simp; done) | (simp [*]; done)), H', ⟨by have := HJ4.out; first | omega | exact Nat.le_refl _⟩, ⟨by (with_reducible repeat (first | apply Kd.R_alloc | apply Kd.R_drewN | apply Kd.R_drew)); exact Kd.R_mono HO143.out (fun _ hk => hk.1.2)⟩, ⟨by (with_reducible repeat (first | apply Kd.R_alloc | apply Kd.R_drewN | apply Kd.R_drew)); exact Kd.R_mono HO148.out (fun _ hk => hk.1.2)⟩, ⟨by repeat (first | (with_reducible first | exact HB.out | apply below_alloc | apply pw_below_drewN | apply below_drew1) | exact HB.out)⟩⟩
                · replace c25 := Bool.eq_false_iff.mpr c25
                  subst c25
                  have H1 : (chalklinelaw02_SealFrames.j1 kj4 l0 t141 t144 false) = some r := by rw [if_neg (show ¬ (false = true) by decide)] at H; exact H
                  clear H
                  have H := H1
                  clear H1
                  have H' := Aside0.mk H
                  clear H
                  obtain ⟨Ao35, co35, eo35⟩ := Kd.R_slice HO136.out
                  subst eo35
                  obtain ⟨Ao36, co36, eo36⟩ := Kd.R_slice HO140.out
                  subst eo36
                  go_wp2_with (first | ((with_reducible refine gate_callee (f := 20) rfl ?_); refine goesL_ (some 61) rfl rfl Try.func20 (by kernel_rfl) rfl #[.slice Ao35 t133.length co35, .slice Ao36 t137.length co36] rfl (by (try simp only [List.map_toArray, List.map_cons, List.map_nil]); first | done | rfl | (simp only [List.length_drop, List.length_take]; rfl)) ?_; (with_reducible refine (chalklineref02_Same.calls _ _ t133 _ _ t137 true _ ?side1 ?side2 ?side3 ?side4 A21.out).mono ?_); (case side1 => repeat (first | exact (Kd.R_reads' HO136.out).2.2 | (with_reducible refine Kd.C_alloc ?_ _) | (with_reducible refine Kd.C_drewN ?_ _) | (with_reducible refine Kd.C_drew ?_))); (case side2 => exact (Kd.R_reads' HO136.out).2.1); (case side3 => repeat (first | exact (Kd.R_reads' HO140.out).2.2 | (with_reducible refine Kd.C_alloc ?_ _) | (with_reducible refine Kd.C_drewN ?_ _) | (with_reducible refine Kd.C_drew ?_))); (case side4 => exact (Kd.R_reads' HO140.out).2.1); rintro e w' ⟨rfl, ⟨nd, rfl⟩⟩; refine ⟨_, rfl, ?_⟩; obtain ⟨Ao37, co37, eo37⟩ := Kd.R_slice HO148.out; subst eo37; obtain ⟨Ao38, co38, eo38⟩ := Kd.R_slice HO153.out; subst eo38) | (go_at_call 20; (with_reducible refine (chalklineref02_Same.calls _ _ t144 _ _ t149 false _ ?side1 ?side2 ?side3 ?side4 A24.out).mono ?_); (case side1 => repeat (first | exact (Kd.R_reads' HO148.out).2.2 | (with_reducible refine Kd.C_alloc ?_ _) | (with_reducible refine Kd.C_drewN ?_ _) | (with_reducible refine Kd.C_drew ?_))); (case side2 => exact (Kd.R_reads' HO148.out).2.1); (case side3 => repeat (first | exact (Kd.R_reads' HO153.out).2.2 | (with_reducible refine Kd.C_alloc ?_ _) | (with_reducible refine Kd.C_drewN ?_ _) | (with_reducible refine Kd.C_drew ?_))); (case side4 => exact (Kd.R_reads' HO153.out).2.1); rintro e w' ⟨rfl, ⟨nd, rfl⟩⟩))
                  go_meet
                  case rel => exact ⟨_, (false), (by first | rfl | (simp; done) | (simp [*]; done)), H', ⟨by have := HJ4.out; first | omega | exact Nat.le_refl _⟩, ⟨by (with_reducible repeat (first | apply Kd.R_alloc | apply Kd.R_drewN | apply Kd.R_drew)); exact Kd.R_mono HO143.out (fun _ hk => hk.1.2)⟩, ⟨by (with_reducible repeat (first | apply Kd.R_alloc | apply Kd.R_drewN | apply Kd.R_drew)); exact Kd.R_mono HO148.out (fun _ hk => hk.1.2)⟩, ⟨by repeat (first | (with_reducible first | exact HB.out | apply below_alloc | apply pw_below_drewN | apply below_drew1) | exact HB.out)⟩⟩
              · rw [if_neg c23] at H
                have c23b0 : (t134 == t138) = false := beq_eq_false_iff_ne.mpr c23
                have c23b1 : (t134 != t138) = true := bne_iff_ne.mpr c23
                (first | rw [c23b0] | (simp only [i64_w, i32_w]; rw [c23b0]) | skip)
                have H' := Aside0.mk H
                clear H
                obtain ⟨Ao39, co39, eo39⟩ := Kd.R_slice HO136.out
                subst eo39
                obtain ⟨Ao40, co40, eo40⟩ := Kd.R_slice HO140.out
                subst eo40
                go_wp2_with (first | ((with_reducible refine gate_callee (f := 20) rfl ?_); refine goesL_ (some 61) rfl rfl Try.func20 (by kernel_rfl) rfl #[.slice Ao39 t133.length co39, .slice Ao40 t137.length co40] rfl (by (try simp only [List.map_toArray, List.map_cons, List.map_nil]); first | done | rfl | (simp only [List.length_drop, List.length_take]; rfl)) ?_; (with_reducible refine (chalklineref02_Same.calls _ _ t133 _ _ t137 true _ ?side1 ?side2 ?side3 ?side4 A21.out).mono ?_); (case side1 => repeat (first | exact (Kd.R_reads' HO136.out).2.2 | (with_reducible refine Kd.C_alloc ?_ _) | (with_reducible refine Kd.C_drewN ?_ _) | (with_reducible refine Kd.C_drew ?_))); (case side2 => exact (Kd.R_reads' HO136.out).2.1); (case side3 => repeat (first | exact (Kd.R_reads' HO140.out).2.2 | (with_reducible refine Kd.C_alloc ?_ _) | (with_reducible refine Kd.C_drewN ?_ _) | (with_reducible refine Kd.C_drew ?_))); (case side4 => exact (Kd.R_reads' HO140.out).2.1); rintro e w' ⟨rfl, ⟨nd, rfl⟩⟩; refine ⟨_, rfl, ?_⟩))
                go_meet
                case rel => exact ⟨_, (false), (by first | rfl | (simp; done) | (simp [*]; done)), H', ⟨by have := HJ4.out; first | omega | exact Nat.le_refl _⟩, ⟨by (with_reducible repeat (first | apply Kd.R_alloc | apply Kd.R_drewN | apply Kd.R_drew)); exact Kd.R_mono HO143.out (fun _ hk => hk.1.2)⟩, ⟨by (with_reducible repeat (first | apply Kd.R_alloc | apply Kd.R_drewN | apply Kd.R_drew)); exact Kd.R_mono HO148.out (fun _ hk => hk.1.2)⟩, ⟨by repeat (first | (with_reducible first | exact HB.out | apply below_alloc | apply pw_below_drewN | apply below_drew1) | exact HB.out)⟩⟩
            · replace c22 := Bool.eq_false_iff.mpr c22
              subst c22
              have H1 : (chalklinelaw02_SealFrames.j1 kj4 l0 t141 t144 false) = some r := by rw [if_neg (show ¬ (false = true) by decide)] at H; exact H
              clear H
              have H := H1
              clear H1
              have H' := Aside0.mk H
              clear H
              obtain ⟨Ao41, co41, eo41⟩ := Kd.R_slice HO136.out
              subst eo41
              obtain ⟨Ao42, co42, eo42⟩ := Kd.R_slice HO140.out
              subst eo42
              go_wp2_with (first | ((with_reducible refine gate_callee (f := 20) rfl ?_); refine goesL_ (some 61) rfl rfl Try.func20 (by kernel_rfl) rfl #[.slice Ao41 t133.length co41, .slice Ao42 t137.length co42] rfl (by (try simp only [List.map_toArray, List.map_cons, List.map_nil]); first | done | rfl | (simp only [List.length_drop, List.length_take]; rfl)) ?_; (with_reducible refine (chalklineref02_Same.calls _ _ t133 _ _ t137 false _ ?side1 ?side2 ?side3 ?side4 A21.out).mono ?_); (case side1 => repeat (first | exact (Kd.R_reads' HO136.out).2.2 | (with_reducible refine Kd.C_alloc ?_ _) | (with_reducible refine Kd.C_drewN ?_ _) | (with_reducible refine Kd.C_drew ?_))); (case side2 => exact (Kd.R_reads' HO136.out).2.1); (case side3 => repeat (first | exact (Kd.R_reads' HO140.out).2.2 | (with_reducible refine Kd.C_alloc ?_ _) | (with_reducible refine Kd.C_drewN ?_ _) | (with_reducible refine Kd.C_drew ?_))); (case side4 => exact (Kd.R_reads' HO140.out).2.1); rintro e w' ⟨rfl, ⟨nd, rfl⟩⟩; refine ⟨_, rfl, ?_⟩))
              go_meet
              case rel => exact ⟨_, (false), (by first | rfl | (simp; done) | (simp [*]; done)), H', ⟨by have := HJ4.out; first | omega | exact Nat.le_refl _⟩, ⟨by (with_reducible repeat (first | apply Kd.R_alloc | apply Kd.R_drewN | apply Kd.R_drew)); exact Kd.R_mono HO143.out (fun _ hk => hk.1.2)⟩, ⟨by (with_reducible repeat (first | apply Kd.R_alloc | apply Kd.R_drewN | apply Kd.R_drew)); exact Kd.R_mono HO148.out (fun _ hk => hk.1.2)⟩, ⟨by repeat (first | (with_reducible first | exact HB.out | apply below_alloc | apply pw_below_drewN | apply below_drew1) | exact HB.out)⟩⟩
          case rest =>
            clear HC15
            try clear c1
            try clear c2
            try clear p2
            try clear c4
            try clear c7
            try clear c7b0
            try clear c7b1
            try clear c8
            try clear c8b0
            try clear c8b1
            try clear c9
            try clear c12
            try clear c15
            try clear c16
            try clear c17
            try clear c18
            try clear c19
            try clear c20
            try clear c22
            try clear c23
            try clear c23b0
            try clear c23b1
            try clear c25
            try clear c26
            try clear c26b0
            try clear c26b1
            try clear p2
            obtain ⟨kq, x16_14, rfl, HA, HJ14, HO_9, HO_10, HB⟩ := hcut
            cases kq with
            | zero => exact absurd HA.out (by simp [chalklinelaw02_SealFrames.j1])
            | succ kj14 =>
              have H := HA.out
              clear HA
              simp only [chalklinelaw02_SealFrames.j1] at H
              have H' := Aside0.mk H
              clear H
              obtain ⟨Ao43, co43, eo43⟩ := Kd.R_slice HO_10.out
              subst eo43
              go_wp2
              go_loopg [84] kj14 (fun kq v84 w' => ∃ (x10_3 : List Int) (x84_3 : Int), v84 = .int .i64 x84_3 ∧ Aside0 (chalklinelaw02_SealFrames.l0 kq l0 t141 x10_3 x16_14 (t144.length : Int) x84_3 = some r) ∧ Aside0 (kq ≤ kj14) ∧ Aside0 (Kd.R (Kd.int .u8) 5 w' w.heap.size (fun k_ => some k_ ≠ ((.slice Ao43 t144.length co43) : Value).ownBlock) v142 t141) ∧ Aside0 (Kd.R (Kd.int .u8) 5 w' w.heap.size (fun k_ => some k_ ≠ (v142 : Value).ownBlock) (.slice Ao43 t144.length co43) x10_3) ∧ Aside0 (Below w.heap.size w w'))
              case atStart => exact ⟨(t144), (0), (by first | rfl | (simp; done) | (simp [*]; done)), H', ⟨Nat.le_refl _⟩, ⟨by (with_reducible repeat (first | apply Kd.R_alloc | apply Kd.R_drewN | apply Kd.R_drew)); exact HO_9.out⟩, ⟨by (with_reducible repeat (first | apply Kd.R_alloc | apply Kd.R_drewN | apply Kd.R_drew)); exact HO_10.out⟩, ⟨by repeat (first | (with_reducible first | exact HB.out | apply below_alloc | apply pw_below_drewN | apply below_drew1) | exact HB.out)⟩⟩
              case round =>
                clear H'
                try clear c1
                try clear c2
                try clear p2
                try clear c4
                try clear c7
                try clear c7b0
                try clear c7b1
                try clear c8
                try clear c8b0
                try clear c8b1
                try clear c9
                try clear c12
                try clear c15
                try clear c16
                try clear c17
                try clear c18
                try clear c19
                try clear c20
                try clear c22
                try clear c23
                try clear c23b0
                try clear c23b1
                try clear c25
                try clear c26
                try clear c26b0
                try clear c26b1
                try clear p2
                obtain ⟨x10_3, x84_3, rfl, HA, HK3, HO_9, HO_10, HB⟩ := hrel
                have hl10_3 := (Kd.R_reads' HO_10.out).1
                rw [hl10_3] at HO_10
                (try simp only [hl10_3])
                (try simp only [hl10_3] at HO_9)
                cases gk with
                | zero => exact absurd HA.out (by simp [chalklinelaw02_SealFrames.l0])
                | succ k3 =>
                  have H := HA.out
                  clear HA
                  simp only [chalklinelaw02_SealFrames.l0] at H
                  by_cases c44 : x84_3 < (t144.length : Int)
                  · rw [if_pos c44] at H
                    have c44b0 : decide (x84_3 < (t144.length : Int)) = true := decide_eq_true c44
                    clear c44
                    by_cases c45 : 0 ≤ x84_3
                    · rw [if_pos c45] at H
                      have c45b0 : decide (0 ≤ x84_3) = true := decide_eq_true c45
                      clear c45
                      by_cases c46 : x84_3 < (x10_3.length : Int)
                      · rw [if_pos c46] at H
                        have c46b0 : decide (x84_3 < (x10_3.length : Int)) = true := decide_eq_true c46
                        clear c46
                        obtain ⟨y157, hy157⟩ : ∃ y_ : List Int, y_ = (x10_3.set (x84_3 : Int).toNat (((rd x10_3 x84_3) + 1) % 256)) := ⟨_, rfl⟩
                        replace H : (chalklinelaw02_SealFrames.l0 k3 l0 t141 y157 x16_14 (t144.length : Int) (wrap64 (x84_3 + 1))) = some r := by first | (rw [hy157]; with_reducible exact H) | (have H2_ := (Option.bind_some _ _).symm.trans H; rw [hy157]; with_reducible exact H2_) | (have H2_ := (Option.bind_some _ _).symm.trans H; with_reducible exact H2_) | with_reducible exact H | (rw [hy157]; exact H) | exact H
                        have Ny157 := Aside0.mk hy157
                        clear hy157
                        have H' := Aside0.mk H
                        clear H
                        have p156 : 0 ≤ (x84_3 : Int) := of_decide_eq_true (by first | (with_reducible assumption) | assumption)
                        have q156 : x84_3 < (x10_3.length : Int) := of_decide_eq_true (by first | (with_reducible assumption) | assumption)
                        obtain ⟨ad156, e156, hx156_0⟩ := Kd.at_int (Kd.R_reads' HO_10.out).2.2 x84_3 p156 q156
                        cases e156
                        replace p156 := eq_true p156
                        replace q156 := eq_true q156
                        have p47 : 0 ≤ (x84_3 : Int) := of_decide_eq_true (by first | (with_reducible assumption) | assumption)
                        have q47 : (x84_3 : Int) < ((x10_3.length : Int) : Int) := of_decide_eq_true (by first | (with_reducible assumption) | assumption)
                        obtain ⟨go47, co47, eo47, gb47, gl47, cl47, HG47⟩ := Kd.R_form HO_10.out (by omega)
                        (first | cases eo47 | (injection eo47 with ea_ en_ ec_; (first | subst ea_ | (injection ea_ with ea_; subst ea_)); subst ec_; clear en_))
                        have GB47 := Aside0.mk gb47
                        have GG47 := Aside0.mk HG47
                        clear gb47 gl47 HG47
                        (first | simp only [add_plain] at hx156_0 | skip)
                        obtain ⟨hx47_0, hf47_0⟩ := Kd.R_celln 0 HO_10.out (x84_3 : Int) p47 q47
                        replace p47 := eq_true p47
                        replace q47 := eq_true q47
                        have HP48 := Kd.R_putg HO_10.out (x84_3 : Int) (((rd x10_3 x84_3) + 1) % 256)
                        go_wp2_with (first | ((with_reducible refine gate_store (t := 5) (p := 92) rfl ?_); refine store_event (t := 5) (p := 92) (v := ?vo_w49) (w1 := (wr.setCell ⟨go47, (x84_3 : Int).toNat, none⟩ (.int .u8 (((rd x10_3 x84_3) + 1) % 256)))) ?hg ?ho ?hn ?hr ?_; (case ho => rfl); (case hg => rfl); (case hn => rfl); (case hr => first | (go_simp; done) | (go_simp; rfl)); intro w49 hw; have hg : wr.grownBy w49 (some go47) := (by rw [hw]; exact HP48.2); have hp_ : Kd.R (Kd.int .u8) 5 w49 w.heap.size (fun k_ => some k_ ≠ (v142 : Value).ownBlock) (.slice (some ⟨go47, 0, none⟩) x10_3.length co43) y157 := (by rw [hw, Ny157.out]; exact HP48.1); clear HP48; have n0_ := Aside0.mk (Kd.R_after (v := (.slice (some ⟨go47, 0, none⟩) x10_3.length co43)) (v1 := (.slice (some ⟨go47, 0, none⟩) x10_3.length co43)) (ok := (fun _ => True)) (by (with_reducible repeat (first | apply Kd.R_alloc | apply Kd.R_drewN | apply Kd.R_drew)); exact Kd.R_mono HO_9.out (fun _ hk => ⟨trivial, hk⟩)) hg (.inl rfl)); have n1_ := Aside0.mk (hp_); have n2_ := Aside0.mk ((by rw [hw]; exact below_set (HB.out) GB47.out : Below w.heap.size w w49)); clear HO_9; clear HO_10; clear HB; have HO_9 := n0_; have HO_10 := n1_; have HB := n2_; clear n0_ n1_ n2_; clear hg hw hp_))
                        (try simp only [← hl10_3])
                        go_roundg k3
                        case measure => have := HJ4.out; have := HJ14.out; have := HK3.out; omega
                        case rel => exact ⟨(y157), (wrap64 (x84_3 + 1)), (by first | rfl | (simp; done) | (simp [*]; done)), H', ⟨by have := HJ4.out; have := HJ14.out; have := HK3.out; omega⟩, ⟨by (try simp only [hl10_3]); (with_reducible repeat (first | apply Kd.R_alloc | apply Kd.R_drewN | apply Kd.R_drew)); exact Kd.R_mono HO_9.out (fun _ hk => hk.2)⟩, ⟨by (try simp only [hl10_3]); (with_reducible repeat (first | apply Kd.R_alloc | apply Kd.R_drewN | apply Kd.R_drew)); exact HO_10.out⟩, ⟨by repeat (first | (with_reducible first | exact HB.out | apply below_alloc | apply pw_below_drewN | apply below_drew1) | exact HB.out)⟩⟩
                      · rw [if_neg c46] at H
                        exact absurd H (by simp)
                    · rw [if_neg c45] at H
                      exact absurd H (by simp)
                  · rw [if_neg c44] at H
                    have c44b0 : decide (x84_3 < (t144.length : Int)) = false := decide_eq_false c44
                    have c44b2 : decide (x84_3 < (x10_3.length : Int)) = false := by rw [← hl10_3]; exact c44b0
                    clear c44
                    by_cases c50 : x16_14 = true
                    · subst c50
                      have H1 : ((chalklineref02_Same.f l0 t141).bind fun t158 => (some t158)) = some r := by rw [if_pos rfl] at H; exact H
                      clear H
                      have H := H1
                      clear H1
                      replace H := Option.bind_eq_some_iff.mp H
                      obtain ⟨t158, A510, H⟩ := H
                      replace H : (some t158) = some r := H
                      have A51 := Aside0.mk A510
                      clear A510
                      obtain rfl := Option.some.inj H
                      obtain ⟨Ao52, co52, eo52⟩ := Kd.R_slice HO_9.out
                      subst eo52
                      go_wp2_with (first | (go_at_call 20; (with_reducible refine (chalklineref02_Same.calls _ _ l0 _ _ t141 t158 _ ?side1 ?side2 ?side3 ?side4 A51.out).mono ?_); (case side1 => repeat (first | exact (Kd.C_below HR0.out HB.out) | (with_reducible refine Kd.C_alloc ?_ _) | (with_reducible refine Kd.C_drewN ?_ _) | (with_reducible refine Kd.C_drew ?_))); (case side2 => exact HC0.out); (case side3 => repeat (first | exact (Kd.R_reads' HO_9.out).2.2 | (with_reducible refine Kd.C_alloc ?_ _) | (with_reducible refine Kd.C_drewN ?_ _) | (with_reducible refine Kd.C_drew ?_))); (case side4 => exact (Kd.R_reads' HO_9.out).2.1); rintro e w' ⟨rfl, ⟨nd, rfl⟩⟩))
                      go_ret
                      exact ⟨by first | rfl | (simp [errW_none, errW_some] <;> rfl) | (simp [*, errW_none, errW_some] <;> rfl), by repeat (first | (with_reducible first | exact HB.out | apply below_alloc | apply pw_below_drewN | apply below_drew1) | exact HB.out)⟩
                    · replace c50 := Bool.eq_false_iff.mpr c50
                      subst c50
                      have H1 : (some false) = some r := by rw [if_neg (show ¬ (false = true) by decide)] at H; exact H
                      clear H
                      have H := H1
                      clear H1
                      obtain rfl := Option.some.inj H
                      go_wp2
                      go_ret
                      exact ⟨by first | rfl | (simp [errW_none, errW_some] <;> rfl) | (simp [*, errW_none, errW_some] <;> rfl), by repeat (first | (with_reducible first | exact HB.out | apply below_alloc | apply pw_below_drewN | apply below_drew1) | exact HB.out)⟩
  · replace c4 := Bool.eq_false_iff.mpr c4
    subst c4
    have H1 : (some false) = some r := by rw [if_neg (show ¬ (false = true) by decide)] at H; exact H
    clear H
    have H := H1
    clear H1
    obtain rfl := Option.some.inj H
    go_enter Try.func4, Try.ntmps4
    go_wp2_with (first | ((with_reducible refine gate_callee (f := 12) rfl ?_); refine goesL_ (some 18) rfl rfl Try.func12 (by kernel_rfl) rfl #[] rfl (by (try simp only [List.map_toArray, List.map_cons, List.map_nil]); first | done | rfl | (simp only [List.length_drop, List.length_take]; rfl)) ?_; (with_reducible refine (chalklinelaw02_live.calls  false _ A3.out).mono ?_); rintro e w53 ⟨rfl, hb⟩; refine ⟨_, rfl, ?_⟩; have n0_ := Aside0.mk (below_step (by repeat (first | (with_reducible first | exact HB.out | apply below_alloc | apply pw_below_drewN | apply below_drew1) | exact HB.out)) hb); clear HB; have HB := n0_; clear n0_; (try clear hb); (try clear hb2); (try clear hk); (try clear hi)))
    go_ret
    exact ⟨by first | rfl | (simp [errW_none, errW_some] <;> rfl) | (simp [*, errW_none, errW_some] <;> rfl), by repeat (first | (with_reducible first | exact HB.out | apply below_alloc | apply pw_below_drewN | apply below_drew1) | exact HB.out)⟩

/-- THE ONE PURE STATEMENT of chalklinelaw02_SealFrames: yours. -/
def chalklinelaw02_SealFrames.Pure : Prop := ∀ (l0 : List Int) (a1 : Int), l0.length ≤ maxLen → l0.length * 1 ≤ 140737488351232 → (∀ x ∈ l0, (Lit.int .u8 x).wf = true) → (Lit.int .i64 a1).wf = true → ∃ k, chalklinelaw02_SealFrames.f k l0 a1 = some true
theorem chalklinelaw02_SealFrames.walk (P : chalklinelaw02_SealFrames.Pure) (a0 : Option Addr) (len0 cap0 : Nat) (z0 : List Int) (a1 : Int) (w : World) (w0 : (a0 = none ∧ len0 = 0 ∧ cap0 = 0 ∧ z0 = []) ∨ ∃ x, a0 = some x ∧ len0 ≤ cap0 ∧ cap0 ≤ maxLen ∧ z0.length = cap0 ∧ (∀ i, i < z0.length → w.cell? (x.add i) = some (.int .u8 (z0.getD i 0))) ∧ ∀ n ∈ z0, (Lit.int .u8 n).wf = true) (y0 : len0 * 1 ≤ 140737488351232) (w1 : (Lit.int .i64 a1).wf = true) :
    Calls Try.prog 4 #[.slice a0 len0 cap0, .int .i64 a1] w fun e w' => e = .returned (.bool true) ∧ Below w.heap.size w w' := by
  obtain ⟨l0, rfl, hr0, hm0, hw0, hc0⟩ := ReadsInt.ofRowC w0
  obtain ⟨k, h⟩ := P l0 a1 hm0 y0 hw0 w1
  refine (chalklinelaw02_SealFrames.calls k _ _ l0 a1 true w (Kd.C_of_reads (d := (0 : Int)) (h1 := fun _ => rfl) hr0) hc0 h).mono ?_
  rintro e w' ⟨rfl, hd⟩
  exact ⟨rfl, hd⟩

end Go.Proofs.Ytkmpjdccogolkaa.Pr
