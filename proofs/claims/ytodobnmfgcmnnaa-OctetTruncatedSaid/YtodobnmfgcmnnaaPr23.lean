-- Written by this session's own program (wip/pp.sh: a patched run of the kit's print, with contracts of my own).
import Derived.Test.YtodobnmfgcmnnaaPr0
import Derived.Test.YtodobnmfgcmnnaaPr1
import Derived.Test.YtodobnmfgcmnnaaPr4
import Derived.Test.YtodobnmfgcmnnaaPr6
import Derived.Test.YtodobnmfgcmnnaaPr7
import Derived.Test.YtodobnmfgcmnnaaPr8
import Derived.Test.YtodobnmfgcmnnaaPr10
import Derived.Test.YtodobnmfgcmnnaaPr12
namespace Go.Proofs.Ytodobnmfgcmnnaa.Pr
open Go.RowKit Go.Proofs.YtodobnmfgcmnnaaW.PrintWords Go.Proofs.YtodobnmfgcmnnaaW.PrintLast Go.Proofs.YtodobnmfgcmnnaaW.PrintMore
attribute [local go_sem] max2_int min2_int max_two min_two max_three min_three max_four min_four   -- for this text's walks alone
set_option linter.unusedVariables false
set_option linter.unusedSimpArgs false

/-! ### chalklinelaw01_OctetTruncated: function 8 -/
mutual
def chalklinelaw01_OctetTruncated.j0 : Nat → Int → ByteArray → List Int → Int → Bool → Option (Bool)
  | 0, _, _, _, _, _ => none
  | k + 1, x0, x1, x2, x3, x34 => if x34 = true then (some true) else ((octet_PutInt.f ([] : List Int) x0).bind fun t250 => ((octet_PutText.f ([] : List Int) x1).bind fun t253 => ((octet_PutInts.f ([] : List Int) x2).bind fun t256 => (if (t250.length : Int) = 0 then (chalklinelaw01_OctetTruncated.j1 k x1 x2 x3 t250 t253 t256 true) else (if (t253.length : Int) = 0 then (chalklinelaw01_OctetTruncated.j1 k x1 x2 x3 t250 t253 t256 true) else (chalklinelaw01_OctetTruncated.j1 k x1 x2 x3 t250 t253 t256 ((t256.length : Int) == 0)))))))
def chalklinelaw01_OctetTruncated.j1 : Nat → ByteArray → List Int → Int → List Int → List Int → List Int → Bool → Option (Bool)
  | 0, _, _, _, _, _, _, _ => none
  | k + 1, x1, x2, x3, x9, x10, x11, x53 => if x53 = true then (some false) else (if (x9.length : Int) = 0 then (none) else (if 0 ≤ (Int.tmod x3 (x9.length : Int)) then (if (Int.tmod x3 (x9.length : Int)) ≤ (x9.length : Int) then ((octet_GetInt.f (x9.take ((Int.tmod x3 (x9.length : Int)) : Int).toNat) 0).bind fun bt263 => (if (x10.length : Int) = 0 then (none) else (if 0 ≤ (Int.tmod x3 (x10.length : Int)) then (if (Int.tmod x3 (x10.length : Int)) ≤ (x10.length : Int) then ((octet_GetText.f (x10.take ((Int.tmod x3 (x10.length : Int)) : Int).toNat) 0 (x1.size : Int)).bind fun bt270 => (if (x11.length : Int) = 0 then (none) else (if 0 ≤ (Int.tmod x3 (x11.length : Int)) then (if (Int.tmod x3 (x11.length : Int)) ≤ (x11.length : Int) then ((octet_GetInts.f (x11.take ((Int.tmod x3 (x11.length : Int)) : Int).toNat) 0 (x2.length : Int)).bind fun bt277 => (if bt263.2.2 = 10 then (if bt270.2.2 = 10 then (some (bt277.2.2 == 10)) else (some false)) else (some false))) else (none)) else (none)))) else (none)) else (none)))) else (none)) else (none)))
end
def chalklinelaw01_OctetTruncated.f (k : Nat) (a0 : Int) (a1 : ByteArray) (l2 : List Int) (a3 : Int) : Option (Bool) := (chalklinelaw01_live.f).bind fun t249 => (if t249 = true then (if (a1.size : Int) > 300 then (chalklinelaw01_OctetTruncated.j0 k a0 a1 l2 a3 true) else (if (l2.length : Int) > 100 then (chalklinelaw01_OctetTruncated.j0 k a0 a1 l2 a3 true) else (chalklinelaw01_OctetTruncated.j0 k a0 a1 l2 a3 (decide (a3 < 0))))) else (some false))
theorem chalklinelaw01_OctetTruncated.mono_l : ∀ k, (∀ y0 y1 y2 y3 y4, LeO (chalklinelaw01_OctetTruncated.j0 k y0 y1 y2 y3 y4) (chalklinelaw01_OctetTruncated.j0 (k + 1) y0 y1 y2 y3 y4)) ∧ (∀ y0 y1 y2 y3 y4 y5 y6, LeO (chalklinelaw01_OctetTruncated.j1 k y0 y1 y2 y3 y4 y5 y6) (chalklinelaw01_OctetTruncated.j1 (k + 1) y0 y1 y2 y3 y4 y5 y6))
  | 0 => ⟨fun _ _ _ _ _ r h => by simp [chalklinelaw01_OctetTruncated.j0] at h, fun _ _ _ _ _ _ _ r h => by simp [chalklinelaw01_OctetTruncated.j1] at h⟩
  | k + 1 => by
    obtain ⟨ih0, ih1⟩ := chalklinelaw01_OctetTruncated.mono_l k
    refine ⟨?_, ?_⟩
    · intro y0 y1 y2 y3 y4
      unfold chalklinelaw01_OctetTruncated.j0
      repeat' first
      | (with_reducible exact ih0 _ _ _ _ _)
      | (with_reducible exact ih1 _ _ _ _ _ _ _)
      | (with_reducible exact LeO.refl _)
      | (with_reducible exact LeO.none _)
      | (with_reducible refine LeO.ite ?_ ?_)
      | (with_reducible refine LeO.bind ?_ (fun _ => ?_))
      | exact ih0 _ _ _ _ _
      | exact ih1 _ _ _ _ _ _ _
      | exact LeO.none _
      | refine LeO.ite ?_ ?_
      | refine LeO.bind ?_ (fun _ => ?_)
    · intro y0 y1 y2 y3 y4 y5 y6
      unfold chalklinelaw01_OctetTruncated.j1
      repeat' first
      | (with_reducible exact ih0 _ _ _ _ _)
      | (with_reducible exact ih1 _ _ _ _ _ _ _)
      | (with_reducible exact LeO.refl _)
      | (with_reducible exact LeO.none _)
      | (with_reducible refine LeO.ite ?_ ?_)
      | (with_reducible refine LeO.bind ?_ (fun _ => ?_))
      | exact ih0 _ _ _ _ _
      | exact ih1 _ _ _ _ _ _ _
      | exact LeO.none _
      | refine LeO.ite ?_ ?_
      | refine LeO.bind ?_ (fun _ => ?_)
theorem chalklinelaw01_OctetTruncated.mono : ∀ a0 a1 a2 a3 k, LeO (chalklinelaw01_OctetTruncated.f k a0 a1 a2 a3) (chalklinelaw01_OctetTruncated.f (k + 1) a0 a1 a2 a3) := by
  intro a0 a1 a2 a3 k
  obtain ⟨ih0, ih1⟩ := chalklinelaw01_OctetTruncated.mono_l k
  unfold chalklinelaw01_OctetTruncated.f
  repeat' first
      | (with_reducible exact ih0 _ _ _ _ _)
      | (with_reducible exact ih1 _ _ _ _ _ _ _)
      | (with_reducible exact LeO.refl _)
      | (with_reducible exact LeO.none _)
      | (with_reducible refine LeO.ite ?_ ?_)
      | (with_reducible refine LeO.bind ?_ (fun _ => ?_))
      | exact ih0 _ _ _ _ _
      | exact ih1 _ _ _ _ _ _ _
      | exact LeO.none _
      | refine LeO.ite ?_ ?_
      | refine LeO.bind ?_ (fun _ => ?_)
set_option maxHeartbeats 8000000 in
set_option maxRecDepth 100000 in
theorem chalklinelaw01_OctetTruncated.calls (k : Nat) (a0 : Int) (a1 : ByteArray) (A2 : Option Addr) (c2 : Nat) (l2 : List Int) (a3 : Int) (r : Bool) (w : World) (hr2 : Kd.C (Kd.int .i64) w A2 l2.length l2) (hc2 : l2.length ≤ c2) (h : chalklinelaw01_OctetTruncated.f k a0 a1 l2 a3 = some r) :
    Calls Try.prog 8 #[.int .i64 a0, .string a1, .slice A2 l2.length c2, .int .i64 a3] w fun e w' => e = .returned (.bool r) ∧ Below w.heap.size w w' := by
  have HR2 := Aside0.mk hr2
  have HC2 := Aside0.mk hc2
  clear hr2 hc2
  have HB := Aside0.mk (Below.refl w.heap.size w)
  have H : ((chalklinelaw01_live.f).bind fun t249 => (if t249 = true then (if (a1.size : Int) > 300 then (chalklinelaw01_OctetTruncated.j0 k a0 a1 l2 a3 true) else (if (l2.length : Int) > 100 then (chalklinelaw01_OctetTruncated.j0 k a0 a1 l2 a3 true) else (chalklinelaw01_OctetTruncated.j0 k a0 a1 l2 a3 (decide (a3 < 0))))) else (some false))) = some r := h
  clear h
  replace H := Option.bind_eq_some_iff.mp H
  obtain ⟨t249, A50, H⟩ := H
  replace H : (if t249 = true then (if (a1.size : Int) > 300 then (chalklinelaw01_OctetTruncated.j0 k a0 a1 l2 a3 true) else (if (l2.length : Int) > 100 then (chalklinelaw01_OctetTruncated.j0 k a0 a1 l2 a3 true) else (chalklinelaw01_OctetTruncated.j0 k a0 a1 l2 a3 (decide (a3 < 0))))) else (some false)) = some r := H
  have A5 := Aside0.mk A50
  clear A50
  by_cases c6 : t249 = true
  · subst c6
    have H1 : (if (a1.size : Int) > 300 then (chalklinelaw01_OctetTruncated.j0 k a0 a1 l2 a3 true) else (if (l2.length : Int) > 100 then (chalklinelaw01_OctetTruncated.j0 k a0 a1 l2 a3 true) else (chalklinelaw01_OctetTruncated.j0 k a0 a1 l2 a3 (decide (a3 < 0))))) = some r := by rw [if_pos rfl] at H; exact H
    clear H
    have H := H1
    clear H1
    have HC7 := Aside0.mk H
    clear H
    go_enter Try.func8, Try.ntmps8
    go_upto_region 3 with (first | ((with_reducible refine gate_callee (f := 11) rfl ?_); refine goesL_ (some 21) rfl rfl Try.func11 (by kernel_rfl) rfl #[] rfl (by (try simp only [List.map_toArray, List.map_cons, List.map_nil]); first | done | rfl | (simp only [List.length_drop, List.length_take]; rfl)) ?_; (with_reducible refine (chalklinelaw01_live.calls  true _ A5.out).mono ?_); rintro e w8 ⟨rfl, hb⟩; refine ⟨_, rfl, ?_⟩; have n0_ := Aside0.mk (below_step (by repeat (first | (with_reducible first | exact HB.out | apply below_alloc | apply pw_below_drewN | apply below_drew1) | exact HB.out)) hb); clear HB; have HB := n0_; clear n0_; (try clear hb); (try clear hb2); (try clear hk); (try clear hi)))
    (try simp only [Act.put, List.setIfInBounds_toArray, List.set_cons_zero, List.set_cons_succ])
    go_cut [34] (fun v34 wc => ∃ (kq : Nat) (x34_6 : Bool), v34 = .bool x34_6 ∧ Aside0 (chalklinelaw01_OctetTruncated.j0 kq a0 a1 l2 a3 x34_6 = some r) ∧ Aside0 (kq ≤ k) ∧ Aside0 (Below w.heap.size w wc))
    case first =>
      have H := HC7.out
      clear HC7
      by_cases c9 : (a1.size : Int) > 300
      · rw [if_pos c9] at H
        have c9b0 : decide (300 < (a1.size : Int)) = true := decide_eq_true c9
        have c9b1 : decide (300 < a1.size) = true := decide_eq_true (by omega)
        clear c9
        (first | rw [c9b0] | (simp only [i64_w, i32_w]; rw [c9b0]) | skip)
        have H' := Aside0.mk H
        clear H
        go_wp2
        go_meet
        case rel => exact ⟨_, (true), (by first | rfl | (simp; done) | (simp [*]; done)), H', ⟨by first | omega | exact Nat.le_refl _⟩, ⟨by repeat (first | (with_reducible first | exact HB.out | apply below_alloc | apply pw_below_drewN | apply below_drew1) | exact HB.out)⟩⟩
      · rw [if_neg c9] at H
        have c9b0 : decide (300 < (a1.size : Int)) = false := decide_eq_false c9
        have c9b1 : decide (300 < a1.size) = false := decide_eq_false (by omega)
        clear c9
        (first | rw [c9b0] | (simp only [i64_w, i32_w]; rw [c9b0]) | skip)
        by_cases c10 : (l2.length : Int) > 100
        · rw [if_pos c10] at H
          have c10b0 : decide (100 < (l2.length : Int)) = true := decide_eq_true c10
          have c10b1 : decide (100 < l2.length) = true := decide_eq_true (by omega)
          clear c10
          have H' := Aside0.mk H
          clear H
          go_wp2
          go_meet
          case rel => exact ⟨_, (true), (by first | rfl | (simp; done) | (simp [*]; done)), H', ⟨by first | omega | exact Nat.le_refl _⟩, ⟨by repeat (first | (with_reducible first | exact HB.out | apply below_alloc | apply pw_below_drewN | apply below_drew1) | exact HB.out)⟩⟩
        · rw [if_neg c10] at H
          have c10b0 : decide (100 < (l2.length : Int)) = false := decide_eq_false c10
          have c10b1 : decide (100 < l2.length) = false := decide_eq_false (by omega)
          clear c10
          have H' := Aside0.mk H
          clear H
          go_wp2
          go_meet
          case rel => exact ⟨_, (decide (a3 < 0)), (by first | rfl | (simp; done) | (simp [*]; done)), H', ⟨by first | omega | exact Nat.le_refl _⟩, ⟨by repeat (first | (with_reducible first | exact HB.out | apply below_alloc | apply pw_below_drewN | apply below_drew1) | exact HB.out)⟩⟩
    case rest =>
      clear HC7
      try clear c1
      try clear c2
      try clear p2
      try clear c6
      try clear c8
      try clear c9
      try clear c9b0
      try clear c9b1
      try clear c10
      try clear c10b0
      try clear c10b1
      obtain ⟨kq, x34_6, rfl, HA, HJ6, HB⟩ := hcut
      cases kq with
      | zero => exact absurd HA.out (by simp [chalklinelaw01_OctetTruncated.j0])
      | succ kj6 =>
        have H := HA.out
        clear HA
        simp only [chalklinelaw01_OctetTruncated.j0] at H
        by_cases c11 : x34_6 = true
        · subst c11
          have H1 : (some true) = some r := by rw [if_pos rfl] at H; exact H
          clear H
          have H := H1
          clear H1
          obtain rfl := Option.some.inj H
          go_wp2
          go_ret
          exact ⟨by first | rfl | (simp [errW_none, errW_some] <;> rfl) | (simp [*, errW_none, errW_some] <;> rfl), by repeat (first | (with_reducible first | exact HB.out | apply below_alloc | apply pw_below_drewN | apply below_drew1) | exact HB.out)⟩
        · replace c11 := Bool.eq_false_iff.mpr c11
          subst c11
          have H1 : ((octet_PutInt.f ([] : List Int) a0).bind fun t250 => ((octet_PutText.f ([] : List Int) a1).bind fun t253 => ((octet_PutInts.f ([] : List Int) l2).bind fun t256 => (if (t250.length : Int) = 0 then (chalklinelaw01_OctetTruncated.j1 kj6 a1 l2 a3 t250 t253 t256 true) else (if (t253.length : Int) = 0 then (chalklinelaw01_OctetTruncated.j1 kj6 a1 l2 a3 t250 t253 t256 true) else (chalklinelaw01_OctetTruncated.j1 kj6 a1 l2 a3 t250 t253 t256 ((t256.length : Int) == 0))))))) = some r := by rw [if_neg (show ¬ (false = true) by decide)] at H; exact H
          clear H
          have H := H1
          clear H1
          replace H := Option.bind_eq_some_iff.mp H
          obtain ⟨t250, A120, H⟩ := H
          replace H : ((octet_PutText.f ([] : List Int) a1).bind fun t253 => ((octet_PutInts.f ([] : List Int) l2).bind fun t256 => (if (t250.length : Int) = 0 then (chalklinelaw01_OctetTruncated.j1 kj6 a1 l2 a3 t250 t253 t256 true) else (if (t253.length : Int) = 0 then (chalklinelaw01_OctetTruncated.j1 kj6 a1 l2 a3 t250 t253 t256 true) else (chalklinelaw01_OctetTruncated.j1 kj6 a1 l2 a3 t250 t253 t256 ((t256.length : Int) == 0)))))) = some r := H
          have A12 := Aside0.mk A120
          clear A120
          replace H := Option.bind_eq_some_iff.mp H
          obtain ⟨t253, A130, H⟩ := H
          replace H : ((octet_PutInts.f ([] : List Int) l2).bind fun t256 => (if (t250.length : Int) = 0 then (chalklinelaw01_OctetTruncated.j1 kj6 a1 l2 a3 t250 t253 t256 true) else (if (t253.length : Int) = 0 then (chalklinelaw01_OctetTruncated.j1 kj6 a1 l2 a3 t250 t253 t256 true) else (chalklinelaw01_OctetTruncated.j1 kj6 a1 l2 a3 t250 t253 t256 ((t256.length : Int) == 0))))) = some r := H
          have A13 := Aside0.mk A130
          clear A130
          replace H := Option.bind_eq_some_iff.mp H
          obtain ⟨t256, A140, H⟩ := H
          replace H : (if (t250.length : Int) = 0 then (chalklinelaw01_OctetTruncated.j1 kj6 a1 l2 a3 t250 t253 t256 true) else (if (t253.length : Int) = 0 then (chalklinelaw01_OctetTruncated.j1 kj6 a1 l2 a3 t250 t253 t256 true) else (chalklinelaw01_OctetTruncated.j1 kj6 a1 l2 a3 t250 t253 t256 ((t256.length : Int) == 0)))) = some r := H
          have A14 := Aside0.mk A140
          clear A140
          have HC15 := Aside0.mk H
          clear H
          go_upto_region 8 with (first | ((with_reducible refine gate_callee (f := 15) rfl ?_); refine goesL_ (some 36) rfl rfl Try.func15 (by kernel_rfl) rfl #[.slice none 0 0, .int .i64 a0] rfl (by (try simp only [List.map_toArray, List.map_cons, List.map_nil]); first | done | rfl | (simp only [List.length_drop, List.length_take]; rfl)) ?_; (refine (octet_PutInt.calls _ _ ([] : List Int) a0 t250 _ ?side1 ?side2 A12.out).mono ?_); (case side1 => exact Kd.C_nil _ _); (case side2 => exact Nat.le_refl _); rintro e w16 ⟨v251, rfl, ho0, hb⟩; refine ⟨_, rfl, ?_⟩; have n0_ := Aside0.mk (Kd.R_lower ho0 (below_size (by repeat (first | (with_reducible first | exact HB.out | apply below_alloc | apply pw_below_drewN | apply below_drew1) | exact HB.out)))); have n1_ := Aside0.mk (below_step (by repeat (first | (with_reducible first | exact HB.out | apply below_alloc | apply pw_below_drewN | apply below_drew1) | exact HB.out)) hb); clear HB; have HO252 := n0_; have HB := n1_; clear n0_ n1_; (try clear hb); (try clear hb2); (try clear hk); (try clear hi); (try clear ho0)) | ((with_reducible refine gate_callee (f := 19) rfl ?_); refine goesL_ (some 38) rfl rfl Try.func19 (by kernel_rfl) rfl #[.slice none 0 0, .string a1] rfl (by (try simp only [List.map_toArray, List.map_cons, List.map_nil]); first | done | rfl | (simp only [List.length_drop, List.length_take]; rfl)) ?_; (refine (octet_PutText.calls _ _ ([] : List Int) a1 t253 _ ?side1 ?side2 A13.out).mono ?_); (case side1 => exact Kd.C_nil _ _); (case side2 => exact Nat.le_refl _); rintro e w17 ⟨v254, rfl, ho0, hb⟩; refine ⟨_, rfl, ?_⟩; have n0_ := Aside0.mk (Kd.R_elder' (by (with_reducible repeat (first | apply Kd.R_alloc | apply Kd.R_drewN | apply Kd.R_drew)); exact HO252.out) (Kd.R_base ho0) hb); have n1_ := Aside0.mk (Kd.R_lower (Kd.R_new' ho0 (Kd.R_lt (by (with_reducible repeat (first | apply Kd.R_alloc | apply Kd.R_drewN | apply Kd.R_drew)); exact HO252.out))) (below_size (by repeat (first | (with_reducible first | exact HB.out | apply below_alloc | apply pw_below_drewN | apply below_drew1) | exact HB.out)))); have n2_ := Aside0.mk (below_step (by repeat (first | (with_reducible first | exact HB.out | apply below_alloc | apply pw_below_drewN | apply below_drew1) | exact HB.out)) hb); clear HO252; clear HB; have HO252 := n0_; have HO255 := n1_; have HB := n2_; clear n0_ n1_ n2_; (try clear hb); (try clear hb2); (try clear hk); (try clear hi); (try clear ho0)) | ((with_reducible refine gate_callee (f := 23) rfl ?_); refine goesL_ (some 40) rfl rfl Try.func23 (by kernel_rfl) rfl #[.slice none 0 0, .slice A2 l2.length c2] rfl (by (try simp only [List.map_toArray, List.map_cons, List.map_nil]); first | done | rfl | (simp only [List.length_drop, List.length_take]; rfl)) ?_; (refine (octet_PutInts.calls _ _ ([] : List Int) _ _ l2 t256 _ ?side1 ?side2 ?side3 ?side4 A14.out).mono ?_); (case side1 => exact Kd.C_nil _ _); (case side2 => exact Nat.le_refl _); (case side3 => repeat (first | exact (Kd.C_below HR2.out HB.out) | (with_reducible refine Kd.C_alloc ?_ _) | (with_reducible refine Kd.C_drewN ?_ _) | (with_reducible refine Kd.C_drew ?_))); (case side4 => exact HC2.out); rintro e w18 ⟨v257, rfl, ho0, hb⟩; refine ⟨_, rfl, ?_⟩; have n0_ := Aside0.mk (Kd.R_elder' (by (with_reducible repeat (first | apply Kd.R_alloc | apply Kd.R_drewN | apply Kd.R_drew)); exact HO252.out) (Kd.R_base ho0) hb); have n1_ := Aside0.mk (Kd.R_elder' (by (with_reducible repeat (first | apply Kd.R_alloc | apply Kd.R_drewN | apply Kd.R_drew)); exact HO255.out) (Kd.R_base ho0) hb); have n2_ := Aside0.mk (Kd.R_lower (Kd.R_new' (Kd.R_new' ho0 (Kd.R_lt (by (with_reducible repeat (first | apply Kd.R_alloc | apply Kd.R_drewN | apply Kd.R_drew)); exact HO252.out))) (Kd.R_lt (by (with_reducible repeat (first | apply Kd.R_alloc | apply Kd.R_drewN | apply Kd.R_drew)); exact HO255.out))) (below_size (by repeat (first | (with_reducible first | exact HB.out | apply below_alloc | apply pw_below_drewN | apply below_drew1) | exact HB.out)))); have n3_ := Aside0.mk (below_step (by repeat (first | (with_reducible first | exact HB.out | apply below_alloc | apply pw_below_drewN | apply below_drew1) | exact HB.out)) hb); clear HO252; clear HO255; clear HB; have HO252 := n0_; have HO255 := n1_; have HO258 := n2_; have HB := n3_; clear n0_ n1_ n2_ n3_; (try clear hb); (try clear hb2); (try clear hk); (try clear hi); (try clear ho0)))
          (try simp only [Act.put, List.setIfInBounds_toArray, List.set_cons_zero, List.set_cons_succ])
          go_cut [53] (fun v53 wc => ∃ (kq : Nat) (x53_14 : Bool), v53 = .bool x53_14 ∧ Aside0 (chalklinelaw01_OctetTruncated.j1 kq a1 l2 a3 t250 t253 t256 x53_14 = some r) ∧ Aside0 (kq ≤ kj6) ∧ Aside0 (Kd.R (Kd.int .u8) 5 wc w.heap.size (fun k_ => some k_ ≠ (v254 : Value).ownBlock ∧ some k_ ≠ (v257 : Value).ownBlock) v251 t250) ∧ Aside0 (Kd.R (Kd.int .u8) 5 wc w.heap.size (fun k_ => some k_ ≠ (v251 : Value).ownBlock ∧ some k_ ≠ (v257 : Value).ownBlock) v254 t253) ∧ Aside0 (Kd.R (Kd.int .u8) 5 wc w.heap.size (fun k_ => some k_ ≠ (v251 : Value).ownBlock ∧ some k_ ≠ (v254 : Value).ownBlock) v257 t256) ∧ Aside0 (Below w.heap.size w wc))
          case first =>
            have H := HC15.out
            clear HC15
            by_cases c19 : (t250.length : Int) = 0
            · rw [if_pos c19] at H
              have c19b0 : ((t250.length : Int) == 0) = true := beq_iff_eq.mpr c19
              have c19b1 : ((t250.length : Int) != 0) = false := bne_eq_false_iff_eq.mpr c19
              clear c19
              (first | rw [c19b0] | (simp only [i64_w, i32_w]; rw [c19b0]) | skip)
              have H' := Aside0.mk H
              clear H
              obtain ⟨Ao20, co20, eo20⟩ := Kd.R_slice HO252.out
              subst eo20
              go_wp2
              go_meet
              case rel => exact ⟨_, (true), (by first | rfl | (simp; done) | (simp [*]; done)), H', ⟨by have := HJ6.out; first | omega | exact Nat.le_refl _⟩, ⟨by (with_reducible repeat (first | apply Kd.R_alloc | apply Kd.R_drewN | apply Kd.R_drew)); exact Kd.R_mono HO252.out (fun _ hk => ⟨hk.1.2, hk.2⟩)⟩, ⟨by (with_reducible repeat (first | apply Kd.R_alloc | apply Kd.R_drewN | apply Kd.R_drew)); exact Kd.R_mono HO255.out (fun _ hk => ⟨hk.1.2, hk.2⟩)⟩, ⟨by (with_reducible repeat (first | apply Kd.R_alloc | apply Kd.R_drewN | apply Kd.R_drew)); exact Kd.R_mono HO258.out (fun _ hk => ⟨hk.1.2, hk.2⟩)⟩, ⟨by repeat (first | (with_reducible first | exact HB.out | apply below_alloc | apply pw_below_drewN | apply below_drew1) | exact HB.out)⟩⟩
            · rw [if_neg c19] at H
              have c19b0 : ((t250.length : Int) == 0) = false := beq_eq_false_iff_ne.mpr c19
              have c19b1 : ((t250.length : Int) != 0) = true := bne_iff_ne.mpr c19
              have c19b2 : ¬ (t250 = []) := fun h_ => c19 (by rw [h_]; rfl)
              (first | rw [c19b0] | (simp only [i64_w, i32_w]; rw [c19b0]) | skip)
              by_cases c21 : (t253.length : Int) = 0
              · rw [if_pos c21] at H
                have c21b0 : ((t253.length : Int) == 0) = true := beq_iff_eq.mpr c21
                have c21b1 : ((t253.length : Int) != 0) = false := bne_eq_false_iff_eq.mpr c21
                clear c21
                have H' := Aside0.mk H
                clear H
                obtain ⟨Ao22, co22, eo22⟩ := Kd.R_slice HO252.out
                subst eo22
                obtain ⟨Ao23, co23, eo23⟩ := Kd.R_slice HO255.out
                subst eo23
                go_wp2
                go_meet
                case rel => exact ⟨_, (true), (by first | rfl | (simp; done) | (simp [*]; done)), H', ⟨by have := HJ6.out; first | omega | exact Nat.le_refl _⟩, ⟨by (with_reducible repeat (first | apply Kd.R_alloc | apply Kd.R_drewN | apply Kd.R_drew)); exact Kd.R_mono HO252.out (fun _ hk => ⟨hk.1.2, hk.2⟩)⟩, ⟨by (with_reducible repeat (first | apply Kd.R_alloc | apply Kd.R_drewN | apply Kd.R_drew)); exact Kd.R_mono HO255.out (fun _ hk => ⟨hk.1.2, hk.2⟩)⟩, ⟨by (with_reducible repeat (first | apply Kd.R_alloc | apply Kd.R_drewN | apply Kd.R_drew)); exact Kd.R_mono HO258.out (fun _ hk => ⟨hk.1.2, hk.2⟩)⟩, ⟨by repeat (first | (with_reducible first | exact HB.out | apply below_alloc | apply pw_below_drewN | apply below_drew1) | exact HB.out)⟩⟩
              · rw [if_neg c21] at H
                have c21b0 : ((t253.length : Int) == 0) = false := beq_eq_false_iff_ne.mpr c21
                have c21b1 : ((t253.length : Int) != 0) = true := bne_iff_ne.mpr c21
                have c21b2 : ¬ (t253 = []) := fun h_ => c21 (by rw [h_]; rfl)
                have H' := Aside0.mk H
                clear H
                obtain ⟨Ao24, co24, eo24⟩ := Kd.R_slice HO252.out
                subst eo24
                obtain ⟨Ao25, co25, eo25⟩ := Kd.R_slice HO255.out
                subst eo25
                obtain ⟨Ao26, co26, eo26⟩ := Kd.R_slice HO258.out
                subst eo26
                go_wp2
                go_meet
                case rel => exact ⟨_, (((t256.length : Int) == 0)), (by first | rfl | (simp; done) | (simp [*]; done)), H', ⟨by have := HJ6.out; first | omega | exact Nat.le_refl _⟩, ⟨by (with_reducible repeat (first | apply Kd.R_alloc | apply Kd.R_drewN | apply Kd.R_drew)); exact Kd.R_mono HO252.out (fun _ hk => ⟨hk.1.2, hk.2⟩)⟩, ⟨by (with_reducible repeat (first | apply Kd.R_alloc | apply Kd.R_drewN | apply Kd.R_drew)); exact Kd.R_mono HO255.out (fun _ hk => ⟨hk.1.2, hk.2⟩)⟩, ⟨by (with_reducible repeat (first | apply Kd.R_alloc | apply Kd.R_drewN | apply Kd.R_drew)); exact Kd.R_mono HO258.out (fun _ hk => ⟨hk.1.2, hk.2⟩)⟩, ⟨by repeat (first | (with_reducible first | exact HB.out | apply below_alloc | apply pw_below_drewN | apply below_drew1) | exact HB.out)⟩⟩
          case rest =>
            clear HC15
            try clear c1
            try clear c2
            try clear p2
            try clear c6
            try clear c8
            try clear c9
            try clear c9b0
            try clear c9b1
            try clear c10
            try clear c10b0
            try clear c10b1
            try clear c11
            try clear c15
            try clear c19
            try clear c19b0
            try clear c19b1
            try clear c19b2
            try clear c21
            try clear c21b0
            try clear c21b1
            try clear c21b2
            try clear c23
            try clear p2
            obtain ⟨kq, x53_14, rfl, HA, HJ14, HO_9, HO_10, HO_11, HB⟩ := hcut
            cases kq with
            | zero => exact absurd HA.out (by simp [chalklinelaw01_OctetTruncated.j1])
            | succ kj14 =>
              have H := HA.out
              clear HA
              simp only [chalklinelaw01_OctetTruncated.j1] at H
              by_cases c27 : x53_14 = true
              · subst c27
                have H1 : (some false) = some r := by rw [if_pos rfl] at H; exact H
                clear H
                have H := H1
                clear H1
                obtain rfl := Option.some.inj H
                go_wp2
                go_ret
                exact ⟨by first | rfl | (simp [errW_none, errW_some] <;> rfl) | (simp [*, errW_none, errW_some] <;> rfl), by repeat (first | (with_reducible first | exact HB.out | apply below_alloc | apply pw_below_drewN | apply below_drew1) | exact HB.out)⟩
              · replace c27 := Bool.eq_false_iff.mpr c27
                subst c27
                have H1 : (if (t250.length : Int) = 0 then (none) else (if 0 ≤ (Int.tmod a3 (t250.length : Int)) then (if (Int.tmod a3 (t250.length : Int)) ≤ (t250.length : Int) then ((octet_GetInt.f (t250.take ((Int.tmod a3 (t250.length : Int)) : Int).toNat) 0).bind fun bt263 => (if (t253.length : Int) = 0 then (none) else (if 0 ≤ (Int.tmod a3 (t253.length : Int)) then (if (Int.tmod a3 (t253.length : Int)) ≤ (t253.length : Int) then ((octet_GetText.f (t253.take ((Int.tmod a3 (t253.length : Int)) : Int).toNat) 0 (a1.size : Int)).bind fun bt270 => (if (t256.length : Int) = 0 then (none) else (if 0 ≤ (Int.tmod a3 (t256.length : Int)) then (if (Int.tmod a3 (t256.length : Int)) ≤ (t256.length : Int) then ((octet_GetInts.f (t256.take ((Int.tmod a3 (t256.length : Int)) : Int).toNat) 0 (l2.length : Int)).bind fun bt277 => (if bt263.2.2 = 10 then (if bt270.2.2 = 10 then (some (bt277.2.2 == 10)) else (some false)) else (some false))) else (none)) else (none)))) else (none)) else (none)))) else (none)) else (none))) = some r := by rw [if_neg (show ¬ (false = true) by decide)] at H; exact H
                clear H
                have H := H1
                clear H1
                by_cases c28 : (t250.length : Int) = 0
                · rw [if_pos c28] at H
                  exact absurd H (by simp)
                · rw [if_neg c28] at H
                  have c28b0 : ((t250.length : Int) == 0) = false := beq_eq_false_iff_ne.mpr c28
                  have c28b1 : ((t250.length : Int) != 0) = true := bne_iff_ne.mpr c28
                  have c28b2 : ¬ (t250 = []) := fun h_ => c28 (by rw [h_]; rfl)
                  obtain ⟨ji29, hji29⟩ : ∃ j_ : Int, (Int.tmod a3 (t250.length : Int)) = j_ := ⟨_, rfl⟩
                  replace H : (if 0 ≤ (ji29) then (if (ji29) ≤ (t250.length : Int) then ((octet_GetInt.f (t250.take ((ji29) : Int).toNat) 0).bind fun bt263 => (if (t253.length : Int) = 0 then (none) else (if 0 ≤ (Int.tmod a3 (t253.length : Int)) then (if (Int.tmod a3 (t253.length : Int)) ≤ (t253.length : Int) then ((octet_GetText.f (t253.take ((Int.tmod a3 (t253.length : Int)) : Int).toNat) 0 (a1.size : Int)).bind fun bt270 => (if (t256.length : Int) = 0 then (none) else (if 0 ≤ (Int.tmod a3 (t256.length : Int)) then (if (Int.tmod a3 (t256.length : Int)) ≤ (t256.length : Int) then ((octet_GetInts.f (t256.take ((Int.tmod a3 (t256.length : Int)) : Int).toNat) 0 (l2.length : Int)).bind fun bt277 => (if bt263.2.2 = 10 then (if bt270.2.2 = 10 then (some (bt277.2.2 == 10)) else (some false)) else (some false))) else (none)) else (none)))) else (none)) else (none)))) else (none)) else (none)) = some r := by first | (rw [hji29] at H; exact H) | (simp only [hji29] at H ⊢; exact H)
                  by_cases c30 : 0 ≤ (ji29)
                  · rw [if_pos c30] at H
                    have c30b0 := eq_true c30
                    have c30b1 : decide (0 ≤ (ji29)) = true := decide_eq_true c30
                    clear c30
                    by_cases c31 : (ji29) ≤ (t250.length : Int)
                    · rw [if_pos c31] at H
                      have c31b0 := eq_true c31
                      have c31b1 : decide ((ji29) ≤ (t250.length : Int)) = true := decide_eq_true c31
                      clear c31
                      obtain ⟨y259, hy259⟩ : ∃ y_ : List Int, y_ = (t250.take ((ji29) : Int).toNat) := ⟨_, rfl⟩
                      replace H : ((octet_GetInt.f y259 0).bind fun bt263 => (if (t253.length : Int) = 0 then (none) else (if 0 ≤ (Int.tmod a3 (t253.length : Int)) then (if (Int.tmod a3 (t253.length : Int)) ≤ (t253.length : Int) then ((octet_GetText.f (t253.take ((Int.tmod a3 (t253.length : Int)) : Int).toNat) 0 (a1.size : Int)).bind fun bt270 => (if (t256.length : Int) = 0 then (none) else (if 0 ≤ (Int.tmod a3 (t256.length : Int)) then (if (Int.tmod a3 (t256.length : Int)) ≤ (t256.length : Int) then ((octet_GetInts.f (t256.take ((Int.tmod a3 (t256.length : Int)) : Int).toNat) 0 (l2.length : Int)).bind fun bt277 => (if bt263.2.2 = 10 then (if bt270.2.2 = 10 then (some (bt277.2.2 == 10)) else (some false)) else (some false))) else (none)) else (none)))) else (none)) else (none)))) = some r := by first | (rw [hy259]; with_reducible exact H) | (have H2_ := (Option.bind_some _ _).symm.trans H; rw [hy259]; with_reducible exact H2_) | (have H2_ := (Option.bind_some _ _).symm.trans H; with_reducible exact H2_) | with_reducible exact H | (rw [hy259]; exact H) | exact H
                      have Ny259 := Aside0.mk hy259
                      clear hy259
                      replace H := Option.bind_eq_some_iff.mp H
                      obtain ⟨⟨t263, t264, t265⟩, A320, H⟩ := H
                      replace H : (if (t253.length : Int) = 0 then (none) else (if 0 ≤ (Int.tmod a3 (t253.length : Int)) then (if (Int.tmod a3 (t253.length : Int)) ≤ (t253.length : Int) then ((octet_GetText.f (t253.take ((Int.tmod a3 (t253.length : Int)) : Int).toNat) 0 (a1.size : Int)).bind fun bt270 => (if (t256.length : Int) = 0 then (none) else (if 0 ≤ (Int.tmod a3 (t256.length : Int)) then (if (Int.tmod a3 (t256.length : Int)) ≤ (t256.length : Int) then ((octet_GetInts.f (t256.take ((Int.tmod a3 (t256.length : Int)) : Int).toNat) 0 (l2.length : Int)).bind fun bt277 => (if t265 = 10 then (if bt270.2.2 = 10 then (some (bt277.2.2 == 10)) else (some false)) else (some false))) else (none)) else (none)))) else (none)) else (none))) = some r := H
                      have A32 := Aside0.mk A320
                      clear A320
                      by_cases c33 : (t253.length : Int) = 0
                      · rw [if_pos c33] at H
                        exact absurd H (by simp)
                      · rw [if_neg c33] at H
                        have c33b0 : ((t253.length : Int) == 0) = false := beq_eq_false_iff_ne.mpr c33
                        have c33b1 : ((t253.length : Int) != 0) = true := bne_iff_ne.mpr c33
                        have c33b2 : ¬ (t253 = []) := fun h_ => c33 (by rw [h_]; rfl)
                        obtain ⟨ji34, hji34⟩ : ∃ j_ : Int, (Int.tmod a3 (t253.length : Int)) = j_ := ⟨_, rfl⟩
                        replace H : (if 0 ≤ (ji34) then (if (ji34) ≤ (t253.length : Int) then ((octet_GetText.f (t253.take ((ji34) : Int).toNat) 0 (a1.size : Int)).bind fun bt270 => (if (t256.length : Int) = 0 then (none) else (if 0 ≤ (Int.tmod a3 (t256.length : Int)) then (if (Int.tmod a3 (t256.length : Int)) ≤ (t256.length : Int) then ((octet_GetInts.f (t256.take ((Int.tmod a3 (t256.length : Int)) : Int).toNat) 0 (l2.length : Int)).bind fun bt277 => (if t265 = 10 then (if bt270.2.2 = 10 then (some (bt277.2.2 == 10)) else (some false)) else (some false))) else (none)) else (none)))) else (none)) else (none)) = some r := by first | (rw [hji34] at H; exact H) | (simp only [hji34] at H ⊢; exact H)
                        (try rw [hji34] at A32)
                        by_cases c35 : 0 ≤ (ji34)
                        · rw [if_pos c35] at H
                          have c35b0 := eq_true c35
                          have c35b1 : decide (0 ≤ (ji34)) = true := decide_eq_true c35
                          clear c35
                          by_cases c36 : (ji34) ≤ (t253.length : Int)
                          · rw [if_pos c36] at H
                            have c36b0 := eq_true c36
                            have c36b1 : decide ((ji34) ≤ (t253.length : Int)) = true := decide_eq_true c36
                            clear c36
                            obtain ⟨y266, hy266⟩ : ∃ y_ : List Int, y_ = (t253.take ((ji34) : Int).toNat) := ⟨_, rfl⟩
                            replace H : ((octet_GetText.f y266 0 (a1.size : Int)).bind fun bt270 => (if (t256.length : Int) = 0 then (none) else (if 0 ≤ (Int.tmod a3 (t256.length : Int)) then (if (Int.tmod a3 (t256.length : Int)) ≤ (t256.length : Int) then ((octet_GetInts.f (t256.take ((Int.tmod a3 (t256.length : Int)) : Int).toNat) 0 (l2.length : Int)).bind fun bt277 => (if t265 = 10 then (if bt270.2.2 = 10 then (some (bt277.2.2 == 10)) else (some false)) else (some false))) else (none)) else (none)))) = some r := by first | (rw [hy266]; with_reducible exact H) | (have H2_ := (Option.bind_some _ _).symm.trans H; rw [hy266]; with_reducible exact H2_) | (have H2_ := (Option.bind_some _ _).symm.trans H; with_reducible exact H2_) | with_reducible exact H | (rw [hy266]; exact H) | exact H
                            have Ny266 := Aside0.mk hy266
                            clear hy266
                            replace H := Option.bind_eq_some_iff.mp H
                            obtain ⟨⟨t270, t271, t272⟩, A370, H⟩ := H
                            replace H : (if (t256.length : Int) = 0 then (none) else (if 0 ≤ (Int.tmod a3 (t256.length : Int)) then (if (Int.tmod a3 (t256.length : Int)) ≤ (t256.length : Int) then ((octet_GetInts.f (t256.take ((Int.tmod a3 (t256.length : Int)) : Int).toNat) 0 (l2.length : Int)).bind fun bt277 => (if t265 = 10 then (if t272 = 10 then (some (bt277.2.2 == 10)) else (some false)) else (some false))) else (none)) else (none))) = some r := H
                            have A37 := Aside0.mk A370
                            clear A370
                            by_cases c38 : (t256.length : Int) = 0
                            · rw [if_pos c38] at H
                              exact absurd H (by simp)
                            · rw [if_neg c38] at H
                              have c38b0 : ((t256.length : Int) == 0) = false := beq_eq_false_iff_ne.mpr c38
                              have c38b1 : ((t256.length : Int) != 0) = true := bne_iff_ne.mpr c38
                              have c38b2 : ¬ (t256 = []) := fun h_ => c38 (by rw [h_]; rfl)
                              obtain ⟨ji39, hji39⟩ : ∃ j_ : Int, (Int.tmod a3 (t256.length : Int)) = j_ := ⟨_, rfl⟩
                              replace H : (if 0 ≤ (ji39) then (if (ji39) ≤ (t256.length : Int) then ((octet_GetInts.f (t256.take ((ji39) : Int).toNat) 0 (l2.length : Int)).bind fun bt277 => (if t265 = 10 then (if t272 = 10 then (some (bt277.2.2 == 10)) else (some false)) else (some false))) else (none)) else (none)) = some r := by first | (rw [hji39] at H; exact H) | (simp only [hji39] at H ⊢; exact H)
                              (try rw [hji39] at A32)
                              (try rw [hji39] at A37)
                              by_cases c40 : 0 ≤ (ji39)
                              · rw [if_pos c40] at H
                                have c40b0 := eq_true c40
                                have c40b1 : decide (0 ≤ (ji39)) = true := decide_eq_true c40
                                clear c40
                                by_cases c41 : (ji39) ≤ (t256.length : Int)
                                · rw [if_pos c41] at H
                                  have c41b0 := eq_true c41
                                  have c41b1 : decide ((ji39) ≤ (t256.length : Int)) = true := decide_eq_true c41
                                  clear c41
                                  obtain ⟨y273, hy273⟩ : ∃ y_ : List Int, y_ = (t256.take ((ji39) : Int).toNat) := ⟨_, rfl⟩
                                  replace H : ((octet_GetInts.f y273 0 (l2.length : Int)).bind fun bt277 => (if t265 = 10 then (if t272 = 10 then (some (bt277.2.2 == 10)) else (some false)) else (some false))) = some r := by first | (rw [hy273]; with_reducible exact H) | (have H2_ := (Option.bind_some _ _).symm.trans H; rw [hy273]; with_reducible exact H2_) | (have H2_ := (Option.bind_some _ _).symm.trans H; with_reducible exact H2_) | with_reducible exact H | (rw [hy273]; exact H) | exact H
                                  have Ny273 := Aside0.mk hy273
                                  clear hy273
                                  replace H := Option.bind_eq_some_iff.mp H
                                  obtain ⟨⟨t277, t278, t279⟩, A420, H⟩ := H
                                  replace H : (if t265 = 10 then (if t272 = 10 then (some (t279 == 10)) else (some false)) else (some false)) = some r := H
                                  have A42 := Aside0.mk A420
                                  clear A420
                                  by_cases c43 : t265 = 10
                                  · rw [if_pos c43] at H
                                    have c43b0 : (t265 == 10) = true := beq_iff_eq.mpr c43
                                    have c43b1 : (t265 != 10) = false := bne_eq_false_iff_eq.mpr c43
                                    clear c43
                                    by_cases c44 : t272 = 10
                                    · rw [if_pos c44] at H
                                      have c44b0 : (t272 == 10) = true := beq_iff_eq.mpr c44
                                      have c44b1 : (t272 != 10) = false := bne_eq_false_iff_eq.mpr c44
                                      clear c44
                                      obtain rfl := Option.some.inj H
                                      obtain ⟨Ao45, co45, eo45⟩ := Kd.R_slice HO_9.out
                                      subst eo45
                                      have q46 : ((ji29) : Int) ≤ ((t250.length : Int) : Int) := of_decide_eq_true (by first | (with_reducible assumption) | assumption)
                                      obtain ⟨i046, hi046, _, hsz46, _⟩ := info_parts info5
                                      have hroom46 : t250.length ≤ co45 := (Kd.R_reads' HO_9.out).2.1
                                      have hC46 : Kd.C (Kd.int .u8) _ Ao45 t250.length t250 := (Kd.R_reads' HO_9.out).2.2
                                      have hcut46 := cut_to (P := Try.prog) 22 5 .i64 Try.underlying22 hi046 Ao45 t250.length co45 (ji29) (of_decide_eq_true (by first | (with_reducible assumption) | assumption)) q46 hroom46
                                      have hr46 := Kd.C_take (m := ((ji29) : Int).toNat) hC46 (by omega)
                                      have hy46 : y259.length = ((ji29) : Int).toNat := (by rw [Ny259.out, List.length_take]; omega)
                                      rw [← Ny259.out] at hr46
                                      rw [← hy46] at hcut46
                                      have HR262 := Aside0.mk hr46
                                      have HC262 := Aside0.mk (show y259.length ≤ co45 from by omega)
                                      clear hr46 hC46 hroom46 hi046 hsz46
                                      have KY46 := Aside0.mk hy46
                                      clear hy46
                                      have KL46 := Aside0.mk (show ((ji29) : Int).toNat ≤ t250.length from by omega)
                                      replace q46 := eq_true q46
                                      go_wp2_with (first | ((with_reducible refine gate_callee (f := 13) rfl ?_); refine goesL_ (some 61) rfl rfl Try.func13 (by kernel_rfl) rfl #[.slice Ao45 y259.length co45, .int .i64 0] rfl (by (try simp only [List.map_toArray, List.map_cons, List.map_nil]); first | done | rfl | (simp only [List.length_drop, List.length_take]; rfl)) ?_; (with_reducible refine (octet_GetInt.calls _ _ y259 0 t263 t264 t265 _ ?side1 ?side2 A32.out).mono ?_); (case side1 => repeat (first | exact (by repeat (first | (with_reducible exact HR262.out) | (with_reducible refine Kd.C_alloc ?_ _) | (with_reducible refine Kd.C_drewN ?_ _) | (with_reducible refine Kd.C_drew ?_) | exact HR262.out)) | (with_reducible refine Kd.C_alloc ?_ _) | (with_reducible refine Kd.C_drewN ?_ _) | (with_reducible refine Kd.C_drew ?_))); (case side2 => exact HC262.out); rintro e w' ⟨rfl, ⟨nd, rfl⟩⟩; refine ⟨_, rfl, ?_⟩; obtain ⟨Ao47, co47, eo47⟩ := Kd.R_slice HO_10.out; subst eo47; have q48 : ((ji34) : Int) ≤ ((t253.length : Int) : Int) := of_decide_eq_true (by first | (with_reducible assumption) | assumption); obtain ⟨i048, hi048, _, hsz48, _⟩ := info_parts info5; have hroom48 : t253.length ≤ co47 := (Kd.R_reads' HO_10.out).2.1; have hC48 : Kd.C (Kd.int .u8) _ Ao47 t253.length t253 := (Kd.R_reads' HO_10.out).2.2; have hcut48 := cut_to (P := Try.prog) 22 5 .i64 Try.underlying22 hi048 Ao47 t253.length co47 (ji34) (of_decide_eq_true (by first | (with_reducible assumption) | assumption)) q48 hroom48; have hr48 := Kd.C_take (m := ((ji34) : Int).toNat) hC48 (by omega); have hy48 : y266.length = ((ji34) : Int).toNat := (by rw [Ny266.out, List.length_take]; omega); rw [← Ny266.out] at hr48; rw [← hy48] at hcut48; have HR269 := Aside0.mk hr48; have HC269 := Aside0.mk (show y266.length ≤ co47 from by omega); clear hr48 hC48 hroom48 hi048 hsz48; have KY48 := Aside0.mk hy48; clear hy48; have KL48 := Aside0.mk (show ((ji34) : Int).toNat ≤ t253.length from by omega); replace q48 := eq_true q48) | ((with_reducible refine gate_callee (f := 17) rfl ?_); refine goesL_ (some 74) rfl rfl Try.func17 (by kernel_rfl) rfl #[.slice Ao47 y266.length co47, .int .i64 0, .int .i64 (a1.size : Int)] rfl (by (try simp only [List.map_toArray, List.map_cons, List.map_nil]); first | done | rfl | (simp only [List.length_drop, List.length_take]; rfl)) ?_; (with_reducible refine (octet_GetText.calls _ _ y266 0 (a1.size : Int) t270 t271 t272 _ ?side1 ?side2 A37.out).mono ?_); (case side1 => repeat (first | exact (by repeat (first | (with_reducible exact HR269.out) | (with_reducible refine Kd.C_alloc ?_ _) | (with_reducible refine Kd.C_drewN ?_ _) | (with_reducible refine Kd.C_drew ?_) | exact HR269.out)) | (with_reducible refine Kd.C_alloc ?_ _) | (with_reducible refine Kd.C_drewN ?_ _) | (with_reducible refine Kd.C_drew ?_))); (case side2 => exact HC269.out); rintro e w49 ⟨rfl, hb⟩; refine ⟨_, rfl, ?_⟩; have n0_ := Aside0.mk (Kd.R_below (by (with_reducible repeat (first | apply Kd.R_alloc | apply Kd.R_drewN | apply Kd.R_drew)); exact HO_9.out) hb); have n1_ := Aside0.mk (Kd.R_below (by (with_reducible repeat (first | apply Kd.R_alloc | apply Kd.R_drewN | apply Kd.R_drew)); exact HO_10.out) hb); have n2_ := Aside0.mk (Kd.R_below (by (with_reducible repeat (first | apply Kd.R_alloc | apply Kd.R_drewN | apply Kd.R_drew)); exact HO_11.out) hb); have n3_ := Aside0.mk (Kd.C_below (by repeat (first | (with_reducible exact HR262.out) | (with_reducible refine Kd.C_alloc ?_ _) | (with_reducible refine Kd.C_drewN ?_ _) | (with_reducible refine Kd.C_drew ?_) | exact HR262.out)) hb); have n4_ := Aside0.mk (Kd.C_below (by repeat (first | (with_reducible exact HR269.out) | (with_reducible refine Kd.C_alloc ?_ _) | (with_reducible refine Kd.C_drewN ?_ _) | (with_reducible refine Kd.C_drew ?_) | exact HR269.out)) hb); have n5_ := Aside0.mk (below_step (by repeat (first | (with_reducible first | exact HB.out | apply below_alloc | apply pw_below_drewN | apply below_drew1) | exact HB.out)) hb); clear HO_9; clear HO_10; clear HO_11; clear HR262; clear HR269; clear HB; have HO_9 := n0_; have HO_10 := n1_; have HO_11 := n2_; have HR262 := n3_; have HR269 := n4_; have HB := n5_; clear n0_ n1_ n2_ n3_ n4_ n5_; (try clear hb); (try clear hb2); (try clear hk); (try clear hi); obtain ⟨Ao50, co50, eo50⟩ := Kd.R_slice HO_11.out; subst eo50; have q51 : ((ji39) : Int) ≤ ((t256.length : Int) : Int) := of_decide_eq_true (by first | (with_reducible assumption) | assumption); obtain ⟨i051, hi051, _, hsz51, _⟩ := info_parts info5; have hroom51 : t256.length ≤ co50 := (Kd.R_reads' HO_11.out).2.1; have hC51 : Kd.C (Kd.int .u8) _ Ao50 t256.length t256 := (Kd.R_reads' HO_11.out).2.2; have hcut51 := cut_to (P := Try.prog) 22 5 .i64 Try.underlying22 hi051 Ao50 t256.length co50 (ji39) (of_decide_eq_true (by first | (with_reducible assumption) | assumption)) q51 hroom51; have hr51 := Kd.C_take (m := ((ji39) : Int).toNat) hC51 (by omega); have hy51 : y273.length = ((ji39) : Int).toNat := (by rw [Ny273.out, List.length_take]; omega); rw [← Ny273.out] at hr51; rw [← hy51] at hcut51; have HR276 := Aside0.mk hr51; have HC276 := Aside0.mk (show y273.length ≤ co50 from by omega); clear hr51 hC51 hroom51 hi051 hsz51; have KY51 := Aside0.mk hy51; clear hy51; have KL51 := Aside0.mk (show ((ji39) : Int).toNat ≤ t256.length from by omega); replace q51 := eq_true q51) | ((with_reducible refine gate_callee (f := 21) rfl ?_); refine goesL_ (some 87) rfl rfl Try.func21 (by kernel_rfl) rfl #[.slice Ao50 y273.length co50, .int .i64 0, .int .i64 (l2.length : Int)] rfl (by (try simp only [List.map_toArray, List.map_cons, List.map_nil]); first | done | rfl | (simp only [List.length_drop, List.length_take]; rfl)) ?_; (with_reducible refine (octet_GetInts.calls _ _ y273 0 (l2.length : Int) t277 t278 t279 _ ?side1 ?side2 A42.out).mono ?_); (case side1 => repeat (first | exact (by repeat (first | (with_reducible exact HR276.out) | (with_reducible refine Kd.C_alloc ?_ _) | (with_reducible refine Kd.C_drewN ?_ _) | (with_reducible refine Kd.C_drew ?_) | exact HR276.out)) | (with_reducible refine Kd.C_alloc ?_ _) | (with_reducible refine Kd.C_drewN ?_ _) | (with_reducible refine Kd.C_drew ?_))); (case side2 => exact HC276.out); rintro e w52 ⟨v280, rfl, ho0, hb⟩; refine ⟨_, rfl, ?_⟩; have n0_ := Aside0.mk (Kd.R_below (by (with_reducible repeat (first | apply Kd.R_alloc | apply Kd.R_drewN | apply Kd.R_drew)); exact HO_9.out) hb); have n1_ := Aside0.mk (Kd.R_below (by (with_reducible repeat (first | apply Kd.R_alloc | apply Kd.R_drewN | apply Kd.R_drew)); exact HO_10.out) hb); have n2_ := Aside0.mk (Kd.R_below (by (with_reducible repeat (first | apply Kd.R_alloc | apply Kd.R_drewN | apply Kd.R_drew)); exact HO_11.out) hb); have n3_ := Aside0.mk (Kd.R_lower ho0 (below_size (by repeat (first | (with_reducible first | exact HB.out | apply below_alloc | apply pw_below_drewN | apply below_drew1) | exact HB.out)))); have n4_ := Aside0.mk (Kd.C_below (by repeat (first | (with_reducible exact HR262.out) | (with_reducible refine Kd.C_alloc ?_ _) | (with_reducible refine Kd.C_drewN ?_ _) | (with_reducible refine Kd.C_drew ?_) | exact HR262.out)) hb); have n5_ := Aside0.mk (Kd.C_below (by repeat (first | (with_reducible exact HR269.out) | (with_reducible refine Kd.C_alloc ?_ _) | (with_reducible refine Kd.C_drewN ?_ _) | (with_reducible refine Kd.C_drew ?_) | exact HR269.out)) hb); have n6_ := Aside0.mk (Kd.C_below (by repeat (first | (with_reducible exact HR276.out) | (with_reducible refine Kd.C_alloc ?_ _) | (with_reducible refine Kd.C_drewN ?_ _) | (with_reducible refine Kd.C_drew ?_) | exact HR276.out)) hb); have n7_ := Aside0.mk (below_step (by repeat (first | (with_reducible first | exact HB.out | apply below_alloc | apply pw_below_drewN | apply below_drew1) | exact HB.out)) hb); clear HO_9; clear HO_10; clear HO_11; clear HR262; clear HR269; clear HR276; clear HB; have HO_9 := n0_; have HO_10 := n1_; have HO_11 := n2_; have HO281 := n3_; have HR262 := n4_; have HR269 := n5_; have HR276 := n6_; have HB := n7_; clear n0_ n1_ n2_ n3_ n4_ n5_ n6_ n7_; (try clear hb); (try clear hb2); (try clear hk); (try clear hi); (try clear ho0)))
                                      go_ret
                                      exact ⟨by first | rfl | (simp [errW_none, errW_some] <;> rfl) | (simp only [← hji29, ← hji34, ← hji39]; first | rfl | (simp [errW_none, errW_some] <;> rfl)) | (simp [*, errW_none, errW_some] <;> rfl), by repeat (first | (with_reducible first | exact HB.out | apply below_alloc | apply pw_below_drewN | apply below_drew1) | exact HB.out)⟩
                                    · rw [if_neg c44] at H
                                      have c44b0 : (t272 == 10) = false := beq_eq_false_iff_ne.mpr c44
                                      have c44b1 : (t272 != 10) = true := bne_iff_ne.mpr c44
                                      obtain rfl := Option.some.inj H
                                      obtain ⟨Ao53, co53, eo53⟩ := Kd.R_slice HO_9.out
                                      subst eo53
                                      have q54 : ((ji29) : Int) ≤ ((t250.length : Int) : Int) := of_decide_eq_true (by first | (with_reducible assumption) | assumption)
                                      obtain ⟨i054, hi054, _, hsz54, _⟩ := info_parts info5
                                      have hroom54 : t250.length ≤ co53 := (Kd.R_reads' HO_9.out).2.1
                                      have hC54 : Kd.C (Kd.int .u8) _ Ao53 t250.length t250 := (Kd.R_reads' HO_9.out).2.2
                                      have hcut54 := cut_to (P := Try.prog) 22 5 .i64 Try.underlying22 hi054 Ao53 t250.length co53 (ji29) (of_decide_eq_true (by first | (with_reducible assumption) | assumption)) q54 hroom54
                                      have hr54 := Kd.C_take (m := ((ji29) : Int).toNat) hC54 (by omega)
                                      have hy54 : y259.length = ((ji29) : Int).toNat := (by rw [Ny259.out, List.length_take]; omega)
                                      rw [← Ny259.out] at hr54
                                      rw [← hy54] at hcut54
                                      have HR262 := Aside0.mk hr54
                                      have HC262 := Aside0.mk (show y259.length ≤ co53 from by omega)
                                      clear hr54 hC54 hroom54 hi054 hsz54
                                      have KY54 := Aside0.mk hy54
                                      clear hy54
                                      have KL54 := Aside0.mk (show ((ji29) : Int).toNat ≤ t250.length from by omega)
                                      replace q54 := eq_true q54
                                      go_wp2_with (first | ((with_reducible refine gate_callee (f := 13) rfl ?_); refine goesL_ (some 61) rfl rfl Try.func13 (by kernel_rfl) rfl #[.slice Ao53 y259.length co53, .int .i64 0] rfl (by (try simp only [List.map_toArray, List.map_cons, List.map_nil]); first | done | rfl | (simp only [List.length_drop, List.length_take]; rfl)) ?_; (with_reducible refine (octet_GetInt.calls _ _ y259 0 t263 t264 t265 _ ?side1 ?side2 A32.out).mono ?_); (case side1 => repeat (first | exact (by repeat (first | (with_reducible exact HR262.out) | (with_reducible refine Kd.C_alloc ?_ _) | (with_reducible refine Kd.C_drewN ?_ _) | (with_reducible refine Kd.C_drew ?_) | exact HR262.out)) | (with_reducible refine Kd.C_alloc ?_ _) | (with_reducible refine Kd.C_drewN ?_ _) | (with_reducible refine Kd.C_drew ?_))); (case side2 => exact HC262.out); rintro e w' ⟨rfl, ⟨nd, rfl⟩⟩; refine ⟨_, rfl, ?_⟩; obtain ⟨Ao55, co55, eo55⟩ := Kd.R_slice HO_10.out; subst eo55; have q56 : ((ji34) : Int) ≤ ((t253.length : Int) : Int) := of_decide_eq_true (by first | (with_reducible assumption) | assumption); obtain ⟨i056, hi056, _, hsz56, _⟩ := info_parts info5; have hroom56 : t253.length ≤ co55 := (Kd.R_reads' HO_10.out).2.1; have hC56 : Kd.C (Kd.int .u8) _ Ao55 t253.length t253 := (Kd.R_reads' HO_10.out).2.2; have hcut56 := cut_to (P := Try.prog) 22 5 .i64 Try.underlying22 hi056 Ao55 t253.length co55 (ji34) (of_decide_eq_true (by first | (with_reducible assumption) | assumption)) q56 hroom56; have hr56 := Kd.C_take (m := ((ji34) : Int).toNat) hC56 (by omega); have hy56 : y266.length = ((ji34) : Int).toNat := (by rw [Ny266.out, List.length_take]; omega); rw [← Ny266.out] at hr56; rw [← hy56] at hcut56; have HR269 := Aside0.mk hr56; have HC269 := Aside0.mk (show y266.length ≤ co55 from by omega); clear hr56 hC56 hroom56 hi056 hsz56; have KY56 := Aside0.mk hy56; clear hy56; have KL56 := Aside0.mk (show ((ji34) : Int).toNat ≤ t253.length from by omega); replace q56 := eq_true q56) | ((with_reducible refine gate_callee (f := 17) rfl ?_); refine goesL_ (some 74) rfl rfl Try.func17 (by kernel_rfl) rfl #[.slice Ao55 y266.length co55, .int .i64 0, .int .i64 (a1.size : Int)] rfl (by (try simp only [List.map_toArray, List.map_cons, List.map_nil]); first | done | rfl | (simp only [List.length_drop, List.length_take]; rfl)) ?_; (with_reducible refine (octet_GetText.calls _ _ y266 0 (a1.size : Int) t270 t271 t272 _ ?side1 ?side2 A37.out).mono ?_); (case side1 => repeat (first | exact (by repeat (first | (with_reducible exact HR269.out) | (with_reducible refine Kd.C_alloc ?_ _) | (with_reducible refine Kd.C_drewN ?_ _) | (with_reducible refine Kd.C_drew ?_) | exact HR269.out)) | (with_reducible refine Kd.C_alloc ?_ _) | (with_reducible refine Kd.C_drewN ?_ _) | (with_reducible refine Kd.C_drew ?_))); (case side2 => exact HC269.out); rintro e w57 ⟨rfl, hb⟩; refine ⟨_, rfl, ?_⟩; have n0_ := Aside0.mk (Kd.R_below (by (with_reducible repeat (first | apply Kd.R_alloc | apply Kd.R_drewN | apply Kd.R_drew)); exact HO_9.out) hb); have n1_ := Aside0.mk (Kd.R_below (by (with_reducible repeat (first | apply Kd.R_alloc | apply Kd.R_drewN | apply Kd.R_drew)); exact HO_10.out) hb); have n2_ := Aside0.mk (Kd.R_below (by (with_reducible repeat (first | apply Kd.R_alloc | apply Kd.R_drewN | apply Kd.R_drew)); exact HO_11.out) hb); have n3_ := Aside0.mk (Kd.C_below (by repeat (first | (with_reducible exact HR262.out) | (with_reducible refine Kd.C_alloc ?_ _) | (with_reducible refine Kd.C_drewN ?_ _) | (with_reducible refine Kd.C_drew ?_) | exact HR262.out)) hb); have n4_ := Aside0.mk (Kd.C_below (by repeat (first | (with_reducible exact HR269.out) | (with_reducible refine Kd.C_alloc ?_ _) | (with_reducible refine Kd.C_drewN ?_ _) | (with_reducible refine Kd.C_drew ?_) | exact HR269.out)) hb); have n5_ := Aside0.mk (below_step (by repeat (first | (with_reducible first | exact HB.out | apply below_alloc | apply pw_below_drewN | apply below_drew1) | exact HB.out)) hb); clear HO_9; clear HO_10; clear HO_11; clear HR262; clear HR269; clear HB; have HO_9 := n0_; have HO_10 := n1_; have HO_11 := n2_; have HR262 := n3_; have HR269 := n4_; have HB := n5_; clear n0_ n1_ n2_ n3_ n4_ n5_; (try clear hb); (try clear hb2); (try clear hk); (try clear hi); obtain ⟨Ao58, co58, eo58⟩ := Kd.R_slice HO_11.out; subst eo58; have q59 : ((ji39) : Int) ≤ ((t256.length : Int) : Int) := of_decide_eq_true (by first | (with_reducible assumption) | assumption); obtain ⟨i059, hi059, _, hsz59, _⟩ := info_parts info5; have hroom59 : t256.length ≤ co58 := (Kd.R_reads' HO_11.out).2.1; have hC59 : Kd.C (Kd.int .u8) _ Ao58 t256.length t256 := (Kd.R_reads' HO_11.out).2.2; have hcut59 := cut_to (P := Try.prog) 22 5 .i64 Try.underlying22 hi059 Ao58 t256.length co58 (ji39) (of_decide_eq_true (by first | (with_reducible assumption) | assumption)) q59 hroom59; have hr59 := Kd.C_take (m := ((ji39) : Int).toNat) hC59 (by omega); have hy59 : y273.length = ((ji39) : Int).toNat := (by rw [Ny273.out, List.length_take]; omega); rw [← Ny273.out] at hr59; rw [← hy59] at hcut59; have HR276 := Aside0.mk hr59; have HC276 := Aside0.mk (show y273.length ≤ co58 from by omega); clear hr59 hC59 hroom59 hi059 hsz59; have KY59 := Aside0.mk hy59; clear hy59; have KL59 := Aside0.mk (show ((ji39) : Int).toNat ≤ t256.length from by omega); replace q59 := eq_true q59) | ((with_reducible refine gate_callee (f := 21) rfl ?_); refine goesL_ (some 87) rfl rfl Try.func21 (by kernel_rfl) rfl #[.slice Ao58 y273.length co58, .int .i64 0, .int .i64 (l2.length : Int)] rfl (by (try simp only [List.map_toArray, List.map_cons, List.map_nil]); first | done | rfl | (simp only [List.length_drop, List.length_take]; rfl)) ?_; (with_reducible refine (octet_GetInts.calls _ _ y273 0 (l2.length : Int) t277 t278 t279 _ ?side1 ?side2 A42.out).mono ?_); (case side1 => repeat (first | exact (by repeat (first | (with_reducible exact HR276.out) | (with_reducible refine Kd.C_alloc ?_ _) | (with_reducible refine Kd.C_drewN ?_ _) | (with_reducible refine Kd.C_drew ?_) | exact HR276.out)) | (with_reducible refine Kd.C_alloc ?_ _) | (with_reducible refine Kd.C_drewN ?_ _) | (with_reducible refine Kd.C_drew ?_))); (case side2 => exact HC276.out); rintro e w60 ⟨v280, rfl, ho0, hb⟩; refine ⟨_, rfl, ?_⟩; have n0_ := Aside0.mk (Kd.R_below (by (with_reducible repeat (first | apply Kd.R_alloc | apply Kd.R_drewN | apply Kd.R_drew)); exact HO_9.out) hb); have n1_ := Aside0.mk (Kd.R_below (by (with_reducible repeat (first | apply Kd.R_alloc | apply Kd.R_drewN | apply Kd.R_drew)); exact HO_10.out) hb); have n2_ := Aside0.mk (Kd.R_below (by (with_reducible repeat (first | apply Kd.R_alloc | apply Kd.R_drewN | apply Kd.R_drew)); exact HO_11.out) hb); have n3_ := Aside0.mk (Kd.R_lower ho0 (below_size (by repeat (first | (with_reducible first | exact HB.out | apply below_alloc | apply pw_below_drewN | apply below_drew1) | exact HB.out)))); have n4_ := Aside0.mk (Kd.C_below (by repeat (first | (with_reducible exact HR262.out) | (with_reducible refine Kd.C_alloc ?_ _) | (with_reducible refine Kd.C_drewN ?_ _) | (with_reducible refine Kd.C_drew ?_) | exact HR262.out)) hb); have n5_ := Aside0.mk (Kd.C_below (by repeat (first | (with_reducible exact HR269.out) | (with_reducible refine Kd.C_alloc ?_ _) | (with_reducible refine Kd.C_drewN ?_ _) | (with_reducible refine Kd.C_drew ?_) | exact HR269.out)) hb); have n6_ := Aside0.mk (Kd.C_below (by repeat (first | (with_reducible exact HR276.out) | (with_reducible refine Kd.C_alloc ?_ _) | (with_reducible refine Kd.C_drewN ?_ _) | (with_reducible refine Kd.C_drew ?_) | exact HR276.out)) hb); have n7_ := Aside0.mk (below_step (by repeat (first | (with_reducible first | exact HB.out | apply below_alloc | apply pw_below_drewN | apply below_drew1) | exact HB.out)) hb); clear HO_9; clear HO_10; clear HO_11; clear HR262; clear HR269; clear HR276; clear HB; have HO_9 := n0_; have HO_10 := n1_; have HO_11 := n2_; have HO281 := n3_; have HR262 := n4_; have HR269 := n5_; have HR276 := n6_; have HB := n7_; clear n0_ n1_ n2_ n3_ n4_ n5_ n6_ n7_; (try clear hb); (try clear hb2); (try clear hk); (try clear hi); (try clear ho0)))
                                      go_ret
                                      exact ⟨by first | rfl | (simp [errW_none, errW_some] <;> rfl) | (simp only [← hji29, ← hji34, ← hji39]; first | rfl | (simp [errW_none, errW_some] <;> rfl)) | (simp [*, errW_none, errW_some] <;> rfl), by repeat (first | (with_reducible first | exact HB.out | apply below_alloc | apply pw_below_drewN | apply below_drew1) | exact HB.out)⟩
                                  · rw [if_neg c43] at H
                                    have c43b0 : (t265 == 10) = false := beq_eq_false_iff_ne.mpr c43
                                    have c43b1 : (t265 != 10) = true := bne_iff_ne.mpr c43
                                    obtain rfl := Option.some.inj H
                                    obtain ⟨Ao61, co61, eo61⟩ := Kd.R_slice HO_9.out
                                    subst eo61
                                    have q62 : ((ji29) : Int) ≤ ((t250.length : Int) : Int) := of_decide_eq_true (by first | (with_reducible assumption) | assumption)
                                    obtain ⟨i062, hi062, _, hsz62, _⟩ := info_parts info5
                                    have hroom62 : t250.length ≤ co61 := (Kd.R_reads' HO_9.out).2.1
                                    have hC62 : Kd.C (Kd.int .u8) _ Ao61 t250.length t250 := (Kd.R_reads' HO_9.out).2.2
                                    have hcut62 := cut_to (P := Try.prog) 22 5 .i64 Try.underlying22 hi062 Ao61 t250.length co61 (ji29) (of_decide_eq_true (by first | (with_reducible assumption) | assumption)) q62 hroom62
                                    have hr62 := Kd.C_take (m := ((ji29) : Int).toNat) hC62 (by omega)
                                    have hy62 : y259.length = ((ji29) : Int).toNat := (by rw [Ny259.out, List.length_take]; omega)
                                    rw [← Ny259.out] at hr62
                                    rw [← hy62] at hcut62
                                    have HR262 := Aside0.mk hr62
                                    have HC262 := Aside0.mk (show y259.length ≤ co61 from by omega)
                                    clear hr62 hC62 hroom62 hi062 hsz62
                                    have KY62 := Aside0.mk hy62
                                    clear hy62
                                    have KL62 := Aside0.mk (show ((ji29) : Int).toNat ≤ t250.length from by omega)
                                    replace q62 := eq_true q62
                                    go_wp2_with (first | ((with_reducible refine gate_callee (f := 13) rfl ?_); refine goesL_ (some 61) rfl rfl Try.func13 (by kernel_rfl) rfl #[.slice Ao61 y259.length co61, .int .i64 0] rfl (by (try simp only [List.map_toArray, List.map_cons, List.map_nil]); first | done | rfl | (simp only [List.length_drop, List.length_take]; rfl)) ?_; (with_reducible refine (octet_GetInt.calls _ _ y259 0 t263 t264 t265 _ ?side1 ?side2 A32.out).mono ?_); (case side1 => repeat (first | exact (by repeat (first | (with_reducible exact HR262.out) | (with_reducible refine Kd.C_alloc ?_ _) | (with_reducible refine Kd.C_drewN ?_ _) | (with_reducible refine Kd.C_drew ?_) | exact HR262.out)) | (with_reducible refine Kd.C_alloc ?_ _) | (with_reducible refine Kd.C_drewN ?_ _) | (with_reducible refine Kd.C_drew ?_))); (case side2 => exact HC262.out); rintro e w' ⟨rfl, ⟨nd, rfl⟩⟩; refine ⟨_, rfl, ?_⟩; obtain ⟨Ao63, co63, eo63⟩ := Kd.R_slice HO_10.out; subst eo63; have q64 : ((ji34) : Int) ≤ ((t253.length : Int) : Int) := of_decide_eq_true (by first | (with_reducible assumption) | assumption); obtain ⟨i064, hi064, _, hsz64, _⟩ := info_parts info5; have hroom64 : t253.length ≤ co63 := (Kd.R_reads' HO_10.out).2.1; have hC64 : Kd.C (Kd.int .u8) _ Ao63 t253.length t253 := (Kd.R_reads' HO_10.out).2.2; have hcut64 := cut_to (P := Try.prog) 22 5 .i64 Try.underlying22 hi064 Ao63 t253.length co63 (ji34) (of_decide_eq_true (by first | (with_reducible assumption) | assumption)) q64 hroom64; have hr64 := Kd.C_take (m := ((ji34) : Int).toNat) hC64 (by omega); have hy64 : y266.length = ((ji34) : Int).toNat := (by rw [Ny266.out, List.length_take]; omega); rw [← Ny266.out] at hr64; rw [← hy64] at hcut64; have HR269 := Aside0.mk hr64; have HC269 := Aside0.mk (show y266.length ≤ co63 from by omega); clear hr64 hC64 hroom64 hi064 hsz64; have KY64 := Aside0.mk hy64; clear hy64; have KL64 := Aside0.mk (show ((ji34) : Int).toNat ≤ t253.length from by omega); replace q64 := eq_true q64) | ((with_reducible refine gate_callee (f := 17) rfl ?_); refine goesL_ (some 74) rfl rfl Try.func17 (by kernel_rfl) rfl #[.slice Ao63 y266.length co63, .int .i64 0, .int .i64 (a1.size : Int)] rfl (by (try simp only [List.map_toArray, List.map_cons, List.map_nil]); first | done | rfl | (simp only [List.length_drop, List.length_take]; rfl)) ?_; (with_reducible refine (octet_GetText.calls _ _ y266 0 (a1.size : Int) t270 t271 t272 _ ?side1 ?side2 A37.out).mono ?_); (case side1 => repeat (first | exact (by repeat (first | (with_reducible exact HR269.out) | (with_reducible refine Kd.C_alloc ?_ _) | (with_reducible refine Kd.C_drewN ?_ _) | (with_reducible refine Kd.C_drew ?_) | exact HR269.out)) | (with_reducible refine Kd.C_alloc ?_ _) | (with_reducible refine Kd.C_drewN ?_ _) | (with_reducible refine Kd.C_drew ?_))); (case side2 => exact HC269.out); rintro e w65 ⟨rfl, hb⟩; refine ⟨_, rfl, ?_⟩; have n0_ := Aside0.mk (Kd.R_below (by (with_reducible repeat (first | apply Kd.R_alloc | apply Kd.R_drewN | apply Kd.R_drew)); exact HO_9.out) hb); have n1_ := Aside0.mk (Kd.R_below (by (with_reducible repeat (first | apply Kd.R_alloc | apply Kd.R_drewN | apply Kd.R_drew)); exact HO_10.out) hb); have n2_ := Aside0.mk (Kd.R_below (by (with_reducible repeat (first | apply Kd.R_alloc | apply Kd.R_drewN | apply Kd.R_drew)); exact HO_11.out) hb); have n3_ := Aside0.mk (Kd.C_below (by repeat (first | (with_reducible exact HR262.out) | (with_reducible refine Kd.C_alloc ?_ _) | (with_reducible refine Kd.C_drewN ?_ _) | (with_reducible refine Kd.C_drew ?_) | exact HR262.out)) hb); have n4_ := Aside0.mk (Kd.C_below (by repeat (first | (with_reducible exact HR269.out) | (with_reducible refine Kd.C_alloc ?_ _) | (with_reducible refine Kd.C_drewN ?_ _) | (with_reducible refine Kd.C_drew ?_) | exact HR269.out)) hb); have n5_ := Aside0.mk (below_step (by repeat (first | (with_reducible first | exact HB.out | apply below_alloc | apply pw_below_drewN | apply below_drew1) | exact HB.out)) hb); clear HO_9; clear HO_10; clear HO_11; clear HR262; clear HR269; clear HB; have HO_9 := n0_; have HO_10 := n1_; have HO_11 := n2_; have HR262 := n3_; have HR269 := n4_; have HB := n5_; clear n0_ n1_ n2_ n3_ n4_ n5_; (try clear hb); (try clear hb2); (try clear hk); (try clear hi); obtain ⟨Ao66, co66, eo66⟩ := Kd.R_slice HO_11.out; subst eo66; have q67 : ((ji39) : Int) ≤ ((t256.length : Int) : Int) := of_decide_eq_true (by first | (with_reducible assumption) | assumption); obtain ⟨i067, hi067, _, hsz67, _⟩ := info_parts info5; have hroom67 : t256.length ≤ co66 := (Kd.R_reads' HO_11.out).2.1; have hC67 : Kd.C (Kd.int .u8) _ Ao66 t256.length t256 := (Kd.R_reads' HO_11.out).2.2; have hcut67 := cut_to (P := Try.prog) 22 5 .i64 Try.underlying22 hi067 Ao66 t256.length co66 (ji39) (of_decide_eq_true (by first | (with_reducible assumption) | assumption)) q67 hroom67; have hr67 := Kd.C_take (m := ((ji39) : Int).toNat) hC67 (by omega); have hy67 : y273.length = ((ji39) : Int).toNat := (by rw [Ny273.out, List.length_take]; omega); rw [← Ny273.out] at hr67; rw [← hy67] at hcut67; have HR276 := Aside0.mk hr67; have HC276 := Aside0.mk (show y273.length ≤ co66 from by omega); clear hr67 hC67 hroom67 hi067 hsz67; have KY67 := Aside0.mk hy67; clear hy67; have KL67 := Aside0.mk (show ((ji39) : Int).toNat ≤ t256.length from by omega); replace q67 := eq_true q67) | ((with_reducible refine gate_callee (f := 21) rfl ?_); refine goesL_ (some 87) rfl rfl Try.func21 (by kernel_rfl) rfl #[.slice Ao66 y273.length co66, .int .i64 0, .int .i64 (l2.length : Int)] rfl (by (try simp only [List.map_toArray, List.map_cons, List.map_nil]); first | done | rfl | (simp only [List.length_drop, List.length_take]; rfl)) ?_; (with_reducible refine (octet_GetInts.calls _ _ y273 0 (l2.length : Int) t277 t278 t279 _ ?side1 ?side2 A42.out).mono ?_); (case side1 => repeat (first | exact (by repeat (first | (with_reducible exact HR276.out) | (with_reducible refine Kd.C_alloc ?_ _) | (with_reducible refine Kd.C_drewN ?_ _) | (with_reducible refine Kd.C_drew ?_) | exact HR276.out)) | (with_reducible refine Kd.C_alloc ?_ _) | (with_reducible refine Kd.C_drewN ?_ _) | (with_reducible refine Kd.C_drew ?_))); (case side2 => exact HC276.out); rintro e w68 ⟨v280, rfl, ho0, hb⟩; refine ⟨_, rfl, ?_⟩; have n0_ := Aside0.mk (Kd.R_below (by (with_reducible repeat (first | apply Kd.R_alloc | apply Kd.R_drewN | apply Kd.R_drew)); exact HO_9.out) hb); have n1_ := Aside0.mk (Kd.R_below (by (with_reducible repeat (first | apply Kd.R_alloc | apply Kd.R_drewN | apply Kd.R_drew)); exact HO_10.out) hb); have n2_ := Aside0.mk (Kd.R_below (by (with_reducible repeat (first | apply Kd.R_alloc | apply Kd.R_drewN | apply Kd.R_drew)); exact HO_11.out) hb); have n3_ := Aside0.mk (Kd.R_lower ho0 (below_size (by repeat (first | (with_reducible first | exact HB.out | apply below_alloc | apply pw_below_drewN | apply below_drew1) | exact HB.out)))); have n4_ := Aside0.mk (Kd.C_below (by repeat (first | (with_reducible exact HR262.out) | (with_reducible refine Kd.C_alloc ?_ _) | (with_reducible refine Kd.C_drewN ?_ _) | (with_reducible refine Kd.C_drew ?_) | exact HR262.out)) hb); have n5_ := Aside0.mk (Kd.C_below (by repeat (first | (with_reducible exact HR269.out) | (with_reducible refine Kd.C_alloc ?_ _) | (with_reducible refine Kd.C_drewN ?_ _) | (with_reducible refine Kd.C_drew ?_) | exact HR269.out)) hb); have n6_ := Aside0.mk (Kd.C_below (by repeat (first | (with_reducible exact HR276.out) | (with_reducible refine Kd.C_alloc ?_ _) | (with_reducible refine Kd.C_drewN ?_ _) | (with_reducible refine Kd.C_drew ?_) | exact HR276.out)) hb); have n7_ := Aside0.mk (below_step (by repeat (first | (with_reducible first | exact HB.out | apply below_alloc | apply pw_below_drewN | apply below_drew1) | exact HB.out)) hb); clear HO_9; clear HO_10; clear HO_11; clear HR262; clear HR269; clear HR276; clear HB; have HO_9 := n0_; have HO_10 := n1_; have HO_11 := n2_; have HO281 := n3_; have HR262 := n4_; have HR269 := n5_; have HR276 := n6_; have HB := n7_; clear n0_ n1_ n2_ n3_ n4_ n5_ n6_ n7_; (try clear hb); (try clear hb2); (try clear hk); (try clear hi); (try clear ho0)))
                                    go_ret
                                    exact ⟨by first | rfl | (simp [errW_none, errW_some] <;> rfl) | (simp only [← hji29, ← hji34, ← hji39]; first | rfl | (simp [errW_none, errW_some] <;> rfl)) | (simp [*, errW_none, errW_some] <;> rfl), by repeat (first | (with_reducible first | exact HB.out | apply below_alloc | apply pw_below_drewN | apply below_drew1) | exact HB.out)⟩
                                · rw [if_neg c41] at H
                                  exact absurd H (by simp)
                              · rw [if_neg c40] at H
                                exact absurd H (by simp)
                          · rw [if_neg c36] at H
                            exact absurd H (by simp)
                        · rw [if_neg c35] at H
                          exact absurd H (by simp)
                    · rw [if_neg c31] at H
                      exact absurd H (by simp)
                  · rw [if_neg c30] at H
                    exact absurd H (by simp)
  · replace c6 := Bool.eq_false_iff.mpr c6
    subst c6
    have H1 : (some false) = some r := by rw [if_neg (show ¬ (false = true) by decide)] at H; exact H
    clear H
    have H := H1
    clear H1
    obtain rfl := Option.some.inj H
    go_enter Try.func8, Try.ntmps8
    go_wp2_with (first | ((with_reducible refine gate_callee (f := 11) rfl ?_); refine goesL_ (some 21) rfl rfl Try.func11 (by kernel_rfl) rfl #[] rfl (by (try simp only [List.map_toArray, List.map_cons, List.map_nil]); first | done | rfl | (simp only [List.length_drop, List.length_take]; rfl)) ?_; (with_reducible refine (chalklinelaw01_live.calls  false _ A5.out).mono ?_); rintro e w69 ⟨rfl, hb⟩; refine ⟨_, rfl, ?_⟩; have n0_ := Aside0.mk (below_step (by repeat (first | (with_reducible first | exact HB.out | apply below_alloc | apply pw_below_drewN | apply below_drew1) | exact HB.out)) hb); clear HB; have HB := n0_; clear n0_; (try clear hb); (try clear hb2); (try clear hk); (try clear hi)))
    go_ret
    exact ⟨by first | rfl | (simp [errW_none, errW_some] <;> rfl) | (simp [*, errW_none, errW_some] <;> rfl), by repeat (first | (with_reducible first | exact HB.out | apply below_alloc | apply pw_below_drewN | apply below_drew1) | exact HB.out)⟩

/-- THE ONE PURE STATEMENT of chalklinelaw01_OctetTruncated: yours. -/
def chalklinelaw01_OctetTruncated.Pure : Prop := ∀ (a0 : Int) (a1 : ByteArray) (l2 : List Int) (a3 : Int), (Lit.int .i64 a0).wf = true → a1.size ≤ 140737488351232 → l2.length ≤ maxLen → l2.length * 8 ≤ 140737488351232 → (∀ x ∈ l2, (Lit.int .i64 x).wf = true) → (Lit.int .i64 a3).wf = true → ∃ k, chalklinelaw01_OctetTruncated.f k a0 a1 l2 a3 = some true
theorem chalklinelaw01_OctetTruncated.walk (P : chalklinelaw01_OctetTruncated.Pure) (a0 : Int) (a1 : ByteArray) (a2 : Option Addr) (len2 cap2 : Nat) (z2 : List Int) (a3 : Int) (w : World) (w0 : (Lit.int .i64 a0).wf = true) (w1 : a1.size ≤ 140737488351232) (w2 : (a2 = none ∧ len2 = 0 ∧ cap2 = 0 ∧ z2 = []) ∨ ∃ x, a2 = some x ∧ len2 ≤ cap2 ∧ cap2 ≤ maxLen ∧ z2.length = cap2 ∧ (∀ i, i < z2.length → w.cell? (x.add i) = some (.int .i64 (z2.getD i 0))) ∧ ∀ n ∈ z2, (Lit.int .i64 n).wf = true) (y2 : len2 * 8 ≤ 140737488351232) (w3 : (Lit.int .i64 a3).wf = true) :
    Calls Try.prog 8 #[.int .i64 a0, .string a1, .slice a2 len2 cap2, .int .i64 a3] w fun e w' => e = .returned (.bool true) ∧ Below w.heap.size w w' := by
  obtain ⟨l2, rfl, hr2, hm2, hw2, hc2⟩ := ReadsInt.ofRowC w2
  obtain ⟨k, h⟩ := P a0 a1 l2 a3 w0 w1 hm2 y2 hw2 w3
  refine (chalklinelaw01_OctetTruncated.calls k a0 a1 _ _ l2 a3 true w (Kd.C_of_reads (d := (0 : Int)) (h1 := fun _ => rfl) hr2) hc2 h).mono ?_
  rintro e w' ⟨rfl, hd⟩
  exact ⟨rfl, hd⟩

end Go.Proofs.Ytodobnmfgcmnnaa.Pr
