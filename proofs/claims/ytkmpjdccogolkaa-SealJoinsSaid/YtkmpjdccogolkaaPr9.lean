-- Written by this session's own program (wip/pp.sh: a patched run of the kit's print, with contracts of my own).
import Derived.Test.YtkmpjdccogolkaaPr0
import Derived.Test.YtkmpjdccogolkaaPr2
import Derived.Test.YtkmpjdccogolkaaPr4
import Derived.Test.YtkmpjdccogolkaaPr7
import Derived.Test.YtkmpjdccogolkaaPr8
import Derived.Lib.SlBytesConst
namespace Go.Proofs.Ytkmpjdccogolkaa.Pr
open Go.RowKit Go.Proofs.YtkmpjdccogolkaaW.PrintWords Go.Proofs.YtkmpjdccogolkaaW.PrintLast Go.Proofs.YtkmpjdccogolkaaW.PrintMore
attribute [local go_sem] max2_int min2_int max_two min_two max_three min_three max_four min_four   -- for this text's walks alone
set_option linter.unusedVariables false
set_option linter.unusedSimpArgs false

-- HAND Derived.Lib.SlBytesConst
/-! ### chalklinelaw02_live: function 12 -/
def chalklinelaw02_live.f : Option (Bool) := some true
theorem live_frame : Pl.frameI [] = [0, 0, 0, 0, 0, 0, 0, 0] := by decide +kernel
theorem live_open : Pl.openI [0, 0, 0, 0, 0, 0, 0, 0] 0 = ([], 8, 0) := by decide +kernel
theorem live_sum : Pl.sumI [49, 50, 51, 52, 53, 54, 55, 56, 57] = 3421780262 := by decide +kernel
theorem live_same : chalklineref02_Same.f [0, 0, 0, 0, 0, 0, 0, 0] (List.replicate 8 0) = some true := by
  unfold chalklineref02_Same.f
  rw [show ([0, 0, 0, 0, 0, 0, 0, 0] : List Int) = List.replicate 8 0 from rfl]
  simp
theorem lit_marked (w : World) (xs : List Int) (fr : Nat × Nat) (hm : xs.length ≤ 9223372036854775807) : Kd.C (Kd.int .u8) (w.alloc (.cells (nums .u8 xs).toArray 5 fr)) (some ⟨w.heap.size, 0, none⟩) xs.length xs :=
  Kd.C_of_reads (d := (0 : Int)) ⟨rfl, hm, fun _ => ⟨_, rfl, fun j hj => by
    rw [add_plain, World.cell?_alloc_mark]
    simp [nums, List.getD_eq_getElem?_getD, List.getElem?_eq_getElem hj]⟩⟩
set_option maxHeartbeats 2000000 in
set_option maxRecDepth 100000 in
theorem chalklinelaw02_live.calls (r : Bool) (w : World) (h : chalklinelaw02_live.f = some r) :
    Calls Try.prog 12 #[] w fun e w' => e = .returned (.bool r) ∧ Below w.heap.size w w' := by
  obtain rfl := Option.some.inj h
  clear h
  have kc := fun (w : World) (C : Array Value) (n c : Nat) => Lib.run_convert_bytes_const (P := Try.prog) w 22 5 C n c Try.underlying22 Try.underlying5
  go_enter Try.func12, Try.ntmps12
  go_wp2_with fail
  refine (seal_Frame.calls none 0 [] [0, 0, 0, 0, 0, 0, 0, 0] 0 w (Kd.C_nil _ _) (Nat.le_refl _) (by unfold seal_Frame.f; rw [live_frame]; rfl)).mono ?_
  rintro e w1 ⟨v1, rfl, ho1, hb1⟩
  obtain ⟨A1, c1, rfl, hc1, hC1⟩ := Kd.R_reads ho1
  have B1 := Aside0.mk hb1
  have C1 := Aside0.mk hC1
  have L1 := Aside0.mk hc1
  clear ho1 hb1 hC1 hc1
  go_wp2_with fail
  refine (seal_Open.calls A1 c1 [0, 0, 0, 0, 0, 0, 0, 0] 0 [] 8 0 w1 C1.out L1.out (by unfold seal_Open.f; rw [live_open])).mono ?_
  rintro e w2 ⟨v2, rfl, ho2, hb2⟩
  obtain ⟨A2, c2, rfl, hc2, hC2⟩ := Kd.R_reads ho2
  have B2 := Aside0.mk (below_step B1.out hb2)
  have C2 := Aside0.mk (Kd.C_below C1.out hb2)
  clear ho2 hb2 hC2 hc2 B1 C1
  go_wp2_with fail
  refine (seal_Sum.calls (some ⟨w2.heap.size, 0, none⟩) 9 [49, 50, 51, 52, 53, 54, 55, 56, 57] 3421780262 _ (lit_marked w2 [49, 50, 51, 52, 53, 54, 55, 56, 57] (9, 10) (by simp)) (by simp) (by unfold seal_Sum.f; rw [live_sum])).mono ?_
  rintro e w3 ⟨rfl, hb3⟩
  have B3 := Aside0.mk (below_step (below_alloc B2.out _) hb3)
  have C3 := Aside0.mk (Kd.C_below (Kd.C_below C2.out (below_alloc (Below.refl _ _) _)) hb3)
  clear hb3 B2 C2 kc
  have hmk := print_make (P := Try.prog) 22 5 .u8 1 Try.underlying22 info5 (by omega) 8 (by omega)
  have hmk' : ∀ W : World, (Instr.makeSlice 22 (.int .i64 8) (.int .i64 8)).run Try.prog W = .ok (.slice (some ⟨W.heap.size, 0, none⟩) 8 8) (W.alloc (.cells (madeCells #[.int .u8 0] 8) 5)) := hmk
  clear hmk
  generalize hZ : madeCells #[Value.int .u8 0] 8 = Z at hmk'
  have HZ := Aside0.mk hZ
  clear hZ
  go_wp2_with fail
  have hown := own_made w3 w3.heap.size 5 .u8 8 (Nat.le_refl _) (by omega)
  rw [HZ.out] at hown
  have hrd : Kd.C (Kd.int .u8) (w3.alloc (.cells Z 5)) (some ⟨w3.heap.size, 0, none⟩) (List.replicate 8 (0 : Int)).length (List.replicate 8 0) := Kd.C_of_reads (own_reads' hown)
  refine (chalklineref02_Same.calls A1 c1 [0, 0, 0, 0, 0, 0, 0, 0] (some ⟨w3.heap.size, 0, none⟩) 8 (List.replicate 8 0) true _ (Kd.C_below C3.out (below_alloc (Below.refl _ _) _)) L1.out hrd (by simp) live_same).mono ?_
  rintro e w4 ⟨rfl, hd4⟩
  have B4 := Aside0.mk (show Below w.heap.size w w4 from below_step (below_alloc B3.out _) hd4.below)
  clear hd4 hrd hown
  go_wp2
  go_ret
  exact ⟨rfl, B4.out⟩

end Go.Proofs.Ytkmpjdccogolkaa.Pr
