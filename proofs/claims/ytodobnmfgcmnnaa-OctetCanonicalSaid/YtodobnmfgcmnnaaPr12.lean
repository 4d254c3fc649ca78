-- Written by this session's own program (wip/pp.sh: a patched run of the kit's print, with contracts of my own).
import Derived.Test.YtodobnmfgcmnnaaPr0
import Derived.Test.YtodobnmfgcmnnaaPr1
import Derived.Test.YtodobnmfgcmnnaaPr4
import Derived.Test.YtodobnmfgcmnnaaPr6
import Derived.Test.YtodobnmfgcmnnaaPr7
import Derived.Test.YtodobnmfgcmnnaaPr8
import Derived.Test.YtodobnmfgcmnnaaPr10
import Derived.Test.YtodobnmfgcmnnaaPr11
import Derived.Test.YtodobnmfgcmnnaaOcB
namespace Go.Proofs.Ytodobnmfgcmnnaa.Pr
open Go.RowKit Go.Proofs.YtodobnmfgcmnnaaW.PrintWords Go.Proofs.YtodobnmfgcmnnaaW.PrintLast Go.Proofs.YtodobnmfgcmnnaaW.PrintMore
attribute [local go_sem] max2_int min2_int max_two min_two max_three min_three max_four min_four   -- for this text's walks alone
set_option linter.unusedVariables false
set_option linter.unusedSimpArgs false

-- HAND Derived.Test.YtodobnmfgcmnnaaOcB
/-! ### chalklinelaw01_live: function 11 -/
def chalklinelaw01_live.f : Option (Bool) := some true
theorem live_g1 : Oc.getI [9, 128, 1] 1 = (64, 3, 0) := by decide +kernel
theorem live_g2 : Oc.getI [128] 0 = (0, 0, 10) := by decide +kernel
theorem live_g3 : Oc.getI [129, 0] 0 = (0, 0, 11) := by decide +kernel
theorem live_g4 : Oc.getI [] 1 = (0, 0, 1) := by decide +kernel
theorem live_t1 : Oc.getT [4, 97, 98, 7] 0 2 = ([97, 98], 3, 0) := by decide +kernel
theorem live_t2 : Oc.getT [4, 97, 98] 0 1 = ([], 0, 2) := by decide +kernel
theorem live_i1 : Oc.getIs [4, 2, 1] 0 9 = ([1, -1], 3, 0) := by decide +kernel
theorem live_p1 : Oc.putI [7] 64 = [7, 128, 1] := by
  show [7] ++ Oc.grp 128 = _
  rw [Oc.grp_big 128 (by omega), Oc.grp_small (128 / 128) (by omega)]; rfl
theorem live_p2 : Oc.putI [] 0 = [0] := by show [] ++ Oc.grp 0 = _; rw [Oc.grp_small 0 (by omega)]; rfl
theorem live_p3 : Oc.putI [] (-1) = [1] := by show [] ++ Oc.grp 1 = _; rw [Oc.grp_small 1 (by omega)]; rfl
theorem live_p4 : Oc.putI [] 2 = [4] := by show [] ++ Oc.grp 4 = _; rw [Oc.grp_small 4 (by omega)]; rfl
theorem live_p5 : Oc.putIs [] [1, -1] = [4, 2, 1] := by
  show Oc.putI (Oc.putI (Oc.putI [] 2) 1) (-1) = _
  rw [live_p4]
  show [4] ++ Oc.grp 2 ++ Oc.grp 1 = _
  rw [Oc.grp_small 2 (by omega), Oc.grp_small 1 (by omega)]; rfl
theorem live_str : bytesOf ⟨#[97, 98]⟩ = [97, 98] := by decide +kernel
theorem live_text : octet_PutText.f [] ⟨#[97, 98]⟩ = some [4, 97, 98] := by
  unfold octet_PutText.f octet_PutInt.f
  rw [if_pos ⟨by decide, by decide⟩]
  show (some (Oc.putI [] 2)).bind _ = _
  rw [live_p4, Option.bind_some, live_str]
  rfl
theorem live_ints : chalklineref01_Ints.f 3 [1, -1] [1, -1] = some true := by decide +kernel
theorem lit_row {k : IntKind} (w : World) (xs : List Int) (e : TypeId) (hm : xs.length ≤ 9223372036854775807) : Kd.C (Kd.int k) (w.alloc (.cells (nums k xs).toArray e)) (some ⟨w.heap.size, 0, none⟩) xs.length xs :=
  Kd.C_of_reads (d := (0 : Int)) (h1 := fun _ => rfl) ⟨rfl, hm, fun _ => ⟨_, rfl, fun j hj => by
    rw [add_plain, World.cell?_alloc_mark]
    simp [nums, List.getD_eq_getElem?_getD, List.getElem?_eq_getElem hj]⟩⟩
theorem live_c1 (w : World) : Calls Try.prog 13 #[.slice (some ⟨w.heap.size, 0, none⟩) 3 3, .int .i64 1] (w.alloc (.cells #[.int .u8 9, .int .u8 128, .int .u8 1] 5)) fun e w' => e = .returned (.tuple #[.int .i64 64, .int .i64 3, .int .i64 0]) ∧ Below w.heap.size w w' := by
  have h : Kd.C (Kd.int .u8) (w.alloc (.cells #[.int .u8 9, .int .u8 128, .int .u8 1] 5)) (some ⟨w.heap.size, 0, none⟩) [9, 128, 1].length [9, 128, 1] := lit_row (k := .u8) w [9, 128, 1] 5 (by simp)
  exact (octet_GetInt.same (some ⟨w.heap.size, 0, none⟩) 3 [9, 128, 1] 1 64 3 0 _ h (by simp) (by decide) live_g1).mono fun e w' ⟨he, hw⟩ => ⟨he, hw ▸ below_alloc (Below.refl _ _) _⟩
theorem live_c2 (w : World) : Calls Try.prog 13 #[.slice (some ⟨w.heap.size, 0, none⟩) 1 1, .int .i64 0] (w.alloc (.cells #[.int .u8 128] 5)) fun e w' => e = .returned (.tuple #[.int .i64 0, .int .i64 0, .int .i64 10]) ∧ Below w.heap.size w w' := by
  have h : Kd.C (Kd.int .u8) (w.alloc (.cells #[.int .u8 128] 5)) (some ⟨w.heap.size, 0, none⟩) [128].length [128] := lit_row (k := .u8) w [128] 5 (by simp)
  exact (octet_GetInt.same (some ⟨w.heap.size, 0, none⟩) 1 [128] 0 0 0 10 _ h (by simp) (by decide) live_g2).mono fun e w' ⟨he, hw⟩ => ⟨he, hw ▸ below_alloc (Below.refl _ _) _⟩
theorem live_c3 (w : World) : Calls Try.prog 13 #[.slice (some ⟨w.heap.size, 0, none⟩) 2 2, .int .i64 0] (w.alloc (.cells #[.int .u8 129, .int .u8 0] 5)) fun e w' => e = .returned (.tuple #[.int .i64 0, .int .i64 0, .int .i64 11]) ∧ Below w.heap.size w w' := by
  have h : Kd.C (Kd.int .u8) (w.alloc (.cells #[.int .u8 129, .int .u8 0] 5)) (some ⟨w.heap.size, 0, none⟩) [129, 0].length [129, 0] := lit_row (k := .u8) w [129, 0] 5 (by simp)
  exact (octet_GetInt.same (some ⟨w.heap.size, 0, none⟩) 2 [129, 0] 0 0 0 11 _ h (by simp) (by decide) live_g3).mono fun e w' ⟨he, hw⟩ => ⟨he, hw ▸ below_alloc (Below.refl _ _) _⟩
theorem live_c4 (w : World) : Calls Try.prog 13 #[.slice none 0 0, .int .i64 1] w fun e w' => e = .returned (.tuple #[.int .i64 0, .int .i64 0, .int .i64 1]) ∧ Below w.heap.size w w' :=
  (octet_GetInt.same none 0 [] 1 0 0 1 w (Kd.C_nil _ _) (Nat.le_refl _) (by decide) live_g4).mono fun e w' ⟨he, hw⟩ => ⟨he, hw ▸ Below.refl _ _⟩
theorem live_c5 (w : World) : Calls Try.prog 17 #[.slice (some ⟨w.heap.size, 0, none⟩) 4 4, .int .i64 0, .int .i64 2] (w.alloc (.cells #[.int .u8 4, .int .u8 97, .int .u8 98, .int .u8 7] 5)) fun e w' => e = .returned (.tuple #[.string ⟨#[97, 98]⟩, .int .i64 3, .int .i64 0]) ∧ Below w.heap.size w w' := by
  have h : Kd.C (Kd.int .u8) (w.alloc (.cells #[.int .u8 4, .int .u8 97, .int .u8 98, .int .u8 7] 5)) (some ⟨w.heap.size, 0, none⟩) [4, 97, 98, 7].length [4, 97, 98, 7] := lit_row (k := .u8) w [4, 97, 98, 7] 5 (by simp)
  exact (octet_GetText.calls (some ⟨w.heap.size, 0, none⟩) 4 [4, 97, 98, 7] 0 2 ⟨#[97, 98]⟩ 3 0 _ h (by simp) (by unfold octet_GetText.f; rw [if_pos (by decide), live_t1]; rfl)).mono fun e w' ⟨he, hw⟩ => ⟨he, below_step (below_alloc (Below.refl _ _) _) hw⟩
theorem live_c6 (w : World) : Calls Try.prog 17 #[.slice (some ⟨w.heap.size, 0, none⟩) 3 3, .int .i64 0, .int .i64 1] (w.alloc (.cells #[.int .u8 4, .int .u8 97, .int .u8 98] 5)) fun e w' => e = .returned (.tuple #[.string ⟨#[]⟩, .int .i64 0, .int .i64 2]) ∧ Below w.heap.size w w' := by
  have h : Kd.C (Kd.int .u8) (w.alloc (.cells #[.int .u8 4, .int .u8 97, .int .u8 98] 5)) (some ⟨w.heap.size, 0, none⟩) [4, 97, 98].length [4, 97, 98] := lit_row (k := .u8) w [4, 97, 98] 5 (by simp)
  exact (octet_GetText.calls (some ⟨w.heap.size, 0, none⟩) 3 [4, 97, 98] 0 1 ⟨#[]⟩ 0 2 _ h (by simp) (by unfold octet_GetText.f; rw [if_pos (by decide), live_t2]; rfl)).mono fun e w' ⟨he, hw⟩ => ⟨he, below_step (below_alloc (Below.refl _ _) _) hw⟩
theorem live_c7 (w : World) : Calls Try.prog 21 #[.slice (some ⟨w.heap.size, 0, none⟩) 3 3, .int .i64 0, .int .i64 9] (w.alloc (.cells #[.int .u8 4, .int .u8 2, .int .u8 1] 5)) fun e w' => ∃ (A : Option Addr) (c : Nat), e = .returned (.tuple #[.slice A 2 c, .int .i64 3, .int .i64 0]) ∧ 2 ≤ c ∧ Kd.C (Kd.int .i64) w' A 2 [1, -1] ∧ Below w.heap.size w w' := by
  have h : Kd.C (Kd.int .u8) (w.alloc (.cells #[.int .u8 4, .int .u8 2, .int .u8 1] 5)) (some ⟨w.heap.size, 0, none⟩) [4, 2, 1].length [4, 2, 1] := lit_row (k := .u8) w [4, 2, 1] 5 (by simp)
  refine (octet_GetInts.calls (some ⟨w.heap.size, 0, none⟩) 3 [4, 2, 1] 0 9 [1, -1] 3 0 _ h (by simp) (by unfold octet_GetInts.f; rw [if_pos ⟨by decide, by decide⟩, live_i1])).mono fun e w' hh => ?_
  obtain ⟨v, rfl, ho, hb⟩ := hh
  obtain ⟨A, c, rfl, hc, hC⟩ := Kd.R_reads ho
  exact ⟨A, c, rfl, hc, hC, below_step (below_alloc (Below.refl _ _) _) hb⟩
theorem str_of (w : World) (A : Option Addr) (c : Nat) (xs : List Int) (h : Kd.C (Kd.int .u8) w A xs.length xs) : (convert 22 9 (.slice A xs.length c)).run Try.prog w = .ok (.string (strOfNums xs)) w := Kd.C_string Try.underlying22 Try.underlying5 Try.underlying9 h
/-- A slice that was made, as a string. -/
def Str (P : Nat) (s : ByteArray) (n : Nat) (w : World) (e : Ending) (w' : World) : Prop := ∃ (A : Option Addr) (c : Nat), e = .returned (.slice A n c) ∧ (convert 22 9 (.slice A n c)).run Try.prog w' = .ok (.string s) w' ∧ Below w.heap.size w w'
theorem live_c8 (w : World) : Calls Try.prog 15 #[.slice (some ⟨w.heap.size, 0, none⟩) 1 1, .int .i64 64] (w.alloc (.cells #[.int .u8 7] 5)) (Str 0 ⟨#[7, 128, 1]⟩ 3 w) := by
  have h : Kd.C (Kd.int .u8) (w.alloc (.cells #[.int .u8 7] 5)) (some ⟨w.heap.size, 0, none⟩) [7].length [7] := lit_row (k := .u8) w [7] 5 (by simp)
  refine (octet_PutInt.calls (some ⟨w.heap.size, 0, none⟩) 1 [7] 64 [7, 128, 1] _ h (by simp) (by unfold octet_PutInt.f; rw [if_pos ⟨by decide, by decide⟩, live_p1])).mono fun e w' hh => ?_
  obtain ⟨v, rfl, ho, hb⟩ := hh
  obtain ⟨A, c, rfl, hc, hC⟩ := Kd.R_reads ho
  exact ⟨A, c, rfl, str_of w' A c [7, 128, 1] hC, below_step (below_alloc (Below.refl _ _) _) hb⟩
theorem live_c9 (w : World) : Calls Try.prog 15 #[.slice none 0 0, .int .i64 0] w (Str 0 ⟨#[0]⟩ 1 w) := by
  refine (octet_PutInt.calls none 0 [] 0 [0] _ (Kd.C_nil _ _) (Nat.le_refl _) (by unfold octet_PutInt.f; rw [if_pos ⟨by decide, by decide⟩, live_p2])).mono fun e w' hh => ?_
  obtain ⟨v, rfl, ho, hb⟩ := hh
  obtain ⟨A, c, rfl, hc, hC⟩ := Kd.R_reads ho
  exact ⟨A, c, rfl, str_of w' A c [0] hC, hb⟩
theorem live_c10 (w : World) : Calls Try.prog 15 #[.slice none 0 0, .int .i64 (-1)] w (Str 0 ⟨#[1]⟩ 1 w) := by
  refine (octet_PutInt.calls none 0 [] (-1) [1] _ (Kd.C_nil _ _) (Nat.le_refl _) (by unfold octet_PutInt.f; rw [if_pos ⟨by decide, by decide⟩, live_p3])).mono fun e w' hh => ?_
  obtain ⟨v, rfl, ho, hb⟩ := hh
  obtain ⟨A, c, rfl, hc, hC⟩ := Kd.R_reads ho
  exact ⟨A, c, rfl, str_of w' A c [1] hC, hb⟩
theorem live_c11 (w : World) : Calls Try.prog 19 #[.slice none 0 0, .string ⟨#[97, 98]⟩] w (Str 0 ⟨#[4, 97, 98]⟩ 3 w) := by
  refine (octet_PutText.calls none 0 [] ⟨#[97, 98]⟩ [4, 97, 98] _ (Kd.C_nil _ _) (Nat.le_refl _) live_text).mono fun e w' hh => ?_
  obtain ⟨v, rfl, ho, hb⟩ := hh
  obtain ⟨A, c, rfl, hc, hC⟩ := Kd.R_reads ho
  exact ⟨A, c, rfl, str_of w' A c [4, 97, 98] hC, hb⟩
theorem live_c12 (w : World) : Calls Try.prog 23 #[.slice none 0 0, .slice (some ⟨w.heap.size, 0, none⟩) 2 2] (w.alloc (.cells #[.int .i64 1, .int .i64 (-1)] 3)) (Str 0 ⟨#[4, 2, 1]⟩ 3 w) := by
  have h : Kd.C (Kd.int .i64) (w.alloc (.cells #[.int .i64 1, .int .i64 (-1)] 3)) (some ⟨w.heap.size, 0, none⟩) [1, -1].length [1, -1] := lit_row (k := .i64) w [1, -1] 3 (by simp)
  refine (octet_PutInts.calls none 0 [] (some ⟨w.heap.size, 0, none⟩) 2 [1, -1] [4, 2, 1] _ (Kd.C_nil _ _) (Nat.le_refl _) h (by simp) (by unfold octet_PutInts.f; rw [if_pos ⟨by decide, by decide, by decide⟩, live_p5])).mono fun e w' hh => ?_
  obtain ⟨v, rfl, ho, hb⟩ := hh
  obtain ⟨A, c, rfl, hc, hC⟩ := Kd.R_reads ho
  exact ⟨A, c, rfl, str_of w' A c [4, 2, 1] hC, below_step (below_alloc (Below.refl _ _) _) hb⟩
theorem live_c13 (w : World) (A : Option Addr) (c : Nat) (hc : 2 ≤ c) (hC : Kd.C (Kd.int .i64) w A 2 [1, -1]) : Calls Try.prog 25 #[.slice A 2 c, .slice (some ⟨w.heap.size, 0, none⟩) 2 2] (w.alloc (.cells #[.int .i64 1, .int .i64 (-1)] 3)) fun e w' => e = .returned (.bool true) ∧ Below w.heap.size w w' := by
  have h : Kd.C (Kd.int .i64) (w.alloc (.cells #[.int .i64 1, .int .i64 (-1)] 3)) (some ⟨w.heap.size, 0, none⟩) [1, -1].length [1, -1] := lit_row (k := .i64) w [1, -1] 3 (by simp)
  exact (chalklineref01_Ints.calls 3 A c [1, -1] (some ⟨w.heap.size, 0, none⟩) 2 [1, -1] true _ (Kd.C_below hC (below_alloc (Below.refl _ _) _)) hc h (by simp) live_ints).mono fun e w' ⟨he, hw⟩ => ⟨he, below_step (below_alloc (Below.refl _ _) _) hw.below⟩
set_option maxHeartbeats 4000000 in
set_option maxRecDepth 100000 in
theorem chalklinelaw01_live.calls (r : Bool) (w : World) (h : chalklinelaw01_live.f = some r) :
    Calls Try.prog 11 #[] w fun e w' => e = .returned (.bool r) ∧ Below w.heap.size w w' := by
  obtain rfl := Option.some.inj h
  clear h
  go_enter Try.func11, Try.ntmps11
  go_wp2_with fail
  refine (live_c1 _).mono ?_
  rintro e w1 ⟨rfl, hb⟩
  have B1 := Aside0.mk hb
  clear hb
  go_wp2_with fail
  refine (live_c2 _).mono ?_
  rintro e w2 ⟨rfl, hb⟩
  have B2 := Aside0.mk (below_step B1.out hb)
  clear hb B1
  go_wp2_with fail
  refine (live_c3 _).mono ?_
  rintro e w3 ⟨rfl, hb⟩
  have B3 := Aside0.mk (below_step B2.out hb)
  clear hb B2
  go_wp2_with fail
  refine (live_c4 _).mono ?_
  rintro e w4 ⟨rfl, hb⟩
  have B4 := Aside0.mk (below_step B3.out hb)
  clear hb B3
  go_wp2_with fail
  refine (live_c5 _).mono ?_
  rintro e w5 ⟨rfl, hb⟩
  have B5 := Aside0.mk (below_step B4.out hb)
  clear hb B4
  go_wp2_with fail
  refine (live_c6 _).mono ?_
  rintro e w6 ⟨rfl, hb⟩
  have B6 := Aside0.mk (below_step B5.out hb)
  clear hb B5
  go_wp2_with fail
  refine (live_c7 _).mono ?_
  rintro e w7 ⟨A7, c7, rfl, hc, hC, hb⟩
  have B7 := Aside0.mk (below_step B6.out hb)
  have C7 := Aside0.mk (And.intro hc hC)
  clear hb B6 hc hC
  go_wp2_with fail
  refine (live_c8 _).mono ?_
  rintro e w8 ⟨A8, c8, rfl, hs, hb⟩
  have B8 := Aside0.mk (below_step B7.out hb)
  have C8 := Aside0.mk (And.intro C7.out.1 (Kd.C_below C7.out.2 hb))
  clear hb B7 C7
  go_wp2_with fail
  refine (live_c9 _).mono ?_
  rintro e w9 ⟨A9, c9, rfl, hs, hb⟩
  have B9 := Aside0.mk (below_step B8.out hb)
  have C9 := Aside0.mk (And.intro C8.out.1 (Kd.C_below C8.out.2 hb))
  clear hb B8 C8
  go_wp2_with fail
  refine (live_c10 _).mono ?_
  rintro e w10 ⟨A10, c10, rfl, hs, hb⟩
  have B10 := Aside0.mk (below_step B9.out hb)
  have C10 := Aside0.mk (And.intro C9.out.1 (Kd.C_below C9.out.2 hb))
  clear hb B9 C9
  go_wp2_with fail
  refine (live_c11 _).mono ?_
  rintro e w11 ⟨A11, c11, rfl, hs, hb⟩
  have B11 := Aside0.mk (below_step B10.out hb)
  have C11 := Aside0.mk (And.intro C10.out.1 (Kd.C_below C10.out.2 hb))
  clear hb B10 C10
  go_wp2_with fail
  refine (live_c12 _).mono ?_
  rintro e w12 ⟨A12, c12, rfl, hs, hb⟩
  have B12 := Aside0.mk (below_step B11.out hb)
  have C12 := Aside0.mk (And.intro C11.out.1 (Kd.C_below C11.out.2 hb))
  clear hb B11 C11
  go_wp2_with fail
  refine (live_c13 _ _ _ C12.out.1 C12.out.2).mono ?_
  rintro e w13 ⟨rfl, hb⟩
  have B13 := Aside0.mk (below_step B12.out hb)
  clear hb B12 C12
  go_wp2
  go_ret
  exact ⟨rfl, B13.out⟩

end Go.Proofs.Ytodobnmfgcmnnaa.Pr
