/- Parts of the proof of JournalWrites; no condition. -/
import Derived.Test.YtfcdaifaocgjfaaGa7
import Derived.Test.YtfcdaifaocgjfaaPr23
import Derived.Test.YtfcdaifaocgjfaaGa5
import Derived.Test.YtfcdaifaocgjfaaGa2
import Derived.Test.YtfcdaifaocgjfaaGa0
section
namespace Go.Proofs.Ytfcdaifaocgjfaa.Pr
open Go.RowKit Go.Proofs.YtfcdaifaocgjfaaW.PrintWords Go.Proofs.YtfcdaifaocgjfaaW.PrintLast Go.Proofs.YtfcdaifaocgjfaaW.PrintMore
set_option linter.unusedVariables false
set_option linter.unusedSimpArgs false
def chalklinelaw34_live.f : Option (Bool) := some true
def fr14 : List Int := [0, 0, 0, 6, 231, 166, 165, 179, 2, 2, 4, 0, 0, 2]
def v1st : S50 := ⟨1, ⟨[⟨2, 0⟩]⟩, 0, true⟩
theorem lv_put (l : List Int) (n : Int) (u : Nat) (hl : l.length ≤ 1000) (hz : Oc.zz n = u) (hu : u ≤ 127) (hn : Oc.ok64 n = true) : octet_PutInt.f l n = some (l ++ [(u : Int)]) := by
  unfold octet_PutInt.f
  rw [if_pos ⟨hn, by omega⟩]
  show some (l ++ Oc.grp (Oc.zz n)) = _
  rw [hz, Oc.grp_small u hu]
theorem lv_week : week_Put.f 2 [2] [(⟨2, 0⟩ : S76)] = some [2, 2, 4, 0] := by
  unfold week_Put.f
  rw [show (([(⟨2, 0⟩ : S76)].length : Nat) : Int) = 1 from rfl, lv_put [2] 1 2 (by decide) (by decide) (by decide) (by decide), Option.bind_some]
  simp only [week_Put.l0]
  rw [if_pos (by decide), if_pos (by decide), if_pos (by decide)]
  show (octet_PutInt.f [2, 2] 2).bind _ = _
  rw [lv_put [2, 2] 2 4 (by decide) (by decide) (by decide) (by decide), Option.bind_some]
  show (octet_PutInt.f [2, 2, 4] 0).bind _ = _
  rw [lv_put [2, 2, 4] 0 0 (by decide) (by decide) (by decide) (by decide), Option.bind_some, if_neg (by decide +kernel)]
  rfl
theorem lv_rec : journal_record.f 2 1 [(⟨2, 0⟩ : S76)] 0 true = some [2, 2, 4, 0, 0, 2] := by
  unfold journal_record.f
  rw [lv_put [] 1 2 (by decide) (by decide) (by decide) (by decide), Option.bind_some]
  show (week_Put.f 2 [2] _).bind _ = _
  rw [lv_week, Option.bind_some, lv_put [2, 2, 4, 0] 0 0 (by decide) (by decide) (by decide) (by decide), Option.bind_some, if_pos rfl]
  show (octet_PutInt.f [2, 2, 4, 0, 0] 1).bind _ = _
  rw [lv_put [2, 2, 4, 0, 0] 1 2 (by decide) (by decide) (by decide) (by decide)]
  rfl
theorem lv_frame : seal_Frame.f [2, 2, 4, 0, 0, 2] = some (fr14, 0) := by kernel_rfl
theorem lv_none : journal_Read.f [] [] = some ([], [], 0) := by kernel_rfl
theorem lv_may : journal_may.f 1 [(⟨2, 0⟩ : S76)] 0 true = some true := by kernel_rfl
theorem lv_clone : slices_Clone_byte_byte.f [] = some [] := by kernel_rfl
theorem lv_concat : slices_Concat_byte_byte.f [[], fr14] = some fr14 := by kernel_rfl
theorem lv_append : journal_Append.f 2 [] [] 1 [(⟨2, 0⟩ : S76)] 0 true = some ([], fr14, 0) := by
  unfold journal_Append.f
  rw [lv_none, Option.bind_some, if_pos rfl, lv_may, Option.bind_some, if_pos ⟨rfl, by decide +kernel⟩, lv_rec, Option.bind_some, lv_frame, Option.bind_some, if_pos rfl, lv_clone, Option.bind_some, lv_concat, Option.bind_some, if_neg (by decide +kernel)]
theorem lv_scan : seal_Scan.f fr14 = some ([[2, 2, 4, 0, 0, 2]], 14) := by kernel_rfl
theorem lv_c13 : journal_Crash.f [] fr14 13 = some ([], [], 0) := by kernel_rfl
theorem lv_c14 : journal_Crash.f [] fr14 14 = some (fr14, [], 0) := by kernel_rfl
theorem lv_read : journal_Read.f fr14 [] = some ([v1st], [], 0) := by kernel_rfl
theorem lv_vers : chalklineref34_Versions.f 4 [v1st] [v1st] = some true := by kernel_rfl
set_option maxHeartbeats 4000000 in
set_option maxRecDepth 100000 in
theorem chalklinelaw34_live.calls (r : Bool) (w : World) (h : chalklinelaw34_live.f = some r) :
    Calls Try.prog 11 #[] w fun e w' => e = .returned (.bool r) ∧ Below w.heap.size w w' := by
  obtain rfl := Option.some.inj h
  clear h
  go_enter Try.func11, Try.ntmps11
  go_wp2_with fail
  refine (chalklinelaw34_first.calls 1 [(⟨2, 0⟩ : S76)] 0 true w rfl).mono ?_
  rintro e w1 ⟨v1, rfl, ho1, hb1⟩
  obtain ⟨A1, c1, rfl, hc1, hC1⟩ := Kd.R_reads ho1
  have B1 := Aside0.mk hb1
  have C1 := Aside0.mk (And.intro hc1 hC1)
  clear ho1 hb1 hC1 hc1
  go_wp2_with fail
  refine (c_append 2 none 0 [] none 0 [] 1 A1 c1 [(⟨2, 0⟩ : S76)] 0 true [] fr14 0 _ (Kd.C_nil _ _) (Nat.le_refl _) (Kd.C_nil _ _) (Nat.le_refl _) C1.out.2 C1.out.1 lv_append).mono ?_
  rintro e w2 ⟨A2, c2, A3, c3, rfl, hc, hC2, hC3, hb2⟩
  have B2 := Aside0.mk (below_step B1.out hb2)
  have C2 := Aside0.mk (And.intro hc (And.intro hC2 hC3))
  clear hc hC2 hC3 hb2 B1 C1
  go_wp2_with fail
  refine (c_scan A3 c3 fr14 [[2, 2, 4, 0, 0, 2]] 14 _ (Kd.C_alloc C2.out.2.2 _) C2.out.1.2 lv_scan).mono ?_
  rintro e w3 ⟨A4, c4, rfl, hc4, hC4, hb3⟩
  have D3 := Aside0.mk (blk_below (blk_new w2 (.cells #[.slice A2 0 c2, .slice A3 14 c3] 24)) hb3)
  have B3 := Aside0.mk (below_step (below_alloc B2.out _) hb3)
  have C3 := Aside0.mk (And.intro C2.out.1 (And.intro (Kd.C_below (Kd.C_alloc C2.out.2.1 _) hb3) (Kd.C_below (Kd.C_alloc C2.out.2.2 _) hb3)))
  have L3 := Aside0.mk (And.intro hc4 hC4)
  clear hc4 hC4 hb3 B2 C2
  have k0 := dk0 D3.out
  have k1 := dk1 D3.out
  go_wp2_with fail
  refine (c_crash A2 c2 [] A3 c3 fr14 13 [] [] 0 _ C3.out.2.1 C3.out.1.1 C3.out.2.2 C3.out.1.2 lv_c13).mono ?_
  rintro e w4 ⟨A5, c5, A6, c6, rfl, hc5, hC5, hC6, hb4⟩
  have D4 := Aside0.mk (blk_below D3.out hb4)
  have B4 := Aside0.mk (below_step B3.out hb4)
  have C4 := Aside0.mk (And.intro C3.out.1 (And.intro (Kd.C_below C3.out.2.1 hb4) (Kd.C_below C3.out.2.2 hb4)))
  have L4 := Aside0.mk (And.intro L3.out.1 (Kd.C_below L3.out.2 hb4))
  clear hc5 hC5 hC6 hb4 B3 C3 L3 D3 k0 k1
  have k0 := dk0 (blk_alloc D4.out (.cells #[.slice A5 0 c5, .slice A6 0 c6] 24))
  have k1 := dk1 (blk_alloc D4.out (.cells #[.slice A5 0 c5, .slice A6 0 c6] 24))
  go_wp2_with fail
  refine (c_crash A2 c2 [] A3 c3 fr14 14 fr14 [] 0 _ (Kd.C_alloc C4.out.2.1 _) C4.out.1.1 (Kd.C_alloc C4.out.2.2 _) C4.out.1.2 lv_c14).mono ?_
  rintro e w5 ⟨A7, c7, A8, c8, rfl, hc7, hC7, hC8, hb5⟩
  have D5 := Aside0.mk (And.intro (blk_below (blk_alloc D4.out _) hb5) (blk_below (blk_new w4 (.cells #[.slice A5 0 c5, .slice A6 0 c6] 24)) hb5))
  have B5 := Aside0.mk (below_step (below_alloc B4.out _) hb5)
  have C5 := Aside0.mk (And.intro hc7 (And.intro hC7 hC8))
  have L5 := Aside0.mk (And.intro L4.out.1 (Kd.C_below (Kd.C_alloc L4.out.2 _) hb5))
  clear hc7 hC7 hC8 hb5 B4 C4 L4 D4 k0 k1
  go_wp2_with fail
  refine (c_read A7 c7 fr14 A8 c8 [] [v1st] [] 0 _ (Kd.C_alloc C5.out.2.1 _) C5.out.1.1 (Kd.C_alloc C5.out.2.2 _) C5.out.1.2 lv_read).mono ?_
  rintro e w6 ⟨A9, c9, A10, c10, rfl, hc9, hC9, hC10, hb6⟩
  have k20 := dk0 (blk_below (blk_alloc D5.out.1 _) hb6)
  have k21 := dk1 (blk_below (blk_alloc D5.out.1 _) hb6)
  have k40 := dk0 (blk_below (blk_alloc D5.out.2 _) hb6)
  have k41 := dk1 (blk_below (blk_alloc D5.out.2 _) hb6)
  have k70 := dk0 (blk_below (blk_new w5 (.cells #[.slice A7 14 c7, .slice A8 0 c8] 24)) hb6)
  have k71 := dk1 (blk_below (blk_new w5 (.cells #[.slice A7 14 c7, .slice A8 0 c8] 24)) hb6)
  have B6 := Aside0.mk (below_step (below_alloc B5.out _) hb6)
  have R6 := Aside0.mk (And.intro hc9 (And.intro hC9 hC10))
  obtain ⟨ad, A11, c11, rfl, hcell, hle, hC11⟩ := at_L1 (Kd.C_below (Kd.C_alloc L5.out.2 _) hb6) 0 (by decide) (by decide)
  have hs : (convert 22 9 (.slice A11 6 c11)).run Try.prog w6 = .ok (.string ⟨#[2, 2, 4, 0, 0, 2]⟩) w6 := Kd.C_string Try.underlying22 Try.underlying5 Try.underlying9 (xs := [2, 2, 4, 0, 0, 2]) hC11
  have hcell' : w6.cell? ad = some (.slice A11 6 c11) := hcell
  clear hc9 hC9 hC10 hb6 B5 C5 L5 D5 hle hC11 hcell
  go_wp2_with fail
  refine (chalklinelaw34_first.calls 1 [(⟨2, 0⟩ : S76)] 0 true w6 rfl).mono ?_
  rintro e w7 ⟨v12, rfl, ho7, hb7⟩
  obtain ⟨A12, c12, rfl, hc7, hC7⟩ := Kd.R_reads ho7
  have B7 := Aside0.mk (below_step B6.out hb7)
  have R7 := Aside0.mk (And.intro R6.out.1.1 (Kd.C_below R6.out.2.1 hb7))
  have V7 := Aside0.mk (one_version (blk_new w7 (.cells #[.int .i64 1, .slice A12 [(⟨2, 0⟩ : S76)].length c12, .int .i64 0, .bool true] 50)) hc7 (Kd.C_alloc hC7 _))
  clear ho7 hb7 hc7 hC7 B6 R6 k20 k21 k40 k41 k70 k71 hs hcell'
  go_wp2_with fail
  refine (chalklineref34_Versions.calls 4 A9 c9 [v1st] (some ⟨w7.heap.size, 0, none⟩) 1 [v1st] true _ (Kd.C_alloc R7.out.2 _) R7.out.1 V7.out (Nat.le_refl _) lv_vers).mono ?_
  rintro e w8 ⟨rfl, hd8⟩
  have B8 := Aside0.mk (below_step (below_alloc B7.out _) hd8)
  clear hd8 B7 R7 V7
  go_wp2
  go_ret
  exact ⟨rfl, B8.out⟩
end Go.Proofs.Ytfcdaifaocgjfaa.Pr
end
section
namespace Go.Proofs.Ytfcdaifaocgjfaa.Oc
/-- The bytes of integers in a row. -/
def C (xs : List Int) : List Int := (xs.map fun x => grp (zz x)).flatten
theorem C_nil : C [] = [] := rfl
end Go.Proofs.Ytfcdaifaocgjfaa.Oc
end
section
namespace Go.Proofs.Ytfcdaifaocgjfaa.Pr
open Go.RowKit Go.Proofs.YtfcdaifaocgjfaaW.PrintWords Go.Proofs.YtfcdaifaocgjfaaW.PrintLast Go.Proofs.YtfcdaifaocgjfaaW.PrintMore
attribute [local go_sem] max2_int min2_int max_two min_two max_three min_three max_four min_four   -- for this text's walks alone
set_option linter.unusedVariables false
set_option linter.unusedSimpArgs false
mutual
def chalklineref01_GetInt.j0 : Nat → List Int → Int → Bool → Option (Int × Int × Int)
  | 0, _, _, _ => none
  | k + 1, x0, x1, x19 => if x19 = true then (some (0, 0, 1)) else (chalklineref01_GetInt.l0 k x0 x1 0 1 0)
def chalklineref01_GetInt.l0 : Nat → List Int → Int → Int → Int → Int → Option (Int × Int × Int)
  | 0, _, _, _, _, _ => none
  | k + 1, x0, x1, x7, x8, x9 => if x9 < 11 then (if (wrap64 (x1 + x9)) = (x0.length : Int) then (some (0, 0, 10)) else (if 0 ≤ (wrap64 (x1 + x9)) then (if (wrap64 (x1 + x9)) < (x0.length : Int) then (if x9 = 9 then (if (rd x0 (wrap64 (x1 + x9))) > 1 then (chalklineref01_GetInt.j2 k x0 x1 x7 x8 x9 (rd x0 (wrap64 (x1 + x9))) true) else (if (rd x0 (wrap64 (x1 + x9))) = 0 then (chalklineref01_GetInt.j2 k x0 x1 x7 x8 x9 (rd x0 (wrap64 (x1 + x9))) (decide (x9 > 0))) else (chalklineref01_GetInt.j2 k x0 x1 x7 x8 x9 (rd x0 (wrap64 (x1 + x9))) false))) else (if (rd x0 (wrap64 (x1 + x9))) = 0 then (chalklineref01_GetInt.j2 k x0 x1 x7 x8 x9 (rd x0 (wrap64 (x1 + x9))) (decide (x9 > 0))) else (chalklineref01_GetInt.j2 k x0 x1 x7 x8 x9 (rd x0 (wrap64 (x1 + x9))) false))) else (none)) else (none))) else (some (0, 0, 11))
def chalklineref01_GetInt.j2 : Nat → List Int → Int → Int → Int → Int → Int → Bool → Option (Int × Int × Int)
  | 0, _, _, _, _, _, _, _ => none
  | k + 1, x0, x1, x7, x8, x9, x10, x49 => if x49 = true then (some (0, 0, 11)) else (if x10 < 128 then (if (Int.tmod (IntKind.u64.wrap (x7 + (IntKind.u64.wrap ((IntKind.u64.wrap (Int.tmod x10 128)) * x8)))) 2) = 1 then (some (wrap64 ((wrap64 (-(wrap64 (IntKind.u64.wrap (Int.tdiv (IntKind.u64.wrap (x7 + (IntKind.u64.wrap ((IntKind.u64.wrap (Int.tmod x10 128)) * x8)))) 2))))) - 1), wrap64 ((wrap64 (x1 + x9)) + 1), 0)) else (some (wrap64 (IntKind.u64.wrap (Int.tdiv (IntKind.u64.wrap (x7 + (IntKind.u64.wrap ((IntKind.u64.wrap (Int.tmod x10 128)) * x8)))) 2)), wrap64 ((wrap64 (x1 + x9)) + 1), 0))) else (chalklineref01_GetInt.l0 k x0 x1 (IntKind.u64.wrap (x7 + (IntKind.u64.wrap ((IntKind.u64.wrap (Int.tmod x10 128)) * x8)))) (IntKind.u64.wrap (x8 * 128)) (wrap64 (x9 + 1))))
end
def chalklineref01_GetInt.f (k : Nat) (l0 : List Int) (a1 : Int) : Option (Int × Int × Int) := if a1 < 0 then (chalklineref01_GetInt.j0 k l0 a1 true) else (chalklineref01_GetInt.j0 k l0 a1 (decide (a1 > (l0.length : Int))))
theorem chalklineref01_GetInt.mono_l : ∀ k, (∀ y0 y1 y2, LeO (chalklineref01_GetInt.j0 k y0 y1 y2) (chalklineref01_GetInt.j0 (k + 1) y0 y1 y2)) ∧ (∀ y0 y1 y2 y3 y4, LeO (chalklineref01_GetInt.l0 k y0 y1 y2 y3 y4) (chalklineref01_GetInt.l0 (k + 1) y0 y1 y2 y3 y4)) ∧ (∀ y0 y1 y2 y3 y4 y5 y6, LeO (chalklineref01_GetInt.j2 k y0 y1 y2 y3 y4 y5 y6) (chalklineref01_GetInt.j2 (k + 1) y0 y1 y2 y3 y4 y5 y6))
  | 0 => ⟨fun _ _ _ r h => by simp [chalklineref01_GetInt.j0] at h, fun _ _ _ _ _ r h => by simp [chalklineref01_GetInt.l0] at h, fun _ _ _ _ _ _ _ r h => by simp [chalklineref01_GetInt.j2] at h⟩
  | k + 1 => by
    obtain ⟨ih0, ih1, ih2⟩ := chalklineref01_GetInt.mono_l k
    refine ⟨?_, ?_, ?_⟩
    · intro y0 y1 y2
      unfold chalklineref01_GetInt.j0
      repeat' first
      | (with_reducible exact ih0 _ _ _)
      | (with_reducible exact ih1 _ _ _ _ _)
      | (with_reducible exact ih2 _ _ _ _ _ _ _)
      | (with_reducible exact LeO.refl _)
      | (with_reducible exact LeO.none _)
      | (with_reducible refine LeO.ite ?_ ?_)
      | (with_reducible refine LeO.bind ?_ (fun _ => ?_))
      | exact ih0 _ _ _
      | exact ih1 _ _ _ _ _
      | exact ih2 _ _ _ _ _ _ _
      | exact LeO.none _
      | refine LeO.ite ?_ ?_
      | refine LeO.bind ?_ (fun _ => ?_)
    · intro y0 y1 y2 y3 y4
      unfold chalklineref01_GetInt.l0
      repeat' first
      | (with_reducible exact ih0 _ _ _)
      | (with_reducible exact ih1 _ _ _ _ _)
      | (with_reducible exact ih2 _ _ _ _ _ _ _)
      | (with_reducible exact LeO.refl _)
      | (with_reducible exact LeO.none _)
      | (with_reducible refine LeO.ite ?_ ?_)
      | (with_reducible refine LeO.bind ?_ (fun _ => ?_))
      | exact ih0 _ _ _
      | exact ih1 _ _ _ _ _
      | exact ih2 _ _ _ _ _ _ _
      | exact LeO.none _
      | refine LeO.ite ?_ ?_
      | refine LeO.bind ?_ (fun _ => ?_)
    · intro y0 y1 y2 y3 y4 y5 y6
      unfold chalklineref01_GetInt.j2
      repeat' first
      | (with_reducible exact ih0 _ _ _)
      | (with_reducible exact ih1 _ _ _ _ _)
      | (with_reducible exact ih2 _ _ _ _ _ _ _)
      | (with_reducible exact LeO.refl _)
      | (with_reducible exact LeO.none _)
      | (with_reducible refine LeO.ite ?_ ?_)
      | (with_reducible refine LeO.bind ?_ (fun _ => ?_))
      | exact ih0 _ _ _
      | exact ih1 _ _ _ _ _
      | exact ih2 _ _ _ _ _ _ _
      | exact LeO.none _
      | refine LeO.ite ?_ ?_
      | refine LeO.bind ?_ (fun _ => ?_)
theorem chalklineref01_GetInt.mono : ∀ a0 a1 k, LeO (chalklineref01_GetInt.f k a0 a1) (chalklineref01_GetInt.f (k + 1) a0 a1) := by
  intro a0 a1 k
  obtain ⟨ih0, ih1, ih2⟩ := chalklineref01_GetInt.mono_l k
  unfold chalklineref01_GetInt.f
  repeat' first
      | (with_reducible exact ih0 _ _ _)
      | (with_reducible exact ih1 _ _ _ _ _)
      | (with_reducible exact ih2 _ _ _ _ _ _ _)
      | (with_reducible exact LeO.refl _)
      | (with_reducible exact LeO.none _)
      | (with_reducible refine LeO.ite ?_ ?_)
      | (with_reducible refine LeO.bind ?_ (fun _ => ?_))
      | exact ih0 _ _ _
      | exact ih1 _ _ _ _ _
      | exact ih2 _ _ _ _ _ _ _
      | exact LeO.none _
      | refine LeO.ite ?_ ?_
      | refine LeO.bind ?_ (fun _ => ?_)
set_option maxHeartbeats 8000000 in
set_option maxRecDepth 100000 in
theorem chalklineref01_GetInt.calls (k : Nat) (A0 : Option Addr) (c0 : Nat) (l0 : List Int) (a1 : Int) (r1 : Int) (r2 : Int) (r3 : Int) (w : World) (hr0 : Kd.C (Kd.int .u8) w A0 l0.length l0) (hc0 : l0.length ≤ c0) (h : chalklineref01_GetInt.f k l0 a1 = some (r1, r2, r3)) :
    Calls Try.prog 67 #[.slice A0 l0.length c0, .int .i64 a1] w fun e w' => e = .returned (.tuple #[.int .i64 r1, .int .i64 r2, .int .i64 r3]) ∧ Drawn0 w w' := by
  have HR0 := Aside0.mk hr0
  have HC0 := Aside0.mk hc0
  clear hr0 hc0
  have H : (if a1 < 0 then (chalklineref01_GetInt.j0 k l0 a1 true) else (chalklineref01_GetInt.j0 k l0 a1 (decide (a1 > (l0.length : Int))))) = some (r1, r2, r3) := h
  clear h
  have HC3 := Aside0.mk H
  clear H
  go_enter Try.func67, Try.ntmps67
  go_upto_region 1 with (fail)
  go_cut [19] (fun v19 wc => ∃ (kq : Nat) (x19_2 : Bool), v19 = .bool x19_2 ∧ Aside0 (chalklineref01_GetInt.j0 kq l0 a1 x19_2 = some (r1, r2, r3)) ∧ Aside0 (kq ≤ k) ∧ Drawn0 w wc)
  case first =>
    have H := HC3.out
    clear HC3
    by_cases c4 : a1 < 0
    · rw [if_pos c4] at H
      have c4b0 : decide (a1 < 0) = true := decide_eq_true c4
      clear c4
      (first | rw [c4b0] | (simp only [i64_w, i32_w]; rw [c4b0]) | skip)
      have H' := Aside0.mk H
      clear H
      go_wp2
      go_meet
      case rel => exact ⟨_, (true), (by first | rfl | (simp; done) | (simp [*]; done)), H', ⟨by first | omega | exact Nat.le_refl _⟩, by repeat (first | exact Drawn0.refl _ | apply Drawn0.step)⟩
    · rw [if_neg c4] at H
      have c4b0 : decide (a1 < 0) = false := decide_eq_false c4
      clear c4
      (first | rw [c4b0] | (simp only [i64_w, i32_w]; rw [c4b0]) | skip)
      have H' := Aside0.mk H
      clear H
      go_wp2
      go_meet
      case rel => exact ⟨_, (decide (a1 > (l0.length : Int))), (by first | rfl | (simp; done) | (simp [*]; done)), H', ⟨by first | omega | exact Nat.le_refl _⟩, by repeat (first | exact Drawn0.refl _ | apply Drawn0.step)⟩
  case rest =>
    clear HC3
    try clear p2
    try clear c4
    try clear c4b0
    obtain ⟨kq, x19_2, rfl, HA, HJ2, ⟨mc2, rfl⟩⟩ := hcut
    cases kq with
    | zero => exact absurd HA.out (by simp [chalklineref01_GetInt.j0])
    | succ kj2 =>
      have H := HA.out
      clear HA
      simp only [chalklineref01_GetInt.j0] at H
      by_cases c5 : x19_2 = true
      · subst c5
        have H1 : (some (0, 0, 1)) = some (r1, r2, r3) := by rw [if_pos rfl] at H; exact H
        clear H
        have H := H1
        clear H1
        simp only [Option.some.injEq, Prod.mk.injEq] at H
        obtain ⟨rfl, rfl, rfl⟩ := H
        go_wp2
        go_ret3
        exact ⟨by first | rfl | (simp; done) | (simp [*]; done), by repeat (first | exact Drawn0.refl _ | apply Drawn0.step)⟩
      · replace c5 := Bool.eq_false_iff.mpr c5
        subst c5
        have H1 : (chalklineref01_GetInt.l0 kj2 l0 a1 0 1 0) = some (r1, r2, r3) := by rw [if_neg (show ¬ (false = true) by decide)] at H; exact H
        clear H
        have H := H1
        clear H1
        have H' := Aside0.mk H
        clear H
        go_wp2
        go_loopg [7, 8, 9] kj2 (fun kq v7 v8 v9 w' => ∃ (x7_2 : Int) (x8_2 : Int) (x9_2 : Int), v7 = .int .u64 x7_2 ∧ v8 = .int .u64 x8_2 ∧ v9 = .int .i64 x9_2 ∧ Aside0 (chalklineref01_GetInt.l0 kq l0 a1 x7_2 x8_2 x9_2 = some (r1, r2, r3)) ∧ Aside0 (kq ≤ kj2) ∧ Drawn0 w w')
        case atStart => exact ⟨(0), (1), (0), (by first | rfl | (simp; done) | (simp [*]; done)), (by first | rfl | (simp; done) | (simp [*]; done)), (by first | rfl | (simp; done) | (simp [*]; done)), H', ⟨Nat.le_refl _⟩, by repeat (first | exact Drawn0.refl _ | apply Drawn0.step)⟩
        case round =>
          clear H'
          try clear c2
          try clear p2
          try clear c4
          try clear c4b0
          try clear c5
          try clear p2
          obtain ⟨x7_2, x8_2, x9_2, rfl, rfl, rfl, HA, HK2, ⟨m2, rfl⟩⟩ := hrel
          cases gk with
          | zero => exact absurd HA.out (by simp [chalklineref01_GetInt.l0])
          | succ k2 =>
            have H := HA.out
            clear HA
            simp only [chalklineref01_GetInt.l0] at H
            by_cases c6 : x9_2 < 11
            · rw [if_pos c6] at H
              have c6b0 : decide (x9_2 < 11) = true := decide_eq_true c6
              clear c6
              by_cases c7 : (wrap64 (a1 + x9_2)) = (l0.length : Int)
              · rw [if_pos c7] at H
                have c7b0 : ((wrap64 (a1 + x9_2)) == (l0.length : Int)) = true := beq_iff_eq.mpr c7
                have c7b1 : ((wrap64 (a1 + x9_2)) != (l0.length : Int)) = false := bne_eq_false_iff_eq.mpr c7
                clear c7
                simp only [Option.some.injEq, Prod.mk.injEq] at H
                obtain ⟨rfl, rfl, rfl⟩ := H
                go_wp2
                go_ret3
                exact ⟨by first | rfl | (simp; done) | (simp [*]; done), by repeat (first | exact Drawn0.refl _ | apply Drawn0.step)⟩
              · rw [if_neg c7] at H
                have c7b0 : ((wrap64 (a1 + x9_2)) == (l0.length : Int)) = false := beq_eq_false_iff_ne.mpr c7
                have c7b1 : ((wrap64 (a1 + x9_2)) != (l0.length : Int)) = true := bne_iff_ne.mpr c7
                obtain ⟨ji8, hji8⟩ : ∃ j_ : Int, (wrap64 (a1 + x9_2)) = j_ := ⟨_, rfl⟩
                replace H : (if 0 ≤ (ji8) then (if (ji8) < (l0.length : Int) then (if x9_2 = 9 then (if (rd l0 (ji8)) > 1 then (chalklineref01_GetInt.j2 k2 l0 a1 x7_2 x8_2 x9_2 (rd l0 (ji8)) true) else (if (rd l0 (ji8)) = 0 then (chalklineref01_GetInt.j2 k2 l0 a1 x7_2 x8_2 x9_2 (rd l0 (ji8)) (decide (x9_2 > 0))) else (chalklineref01_GetInt.j2 k2 l0 a1 x7_2 x8_2 x9_2 (rd l0 (ji8)) false))) else (if (rd l0 (ji8)) = 0 then (chalklineref01_GetInt.j2 k2 l0 a1 x7_2 x8_2 x9_2 (rd l0 (ji8)) (decide (x9_2 > 0))) else (chalklineref01_GetInt.j2 k2 l0 a1 x7_2 x8_2 x9_2 (rd l0 (ji8)) false))) else (none)) else (none)) = some (r1, r2, r3) := by first | (rw [hji8] at H; exact H) | (simp only [hji8] at H ⊢; exact H)
                (try rw [hji8] at c7b0)
                (try rw [hji8] at c7b1)
                have hji8w : (IntKind.i64.wrap (a1 + x9_2)) = ji8 := (i64_w _).trans hji8
                by_cases c9 : 0 ≤ (ji8)
                · rw [if_pos c9] at H
                  have c9b0 : decide (0 ≤ (ji8)) = true := decide_eq_true c9
                  clear c9
                  by_cases c10 : (ji8) < (l0.length : Int)
                  · rw [if_pos c10] at H
                    have c10b0 : decide ((ji8) < (l0.length : Int)) = true := decide_eq_true c10
                    clear c10
                    have HC11 := Aside0.mk H
                    clear H
                    have p274 : 0 ≤ ((ji8) : Int) := of_decide_eq_true (by first | (with_reducible assumption) | assumption)
                    have q274 : (ji8) < (l0.length : Int) := of_decide_eq_true (by first | (with_reducible assumption) | assumption)
                    obtain ⟨ad274, e274, hx274_0⟩ := Kd.at_int HR0.out (ji8) p274 q274
                    cases e274
                    replace p274 := eq_true p274
                    replace q274 := eq_true q274
                    go_upto_region 11 with (fail)
                    go_cut [49] (fun v49 wc => ∃ (kq : Nat) (x49_10 : Bool), v49 = .bool x49_10 ∧ Aside0 (chalklineref01_GetInt.j2 kq l0 a1 x7_2 x8_2 x9_2 (rd l0 (ji8)) x49_10 = some (r1, r2, r3)) ∧ Aside0 (kq ≤ k2) ∧ Drawn0 w wc)
                    case first =>
                      have H := HC11.out
                      clear HC11
                      by_cases c12 : x9_2 = 9
                      · rw [if_pos c12] at H
                        have c12b0 : (x9_2 == 9) = true := beq_iff_eq.mpr c12
                        have c12b1 : (x9_2 != 9) = false := bne_eq_false_iff_eq.mpr c12
                        clear c12
                        (first | rw [c12b0] | (simp only [i64_w, i32_w]; rw [c12b0]) | skip)
                        by_cases c13 : (rd l0 (ji8)) > 1
                        · rw [if_pos c13] at H
                          have c13b0 : decide (1 < (rd l0 (ji8))) = true := decide_eq_true c13
                          clear c13
                          have H' := Aside0.mk H
                          clear H
                          go_wp2
                          go_meet
                          case rel => exact ⟨_, (true), (by first | rfl | (simp; done) | (simp [*]; done)), H', ⟨by have := HJ2.out; have := HK2.out; first | omega | exact Nat.le_refl _⟩, by repeat (first | exact Drawn0.refl _ | apply Drawn0.step)⟩
                        · rw [if_neg c13] at H
                          have c13b0 : decide (1 < (rd l0 (ji8))) = false := decide_eq_false c13
                          clear c13
                          by_cases c14 : (rd l0 (ji8)) = 0
                          · rw [if_pos c14] at H
                            have c14b0 : ((rd l0 (ji8)) == 0) = true := beq_iff_eq.mpr c14
                            have c14b1 : ((rd l0 (ji8)) != 0) = false := bne_eq_false_iff_eq.mpr c14
                            clear c14
                            have H' := Aside0.mk H
                            clear H
                            go_wp2
                            go_meet
                            case rel => exact ⟨_, (decide (x9_2 > 0)), (by first | rfl | (simp; done) | (simp [*]; done)), H', ⟨by have := HJ2.out; have := HK2.out; first | omega | exact Nat.le_refl _⟩, by repeat (first | exact Drawn0.refl _ | apply Drawn0.step)⟩
                          · rw [if_neg c14] at H
                            have c14b0 : ((rd l0 (ji8)) == 0) = false := beq_eq_false_iff_ne.mpr c14
                            have c14b1 : ((rd l0 (ji8)) != 0) = true := bne_iff_ne.mpr c14
                            have H' := Aside0.mk H
                            clear H
                            go_wp2
                            go_meet
                            case rel => exact ⟨_, (false), (by first | rfl | (simp; done) | (simp [*]; done)), H', ⟨by have := HJ2.out; have := HK2.out; first | omega | exact Nat.le_refl _⟩, by repeat (first | exact Drawn0.refl _ | apply Drawn0.step)⟩
                      · rw [if_neg c12] at H
                        have c12b0 : (x9_2 == 9) = false := beq_eq_false_iff_ne.mpr c12
                        have c12b1 : (x9_2 != 9) = true := bne_iff_ne.mpr c12
                        (first | rw [c12b0] | (simp only [i64_w, i32_w]; rw [c12b0]) | skip)
                        by_cases c15 : (rd l0 (ji8)) = 0
                        · rw [if_pos c15] at H
                          have c15b0 : ((rd l0 (ji8)) == 0) = true := beq_iff_eq.mpr c15
                          have c15b1 : ((rd l0 (ji8)) != 0) = false := bne_eq_false_iff_eq.mpr c15
                          clear c15
                          have H' := Aside0.mk H
                          clear H
                          go_wp2
                          go_meet
                          case rel => exact ⟨_, (decide (x9_2 > 0)), (by first | rfl | (simp; done) | (simp [*]; done)), H', ⟨by have := HJ2.out; have := HK2.out; first | omega | exact Nat.le_refl _⟩, by repeat (first | exact Drawn0.refl _ | apply Drawn0.step)⟩
                        · rw [if_neg c15] at H
                          have c15b0 : ((rd l0 (ji8)) == 0) = false := beq_eq_false_iff_ne.mpr c15
                          have c15b1 : ((rd l0 (ji8)) != 0) = true := bne_iff_ne.mpr c15
                          have H' := Aside0.mk H
                          clear H
                          go_wp2
                          go_meet
                          case rel => exact ⟨_, (false), (by first | rfl | (simp; done) | (simp [*]; done)), H', ⟨by have := HJ2.out; have := HK2.out; first | omega | exact Nat.le_refl _⟩, by repeat (first | exact Drawn0.refl _ | apply Drawn0.step)⟩
                    case rest =>
                      clear HC11
                      try clear c1
                      try clear c2
                      try clear p2
                      try clear q2
                      try clear hx2
                      try clear c4
                      try clear c4b0
                      try clear c5
                      try clear c6
                      try clear c6b0
                      try clear p6
                      try clear c7
                      try clear c7b0
                      try clear c7b1
                      try clear c9
                      try clear c9b0
                      try clear c10
                      try clear c10b0
                      try clear c12
                      try clear c12b0
                      try clear c12b1
                      try clear c13
                      try clear c13b0
                      try clear c14
                      try clear c14b0
                      try clear c14b1
                      try clear c15
                      try clear c15b0
                      try clear c15b1
                      try clear hx274_0
                      try clear p2
                      try clear p274
                      try clear q274
                      obtain ⟨kq, x49_10, rfl, HA, HJ10, ⟨mc10, rfl⟩⟩ := hcut
                      cases kq with
                      | zero => exact absurd HA.out (by simp [chalklineref01_GetInt.j2])
                      | succ kj10 =>
                        have H := HA.out
                        clear HA
                        simp only [chalklineref01_GetInt.j2] at H
                        by_cases c16 : x49_10 = true
                        · subst c16
                          have H1 : (some (0, 0, 11)) = some (r1, r2, r3) := by rw [if_pos rfl] at H; exact H
                          clear H
                          have H := H1
                          clear H1
                          simp only [Option.some.injEq, Prod.mk.injEq] at H
                          obtain ⟨rfl, rfl, rfl⟩ := H
                          go_wp2
                          go_ret3
                          exact ⟨by first | rfl | (simp; done) | (simp only [← hji8] <;> (first | rfl | simp)) | (simp [*]; done), by repeat (first | exact Drawn0.refl _ | apply Drawn0.step)⟩
                        · replace c16 := Bool.eq_false_iff.mpr c16
                          subst c16
                          have H1 : (if (rd l0 (ji8)) < 128 then (if (Int.tmod (IntKind.u64.wrap (x7_2 + (IntKind.u64.wrap ((IntKind.u64.wrap (Int.tmod (rd l0 (ji8)) 128)) * x8_2)))) 2) = 1 then (some (wrap64 ((wrap64 (-(wrap64 (IntKind.u64.wrap (Int.tdiv (IntKind.u64.wrap (x7_2 + (IntKind.u64.wrap ((IntKind.u64.wrap (Int.tmod (rd l0 (ji8)) 128)) * x8_2)))) 2))))) - 1), wrap64 ((wrap64 (a1 + x9_2)) + 1), 0)) else (some (wrap64 (IntKind.u64.wrap (Int.tdiv (IntKind.u64.wrap (x7_2 + (IntKind.u64.wrap ((IntKind.u64.wrap (Int.tmod (rd l0 (ji8)) 128)) * x8_2)))) 2)), wrap64 ((wrap64 (a1 + x9_2)) + 1), 0))) else (chalklineref01_GetInt.l0 kj10 l0 a1 (IntKind.u64.wrap (x7_2 + (IntKind.u64.wrap ((IntKind.u64.wrap (Int.tmod (rd l0 (ji8)) 128)) * x8_2)))) (IntKind.u64.wrap (x8_2 * 128)) (wrap64 (x9_2 + 1)))) = some (r1, r2, r3) := by rw [if_neg (show ¬ (false = true) by decide)] at H; exact H
                          clear H
                          have H := H1
                          clear H1
                          by_cases c17 : (rd l0 (ji8)) < 128
                          · rw [if_pos c17] at H
                            have c17b0 : decide ((rd l0 (ji8)) < 128) = true := decide_eq_true c17
                            clear c17
                            by_cases c18 : (Int.tmod (IntKind.u64.wrap (x7_2 + (IntKind.u64.wrap ((IntKind.u64.wrap (Int.tmod (rd l0 (ji8)) 128)) * x8_2)))) 2) = 1
                            · rw [if_pos c18] at H
                              have c18b0 : ((Int.tmod (IntKind.u64.wrap (x7_2 + (IntKind.u64.wrap ((IntKind.u64.wrap (Int.tmod (rd l0 (ji8)) 128)) * x8_2)))) 2) == 1) = true := beq_iff_eq.mpr c18
                              have c18b1 : ((Int.tmod (IntKind.u64.wrap (x7_2 + (IntKind.u64.wrap ((IntKind.u64.wrap (Int.tmod (rd l0 (ji8)) 128)) * x8_2)))) 2) != 1) = false := bne_eq_false_iff_eq.mpr c18
                              clear c18
                              simp only [Option.some.injEq, Prod.mk.injEq] at H
                              obtain ⟨rfl, rfl, rfl⟩ := H
                              go_wp2
                              go_ret3
                              exact ⟨by first | rfl | (simp; done) | (simp only [← hji8] <;> (first | rfl | simp)) | (simp [*]; done), by repeat (first | exact Drawn0.refl _ | apply Drawn0.step)⟩
                            · rw [if_neg c18] at H
                              have c18b0 : ((Int.tmod (IntKind.u64.wrap (x7_2 + (IntKind.u64.wrap ((IntKind.u64.wrap (Int.tmod (rd l0 (ji8)) 128)) * x8_2)))) 2) == 1) = false := beq_eq_false_iff_ne.mpr c18
                              have c18b1 : ((Int.tmod (IntKind.u64.wrap (x7_2 + (IntKind.u64.wrap ((IntKind.u64.wrap (Int.tmod (rd l0 (ji8)) 128)) * x8_2)))) 2) != 1) = true := bne_iff_ne.mpr c18
                              simp only [Option.some.injEq, Prod.mk.injEq] at H
                              obtain ⟨rfl, rfl, rfl⟩ := H
                              go_wp2
                              go_ret3
                              exact ⟨by first | rfl | (simp; done) | (simp only [← hji8] <;> (first | rfl | simp)) | (simp [*]; done), by repeat (first | exact Drawn0.refl _ | apply Drawn0.step)⟩
                          · rw [if_neg c17] at H
                            have c17b0 : decide ((rd l0 (ji8)) < 128) = false := decide_eq_false c17
                            clear c17
                            have H' := Aside0.mk H
                            clear H
                            go_wp2
                            go_roundg kj10
                            case measure => have := HJ2.out; have := HK2.out; have := HJ10.out; omega
                            case rel => exact ⟨(IntKind.u64.wrap (x7_2 + (IntKind.u64.wrap ((IntKind.u64.wrap (Int.tmod (rd l0 (ji8)) 128)) * x8_2)))), (IntKind.u64.wrap (x8_2 * 128)), (wrap64 (x9_2 + 1)), (by first | rfl | (simp; done) | (simp only [← hji8] <;> (first | rfl | simp)) | (simp [*]; done)), (by first | rfl | (simp; done) | (simp [*]; done)), (by first | rfl | (simp; done) | (simp [*]; done)), H', ⟨by have := HJ2.out; have := HK2.out; have := HJ10.out; omega⟩, by repeat (first | exact Drawn0.refl _ | apply Drawn0.step)⟩
                  · rw [if_neg c10] at H
                    exact absurd H (by simp)
                · rw [if_neg c9] at H
                  exact absurd H (by simp)
            · rw [if_neg c6] at H
              have c6b0 : decide (x9_2 < 11) = false := decide_eq_false c6
              clear c6
              simp only [Option.some.injEq, Prod.mk.injEq] at H
              obtain ⟨rfl, rfl, rfl⟩ := H
              go_wp2
              go_ret3
              exact ⟨by first | rfl | (simp; done) | (simp [*]; done), by repeat (first | exact Drawn0.refl _ | apply Drawn0.step)⟩
end Go.Proofs.Ytfcdaifaocgjfaa.Pr
end
