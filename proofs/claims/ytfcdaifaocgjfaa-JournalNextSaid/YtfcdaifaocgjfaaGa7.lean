/- Parts of the proof of JournalNext; no condition. -/
import Derived.Test.YtfcdaifaocgjfaaJA
import Derived.Test.YtfcdaifaocgjfaaPr23
import Derived.Test.YtfcdaifaocgjfaaPr15
import Derived.Test.YtfcdaifaocgjfaaGa2
section
namespace Go.Proofs.Ytfcdaifaocgjfaa.Pr
open Go.RowKit Go.Proofs.YtfcdaifaocgjfaaW.PrintWords Go.Proofs.YtfcdaifaocgjfaaW.PrintLast Go.Proofs.YtfcdaifaocgjfaaW.PrintMore
set_option linter.unusedVariables false
set_option linter.unusedSimpArgs false
def chalklinelaw34_live.f : Option (Bool) := some true
def fr14 : List Int := [0, 0, 0, 6, 231, 166, 165, 179, 2, 2, 4, 0, 0, 2]
def v1st : S50 := ⟨1, ⟨[⟨2, 0⟩]⟩, 0, true⟩
theorem lv_put (l : List Int) (n : Int) (u : Nat) (hl : l.length ≤ 1000) (hz : Oc.zz n = u) (hu : u ≤ 127) (hn : Oc.ok64 n = true) : octet_PutInt.f l n = some (l ++ [(u : Int)]) := by
  unfold octet_PutInt.f
  rw [if_pos ⟨hn, by omega⟩]
  show some (l ++ Oc.grp (Oc.zz n)) = _
  rw [hz, Oc.grp_small u hu]
theorem lv_week : week_Put.f 2 [2] [(⟨2, 0⟩ : S76)] = some [2, 2, 4, 0] := by
  unfold week_Put.f
  rw [show (([(⟨2, 0⟩ : S76)].length : Nat) : Int) = 1 from rfl, lv_put [2] 1 2 (by decide) (by decide) (by decide) (by decide), Option.bind_some]
  simp only [week_Put.l0]
  rw [if_pos (by decide), if_pos (by decide), if_pos (by decide)]
  show (octet_PutInt.f [2, 2] 2).bind _ = _
  rw [lv_put [2, 2] 2 4 (by decide) (by decide) (by decide) (by decide), Option.bind_some]
  show (octet_PutInt.f [2, 2, 4] 0).bind _ = _
  rw [lv_put [2, 2, 4] 0 0 (by decide) (by decide) (by decide) (by decide), Option.bind_some, if_neg (by decide +kernel)]
  rfl
theorem lv_rec : journal_record.f 2 1 [(⟨2, 0⟩ : S76)] 0 true = some [2, 2, 4, 0, 0, 2] := by
  unfold journal_record.f
  rw [lv_put [] 1 2 (by decide) (by decide) (by decide) (by decide), Option.bind_some]
  show (week_Put.f 2 [2] _).bind _ = _
  rw [lv_week, Option.bind_some, lv_put [2, 2, 4, 0] 0 0 (by decide) (by decide) (by decide) (by decide), Option.bind_some, if_pos rfl]
  show (octet_PutInt.f [2, 2, 4, 0, 0] 1).bind _ = _
  rw [lv_put [2, 2, 4, 0, 0] 1 2 (by decide) (by decide) (by decide) (by decide)]
  rfl
theorem lv_frame : seal_Frame.f [2, 2, 4, 0, 0, 2] = some (fr14, 0) := by kernel_rfl
theorem lv_none : journal_Read.f [] [] = some ([], [], 0) := by kernel_rfl
theorem lv_may : journal_may.f 1 [(⟨2, 0⟩ : S76)] 0 true = some true := by kernel_rfl
theorem lv_clone : slices_Clone_byte_byte.f [] = some [] := by kernel_rfl
theorem lv_concat : slices_Concat_byte_byte.f [[], fr14] = some fr14 := by kernel_rfl
theorem lv_append : journal_Append.f 2 [] [] 1 [(⟨2, 0⟩ : S76)] 0 true = some ([], fr14, 0) := by
  unfold journal_Append.f
  rw [lv_none, Option.bind_some, if_pos rfl, lv_may, Option.bind_some, if_pos ⟨rfl, by decide +kernel⟩, lv_rec, Option.bind_some, lv_frame, Option.bind_some, if_pos rfl, lv_clone, Option.bind_some, lv_concat, Option.bind_some, if_neg (by decide +kernel)]
theorem lv_scan : seal_Scan.f fr14 = some ([[2, 2, 4, 0, 0, 2]], 14) := by kernel_rfl
theorem lv_c13 : journal_Crash.f [] fr14 13 = some ([], [], 0) := by kernel_rfl
theorem lv_c14 : journal_Crash.f [] fr14 14 = some (fr14, [], 0) := by kernel_rfl
theorem lv_read : journal_Read.f fr14 [] = some ([v1st], [], 0) := by kernel_rfl
theorem lv_vers : chalklineref34_Versions.f 4 [v1st] [v1st] = some true := by kernel_rfl
set_option maxHeartbeats 4000000 in
set_option maxRecDepth 100000 in
theorem chalklinelaw34_live.calls (r : Bool) (w : World) (h : chalklinelaw34_live.f = some r) :
    Calls Try.prog 11 #[] w fun e w' => e = .returned (.bool r) ∧ Below w.heap.size w w' := by
  obtain rfl := Option.some.inj h
  clear h
  go_enter Try.func11, Try.ntmps11
  go_wp2_with fail
  refine (chalklinelaw34_first.calls 1 [(⟨2, 0⟩ : S76)] 0 true w rfl).mono ?_
  rintro e w1 ⟨v1, rfl, ho1, hb1⟩
  obtain ⟨A1, c1, rfl, hc1, hC1⟩ := Kd.R_reads ho1
  have B1 := Aside0.mk hb1
  have C1 := Aside0.mk (And.intro hc1 hC1)
  clear ho1 hb1 hC1 hc1
  go_wp2_with fail
  refine (c_append 2 none 0 [] none 0 [] 1 A1 c1 [(⟨2, 0⟩ : S76)] 0 true [] fr14 0 _ (Kd.C_nil _ _) (Nat.le_refl _) (Kd.C_nil _ _) (Nat.le_refl _) C1.out.2 C1.out.1 lv_append).mono ?_
  rintro e w2 ⟨A2, c2, A3, c3, rfl, hc, hC2, hC3, hb2⟩
  have B2 := Aside0.mk (below_step B1.out hb2)
  have C2 := Aside0.mk (And.intro hc (And.intro hC2 hC3))
  clear hc hC2 hC3 hb2 B1 C1
  go_wp2_with fail
  refine (c_scan A3 c3 fr14 [[2, 2, 4, 0, 0, 2]] 14 _ (Kd.C_alloc C2.out.2.2 _) C2.out.1.2 lv_scan).mono ?_
  rintro e w3 ⟨A4, c4, rfl, hc4, hC4, hb3⟩
  have D3 := Aside0.mk (blk_below (blk_new w2 (.cells #[.slice A2 0 c2, .slice A3 14 c3] 24)) hb3)
  have B3 := Aside0.mk (below_step (below_alloc B2.out _) hb3)
  have C3 := Aside0.mk (And.intro C2.out.1 (And.intro (Kd.C_below (Kd.C_alloc C2.out.2.1 _) hb3) (Kd.C_below (Kd.C_alloc C2.out.2.2 _) hb3)))
  have L3 := Aside0.mk (And.intro hc4 hC4)
  clear hc4 hC4 hb3 B2 C2
  have k0 := dk0 D3.out
  have k1 := dk1 D3.out
  go_wp2_with fail
  refine (c_crash A2 c2 [] A3 c3 fr14 13 [] [] 0 _ C3.out.2.1 C3.out.1.1 C3.out.2.2 C3.out.1.2 lv_c13).mono ?_
  rintro e w4 ⟨A5, c5, A6, c6, rfl, hc5, hC5, hC6, hb4⟩
  have D4 := Aside0.mk (blk_below D3.out hb4)
  have B4 := Aside0.mk (below_step B3.out hb4)
  have C4 := Aside0.mk (And.intro C3.out.1 (And.intro (Kd.C_below C3.out.2.1 hb4) (Kd.C_below C3.out.2.2 hb4)))
  have L4 := Aside0.mk (And.intro L3.out.1 (Kd.C_below L3.out.2 hb4))
  clear hc5 hC5 hC6 hb4 B3 C3 L3 D3 k0 k1
  have k0 := dk0 (blk_alloc D4.out (.cells #[.slice A5 0 c5, .slice A6 0 c6] 24))
  have k1 := dk1 (blk_alloc D4.out (.cells #[.slice A5 0 c5, .slice A6 0 c6] 24))
  go_wp2_with fail
  refine (c_crash A2 c2 [] A3 c3 fr14 14 fr14 [] 0 _ (Kd.C_alloc C4.out.2.1 _) C4.out.1.1 (Kd.C_alloc C4.out.2.2 _) C4.out.1.2 lv_c14).mono ?_
  rintro e w5 ⟨A7, c7, A8, c8, rfl, hc7, hC7, hC8, hb5⟩
  have D5 := Aside0.mk (And.intro (blk_below (blk_alloc D4.out _) hb5) (blk_below (blk_new w4 (.cells #[.slice A5 0 c5, .slice A6 0 c6] 24)) hb5))
  have B5 := Aside0.mk (below_step (below_alloc B4.out _) hb5)
  have C5 := Aside0.mk (And.intro hc7 (And.intro hC7 hC8))
  have L5 := Aside0.mk (And.intro L4.out.1 (Kd.C_below (Kd.C_alloc L4.out.2 _) hb5))
  clear hc7 hC7 hC8 hb5 B4 C4 L4 D4 k0 k1
  go_wp2_with fail
  refine (c_read A7 c7 fr14 A8 c8 [] [v1st] [] 0 _ (Kd.C_alloc C5.out.2.1 _) C5.out.1.1 (Kd.C_alloc C5.out.2.2 _) C5.out.1.2 lv_read).mono ?_
  rintro e w6 ⟨A9, c9, A10, c10, rfl, hc9, hC9, hC10, hb6⟩
  have k20 := dk0 (blk_below (blk_alloc D5.out.1 _) hb6)
  have k21 := dk1 (blk_below (blk_alloc D5.out.1 _) hb6)
  have k40 := dk0 (blk_below (blk_alloc D5.out.2 _) hb6)
  have k41 := dk1 (blk_below (blk_alloc D5.out.2 _) hb6)
  have k70 := dk0 (blk_below (blk_new w5 (.cells #[.slice A7 14 c7, .slice A8 0 c8] 24)) hb6)
  have k71 := dk1 (blk_below (blk_new w5 (.cells #[.slice A7 14 c7, .slice A8 0 c8] 24)) hb6)
  have B6 := Aside0.mk (below_step (below_alloc B5.out _) hb6)
  have R6 := Aside0.mk (And.intro hc9 (And.intro hC9 hC10))
  obtain ⟨ad, A11, c11, rfl, hcell, hle, hC11⟩ := at_L1 (Kd.C_below (Kd.C_alloc L5.out.2 _) hb6) 0 (by decide) (by decide)
  have hs : (convert 22 9 (.slice A11 6 c11)).run Try.prog w6 = .ok (.string ⟨#[2, 2, 4, 0, 0, 2]⟩) w6 := Kd.C_string Try.underlying22 Try.underlying5 Try.underlying9 (xs := [2, 2, 4, 0, 0, 2]) hC11
  have hcell' : w6.cell? ad = some (.slice A11 6 c11) := hcell
  clear hc9 hC9 hC10 hb6 B5 C5 L5 D5 hle hC11 hcell
  go_wp2_with fail
  refine (chalklinelaw34_first.calls 1 [(⟨2, 0⟩ : S76)] 0 true w6 rfl).mono ?_
  rintro e w7 ⟨v12, rfl, ho7, hb7⟩
  obtain ⟨A12, c12, rfl, hc7, hC7⟩ := Kd.R_reads ho7
  have B7 := Aside0.mk (below_step B6.out hb7)
  have R7 := Aside0.mk (And.intro R6.out.1.1 (Kd.C_below R6.out.2.1 hb7))
  have V7 := Aside0.mk (one_version (blk_new w7 (.cells #[.int .i64 1, .slice A12 [(⟨2, 0⟩ : S76)].length c12, .int .i64 0, .bool true] 50)) hc7 (Kd.C_alloc hC7 _))
  clear ho7 hb7 hc7 hC7 B6 R6 k20 k21 k40 k41 k70 k71 hs hcell'
  go_wp2_with fail
  refine (chalklineref34_Versions.calls 4 A9 c9 [v1st] (some ⟨w7.heap.size, 0, none⟩) 1 [v1st] true _ (Kd.C_alloc R7.out.2 _) R7.out.1 V7.out (Nat.le_refl _) lv_vers).mono ?_
  rintro e w8 ⟨rfl, hd8⟩
  have B8 := Aside0.mk (below_step (below_alloc B7.out _) hd8)
  clear hd8 B7 R7 V7
  go_wp2
  go_ret
  exact ⟨rfl, B8.out⟩
end Go.Proofs.Ytfcdaifaocgjfaa.Pr
end
section
namespace Go.Proofs.Ytfcdaifaocgjfaa.Oc
theorem getI_at (l : List Int) (a : Nat) (h : a ≤ l.length) : getI l a = getL (l.drop a) a 0 0 := by
  unfold getI
  rw [if_neg (by omega), if_neg (by omega), Int.toNat_natCast]
theorem pow_pos' (i : Nat) : 0 < 128 ^ i := Nat.pow_pos (by omega)
theorem getL_grp : ∀ (u i v : Nat) (rest : List Int) (a : Int), i ≤ 9 → v < 128 ^ i → v + u * 128 ^ i < 18446744073709551616 → (0 < i → 0 < u) →
    getL (grp u ++ rest) a i v = (unzz (v + u * 128 ^ i), a + i + (grp u).length, 0) := by
  intro u
  induction u using Nat.strongRecOn with
  | _ u ih =>
    intro i v rest a hi hv hlt h0
    have hp := pow_pos' i
    have h9 : i = 9 → u ≤ 1 := by rintro rfl; omega
    by_cases c : 127 < u
    · have hi8 : i ≤ 8 := by
        rcases Nat.lt_or_ge i 9 with h | h
        · omega
        · have := h9 (by omega); omega
      rw [grp_big u c, List.cons_append, getL, if_neg (by omega), if_neg (by omega), if_neg (by omega)]
      have e1 : (((u % 128 + 128 : Nat) : Int)).toNat % 128 = u % 128 := by omega
      have e2 : v + u % 128 * 128 ^ i + u / 128 * 128 ^ (i + 1) = v + u * 128 ^ i := by
        rw [Nat.pow_succ, Nat.mul_comm (128 ^ i) 128, ← Nat.mul_assoc, Nat.add_assoc, ← Nat.add_mul]
        congr 2
        omega
      have e3 : v + u % 128 * 128 ^ i < 128 ^ (i + 1) := by
        have : u % 128 * 128 ^ i ≤ 127 * 128 ^ i := Nat.mul_le_mul_right _ (by omega)
        rw [Nat.pow_succ]; omega
      rw [e1, ih (u / 128) (by omega) (i + 1) _ rest a (by omega) e3 (by rw [e2]; exact hlt) (fun _ => by omega), e2, List.length_cons]
      congr 2
      omega
    · rw [grp_small u (by omega), List.singleton_append, getL]
      rw [if_neg (by rintro ⟨h, h2⟩; have := h9 h; omega), if_neg (by rintro ⟨h, h2⟩; have := h0 h; omega), if_pos (by omega)]
      rw [show ((u : Nat) : Int).toNat % 128 = u by omega]
      rfl
theorem getI_grp (pre rest : List Int) (n : Int) (h : ok64 n = true) : getI (pre ++ (grp (zz n) ++ rest)) pre.length = (n, (pre.length : Int) + (grp (zz n)).length, 0) := by
  rw [getI_at _ _ (by rw [List.length_append]; omega), List.drop_left, getL_grp _ 0 0 rest _ (by omega) (by simp) (by have := zz_lt n h; simpa using this) (fun h => absurd h (by omega))]
  simp [unzz_zz]
/-- The bytes of integers in a row. -/
def C (xs : List Int) : List Int := (xs.map fun x => grp (zz x)).flatten
theorem C_nil : C [] = [] := rfl
end Go.Proofs.Ytfcdaifaocgjfaa.Oc
end
