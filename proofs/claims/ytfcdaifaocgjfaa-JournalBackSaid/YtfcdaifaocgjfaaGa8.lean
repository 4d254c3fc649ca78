/- Parts of the proof of JournalBack; no condition. -/
import Derived.Test.YtfcdaifaocgjfaaGa7
import Derived.Test.YtfcdaifaocgjfaaPr23
import Derived.Test.YtfcdaifaocgjfaaGa5
import Derived.Test.YtfcdaifaocgjfaaGa2
import Derived.Test.YtfcdaifaocgjfaaGa0
import Derived.OpenShut
import Derived.Test.YtfcdaifaocgjfaaPla
import Derived.Test.YtfcdaifaocgjfaaPr10
import Derived.Test.YtfcdaifaocgjfaaGa3
import Derived.Test.YtfcdaifaocgjfaaPr13
import Derived.Test.YtfcdaifaocgjfaaPr24
section
namespace Go.Proofs.Ytfcdaifaocgjfaa.Pr
open Go.RowKit Go.Proofs.YtfcdaifaocgjfaaW.PrintWords Go.Proofs.YtfcdaifaocgjfaaW.PrintLast Go.Proofs.YtfcdaifaocgjfaaW.PrintMore
set_option linter.unusedVariables false
set_option linter.unusedSimpArgs false
def chalklinelaw34_live.f : Option (Bool) := some true
def fr14 : List Int := [0, 0, 0, 6, 231, 166, 165, 179, 2, 2, 4, 0, 0, 2]
def v1st : S50 := ⟨1, ⟨[⟨2, 0⟩]⟩, 0, true⟩
theorem lv_put (l : List Int) (n : Int) (u : Nat) (hl : l.length ≤ 1000) (hz : Oc.zz n = u) (hu : u ≤ 127) (hn : Oc.ok64 n = true) : octet_PutInt.f l n = some (l ++ [(u : Int)]) := by
  unfold octet_PutInt.f
  rw [if_pos ⟨hn, by omega⟩]
  show some (l ++ Oc.grp (Oc.zz n)) = _
  rw [hz, Oc.grp_small u hu]
theorem lv_week : week_Put.f 2 [2] [(⟨2, 0⟩ : S76)] = some [2, 2, 4, 0] := by
  unfold week_Put.f
  rw [show (([(⟨2, 0⟩ : S76)].length : Nat) : Int) = 1 from rfl, lv_put [2] 1 2 (by decide) (by decide) (by decide) (by decide), Option.bind_some]
  simp only [week_Put.l0]
  rw [if_pos (by decide), if_pos (by decide), if_pos (by decide)]
  show (octet_PutInt.f [2, 2] 2).bind _ = _
  rw [lv_put [2, 2] 2 4 (by decide) (by decide) (by decide) (by decide), Option.bind_some]
  show (octet_PutInt.f [2, 2, 4] 0).bind _ = _
  rw [lv_put [2, 2, 4] 0 0 (by decide) (by decide) (by decide) (by decide), Option.bind_some, if_neg (by decide +kernel)]
  rfl
theorem lv_rec : journal_record.f 2 1 [(⟨2, 0⟩ : S76)] 0 true = some [2, 2, 4, 0, 0, 2] := by
  unfold journal_record.f
  rw [lv_put [] 1 2 (by decide) (by decide) (by decide) (by decide), Option.bind_some]
  show (week_Put.f 2 [2] _).bind _ = _
  rw [lv_week, Option.bind_some, lv_put [2, 2, 4, 0] 0 0 (by decide) (by decide) (by decide) (by decide), Option.bind_some, if_pos rfl]
  show (octet_PutInt.f [2, 2, 4, 0, 0] 1).bind _ = _
  rw [lv_put [2, 2, 4, 0, 0] 1 2 (by decide) (by decide) (by decide) (by decide)]
  rfl
theorem lv_frame : seal_Frame.f [2, 2, 4, 0, 0, 2] = some (fr14, 0) := by kernel_rfl
theorem lv_none : journal_Read.f [] [] = some ([], [], 0) := by kernel_rfl
theorem lv_may : journal_may.f 1 [(⟨2, 0⟩ : S76)] 0 true = some true := by kernel_rfl
theorem lv_clone : slices_Clone_byte_byte.f [] = some [] := by kernel_rfl
theorem lv_concat : slices_Concat_byte_byte.f [[], fr14] = some fr14 := by kernel_rfl
theorem lv_append : journal_Append.f 2 [] [] 1 [(⟨2, 0⟩ : S76)] 0 true = some ([], fr14, 0) := by
  unfold journal_Append.f
  rw [lv_none, Option.bind_some, if_pos rfl, lv_may, Option.bind_some, if_pos ⟨rfl, by decide +kernel⟩, lv_rec, Option.bind_some, lv_frame, Option.bind_some, if_pos rfl, lv_clone, Option.bind_some, lv_concat, Option.bind_some, if_neg (by decide +kernel)]
theorem lv_scan : seal_Scan.f fr14 = some ([[2, 2, 4, 0, 0, 2]], 14) := by kernel_rfl
theorem lv_c13 : journal_Crash.f [] fr14 13 = some ([], [], 0) := by kernel_rfl
theorem lv_c14 : journal_Crash.f [] fr14 14 = some (fr14, [], 0) := by kernel_rfl
theorem lv_read : journal_Read.f fr14 [] = some ([v1st], [], 0) := by kernel_rfl
theorem lv_vers : chalklineref34_Versions.f 4 [v1st] [v1st] = some true := by kernel_rfl
set_option maxHeartbeats 4000000 in
set_option maxRecDepth 100000 in
theorem chalklinelaw34_live.calls (r : Bool) (w : World) (h : chalklinelaw34_live.f = some r) :
    Calls Try.prog 11 #[] w fun e w' => e = .returned (.bool r) ∧ Below w.heap.size w w' := by
  obtain rfl := Option.some.inj h
  clear h
  go_enter Try.func11, Try.ntmps11
  go_wp2_with fail
  refine (chalklinelaw34_first.calls 1 [(⟨2, 0⟩ : S76)] 0 true w rfl).mono ?_
  rintro e w1 ⟨v1, rfl, ho1, hb1⟩
  obtain ⟨A1, c1, rfl, hc1, hC1⟩ := Kd.R_reads ho1
  have B1 := Aside0.mk hb1
  have C1 := Aside0.mk (And.intro hc1 hC1)
  clear ho1 hb1 hC1 hc1
  go_wp2_with fail
  refine (c_append 2 none 0 [] none 0 [] 1 A1 c1 [(⟨2, 0⟩ : S76)] 0 true [] fr14 0 _ (Kd.C_nil _ _) (Nat.le_refl _) (Kd.C_nil _ _) (Nat.le_refl _) C1.out.2 C1.out.1 lv_append).mono ?_
  rintro e w2 ⟨A2, c2, A3, c3, rfl, hc, hC2, hC3, hb2⟩
  have B2 := Aside0.mk (below_step B1.out hb2)
  have C2 := Aside0.mk (And.intro hc (And.intro hC2 hC3))
  clear hc hC2 hC3 hb2 B1 C1
  go_wp2_with fail
  refine (c_scan A3 c3 fr14 [[2, 2, 4, 0, 0, 2]] 14 _ (Kd.C_alloc C2.out.2.2 _) C2.out.1.2 lv_scan).mono ?_
  rintro e w3 ⟨A4, c4, rfl, hc4, hC4, hb3⟩
  have D3 := Aside0.mk (blk_below (blk_new w2 (.cells #[.slice A2 0 c2, .slice A3 14 c3] 24)) hb3)
  have B3 := Aside0.mk (below_step (below_alloc B2.out _) hb3)
  have C3 := Aside0.mk (And.intro C2.out.1 (And.intro (Kd.C_below (Kd.C_alloc C2.out.2.1 _) hb3) (Kd.C_below (Kd.C_alloc C2.out.2.2 _) hb3)))
  have L3 := Aside0.mk (And.intro hc4 hC4)
  clear hc4 hC4 hb3 B2 C2
  have k0 := dk0 D3.out
  have k1 := dk1 D3.out
  go_wp2_with fail
  refine (c_crash A2 c2 [] A3 c3 fr14 13 [] [] 0 _ C3.out.2.1 C3.out.1.1 C3.out.2.2 C3.out.1.2 lv_c13).mono ?_
  rintro e w4 ⟨A5, c5, A6, c6, rfl, hc5, hC5, hC6, hb4⟩
  have D4 := Aside0.mk (blk_below D3.out hb4)
  have B4 := Aside0.mk (below_step B3.out hb4)
  have C4 := Aside0.mk (And.intro C3.out.1 (And.intro (Kd.C_below C3.out.2.1 hb4) (Kd.C_below C3.out.2.2 hb4)))
  have L4 := Aside0.mk (And.intro L3.out.1 (Kd.C_below L3.out.2 hb4))
  clear hc5 hC5 hC6 hb4 B3 C3 L3 D3 k0 k1
  have k0 := dk0 (blk_alloc D4.out (.cells #[.slice A5 0 c5, .slice A6 0 c6] 24))
  have k1 := dk1 (blk_alloc D4.out (.cells #[.slice A5 0 c5, .slice A6 0 c6] 24))
  go_wp2_with fail
  refine (c_crash A2 c2 [] A3 c3 fr14 14 fr14 [] 0 _ (Kd.C_alloc C4.out.2.1 _) C4.out.1.1 (Kd.C_alloc C4.out.2.2 _) C4.out.1.2 lv_c14).mono ?_
  rintro e w5 ⟨A7, c7, A8, c8, rfl, hc7, hC7, hC8, hb5⟩
  have D5 := Aside0.mk (And.intro (blk_below (blk_alloc D4.out _) hb5) (blk_below (blk_new w4 (.cells #[.slice A5 0 c5, .slice A6 0 c6] 24)) hb5))
  have B5 := Aside0.mk (below_step (below_alloc B4.out _) hb5)
  have C5 := Aside0.mk (And.intro hc7 (And.intro hC7 hC8))
  have L5 := Aside0.mk (And.intro L4.out.1 (Kd.C_below (Kd.C_alloc L4.out.2 _) hb5))
  clear hc7 hC7 hC8 hb5 B4 C4 L4 D4 k0 k1
  go_wp2_with fail
  refine (c_read A7 c7 fr14 A8 c8 [] [v1st] [] 0 _ (Kd.C_alloc C5.out.2.1 _) C5.out.1.1 (Kd.C_alloc C5.out.2.2 _) C5.out.1.2 lv_read).mono ?_
  rintro e w6 ⟨A9, c9, A10, c10, rfl, hc9, hC9, hC10, hb6⟩
  have k20 := dk0 (blk_below (blk_alloc D5.out.1 _) hb6)
  have k21 := dk1 (blk_below (blk_alloc D5.out.1 _) hb6)
  have k40 := dk0 (blk_below (blk_alloc D5.out.2 _) hb6)
  have k41 := dk1 (blk_below (blk_alloc D5.out.2 _) hb6)
  have k70 := dk0 (blk_below (blk_new w5 (.cells #[.slice A7 14 c7, .slice A8 0 c8] 24)) hb6)
  have k71 := dk1 (blk_below (blk_new w5 (.cells #[.slice A7 14 c7, .slice A8 0 c8] 24)) hb6)
  have B6 := Aside0.mk (below_step (below_alloc B5.out _) hb6)
  have R6 := Aside0.mk (And.intro hc9 (And.intro hC9 hC10))
  obtain ⟨ad, A11, c11, rfl, hcell, hle, hC11⟩ := at_L1 (Kd.C_below (Kd.C_alloc L5.out.2 _) hb6) 0 (by decide) (by decide)
  have hs : (convert 22 9 (.slice A11 6 c11)).run Try.prog w6 = .ok (.string ⟨#[2, 2, 4, 0, 0, 2]⟩) w6 := Kd.C_string Try.underlying22 Try.underlying5 Try.underlying9 (xs := [2, 2, 4, 0, 0, 2]) hC11
  have hcell' : w6.cell? ad = some (.slice A11 6 c11) := hcell
  clear hc9 hC9 hC10 hb6 B5 C5 L5 D5 hle hC11 hcell
  go_wp2_with fail
  refine (chalklinelaw34_first.calls 1 [(⟨2, 0⟩ : S76)] 0 true w6 rfl).mono ?_
  rintro e w7 ⟨v12, rfl, ho7, hb7⟩
  obtain ⟨A12, c12, rfl, hc7, hC7⟩ := Kd.R_reads ho7
  have B7 := Aside0.mk (below_step B6.out hb7)
  have R7 := Aside0.mk (And.intro R6.out.1.1 (Kd.C_below R6.out.2.1 hb7))
  have V7 := Aside0.mk (one_version (blk_new w7 (.cells #[.int .i64 1, .slice A12 [(⟨2, 0⟩ : S76)].length c12, .int .i64 0, .bool true] 50)) hc7 (Kd.C_alloc hC7 _))
  clear ho7 hb7 hc7 hC7 B6 R6 k20 k21 k40 k41 k70 k71 hs hcell'
  go_wp2_with fail
  refine (chalklineref34_Versions.calls 4 A9 c9 [v1st] (some ⟨w7.heap.size, 0, none⟩) 1 [v1st] true _ (Kd.C_alloc R7.out.2 _) R7.out.1 V7.out (Nat.le_refl _) lv_vers).mono ?_
  rintro e w8 ⟨rfl, hd8⟩
  have B8 := Aside0.mk (below_step (below_alloc B7.out _) hd8)
  clear hd8 B7 R7 V7
  go_wp2
  go_ret
  exact ⟨rfl, B8.out⟩
end Go.Proofs.Ytfcdaifaocgjfaa.Pr
end
section
namespace Go.Proofs.Ytfcdaifaocgjfaa.Oc
theorem getI_at (l : List Int) (a : Nat) (h : a ≤ l.length) : getI l a = getL (l.drop a) a 0 0 := by
  unfold getI
  rw [if_neg (by omega), if_neg (by omega), Int.toNat_natCast]
theorem pow_pos' (i : Nat) : 0 < 128 ^ i := Nat.pow_pos (by omega)
theorem getL_grp : ∀ (u i v : Nat) (rest : List Int) (a : Int), i ≤ 9 → v < 128 ^ i → v + u * 128 ^ i < 18446744073709551616 → (0 < i → 0 < u) →
    getL (grp u ++ rest) a i v = (unzz (v + u * 128 ^ i), a + i + (grp u).length, 0) := by
  intro u
  induction u using Nat.strongRecOn with
  | _ u ih =>
    intro i v rest a hi hv hlt h0
    have hp := pow_pos' i
    have h9 : i = 9 → u ≤ 1 := by rintro rfl; omega
    by_cases c : 127 < u
    · have hi8 : i ≤ 8 := by
        rcases Nat.lt_or_ge i 9 with h | h
        · omega
        · have := h9 (by omega); omega
      rw [grp_big u c, List.cons_append, getL, if_neg (by omega), if_neg (by omega), if_neg (by omega)]
      have e1 : (((u % 128 + 128 : Nat) : Int)).toNat % 128 = u % 128 := by omega
      have e2 : v + u % 128 * 128 ^ i + u / 128 * 128 ^ (i + 1) = v + u * 128 ^ i := by
        rw [Nat.pow_succ, Nat.mul_comm (128 ^ i) 128, ← Nat.mul_assoc, Nat.add_assoc, ← Nat.add_mul]
        congr 2
        omega
      have e3 : v + u % 128 * 128 ^ i < 128 ^ (i + 1) := by
        have : u % 128 * 128 ^ i ≤ 127 * 128 ^ i := Nat.mul_le_mul_right _ (by omega)
        rw [Nat.pow_succ]; omega
      rw [e1, ih (u / 128) (by omega) (i + 1) _ rest a (by omega) e3 (by rw [e2]; exact hlt) (fun _ => by omega), e2, List.length_cons]
      congr 2
      omega
    · rw [grp_small u (by omega), List.singleton_append, getL]
      rw [if_neg (by rintro ⟨h, h2⟩; have := h9 h; omega), if_neg (by rintro ⟨h, h2⟩; have := h0 h; omega), if_pos (by omega)]
      rw [show ((u : Nat) : Int).toNat % 128 = u by omega]
      rfl
theorem getI_grp (pre rest : List Int) (n : Int) (h : ok64 n = true) : getI (pre ++ (grp (zz n) ++ rest)) pre.length = (n, (pre.length : Int) + (grp (zz n)).length, 0) := by
  rw [getI_at _ _ (by rw [List.length_append]; omega), List.drop_left, getL_grp _ 0 0 rest _ (by omega) (by simp) (by have := zz_lt n h; simpa using this) (fun h => absurd h (by omega))]
  simp [unzz_zz]
/-- The bytes of integers in a row. -/
def C (xs : List Int) : List Int := (xs.map fun x => grp (zz x)).flatten
theorem C_nil : C [] = [] := rfl
end Go.Proofs.Ytfcdaifaocgjfaa.Oc
end
section
namespace Go.Proofs.Ytfcdaifaocgjfaa.Pure
open Go.RowKit Go.Proofs.Ytfcdaifaocgjfaa.Pr Go.Proofs.YtfcdaifaocgjfaaW.PrintWords Go.Proofs.YtfcdaifaocgjfaaW.PrintLast
theorem up {α : Type} {f : Nat → Option α} (h : ∀ k, LeO (f k) (f (k + 1))) {k : Nat} {r : α} (hk : f k = some r) : ∀ k', k ≤ k' → f k' = some r := by
  intro k' hle
  obtain ⟨e, rfl⟩ : ∃ e, k' = k + e := ⟨k' - k, by omega⟩
  clear hle
  induction e with
  | zero => exact hk
  | succ e ih => exact h _ _ ih
theorem w64 {n : Int} (h0 : -9223372036854775808 ≤ n) (h1 : n < 9223372036854775808) : wrap64 n = n := by unfold wrap64; omega
theorem ok64_of {n : Int} (h : (Lit.int .i64 n).wf = true) : Oc.ok64 n = true := by
  have := bounds_i64 h
  simp only [Oc.ok64, Bool.and_eq_true, decide_eq_true_eq]
  omega
end Go.Proofs.Ytfcdaifaocgjfaa.Pure
end
section
namespace Go.Proofs.Ytfcdaifaocgjfaa.Pure
open Go.RowKit Go.Proofs.Ytfcdaifaocgjfaa.Pr Go.Proofs.YtfcdaifaocgjfaaW.PrintWords Go.Proofs.YtfcdaifaocgjfaaW.PrintLast Go.Proofs.YtfcdaifaocgjfaaW.PrintMore
theorem okB_bytes' {l : List Int} (h : Pl.bytes l) : Oc.okB l = true := (Oc.okB_iff l).2 h
theorem scanF_spec (l : List Int) (hb : Pl.bytes l) : ∀ (n a : Nat) (acc : List (List Int)), a ≤ l.length → l.take a = Pl.F acc → (∀ x ∈ acc, Pl.bytes x ∧ x.length ≤ 65536) →
    ∃ g : Nat, (Pl.scanF n l a acc).2 = g ∧ g ≤ l.length ∧ l.take g = Pl.F (Pl.scanF n l a acc).1 ∧ (∀ x ∈ (Pl.scanF n l a acc).1, Pl.bytes x ∧ x.length ≤ 65536) := by
  intro n
  induction n with
  | zero => intro a acc ha hF hx; exact ⟨a, rfl, ha, hF, hx⟩
  | succ n ih =>
    intro a acc ha hF hx
    rw [Pl.scanF]
    rcases Pl.openI_spec l hb a with ⟨e, h, he⟩ | ⟨body, a', haa, h, h1, h2, h3, h4⟩
    · rw [h, if_neg he]
      exact ⟨a, rfl, ha, hF, hx⟩
    · obtain rfl : a = a' := by omega
      rw [h, if_pos rfl]
      have e1 : (a : Int) + 8 + (body.length : Int) = ((a + (8 + body.length) : Nat) : Int) := by omega
      dsimp only
      rw [e1]
      refine ih (a + (8 + body.length)) (acc ++ [body]) (by omega) ?_ ?_
      · rw [List.take_add, hF, h3, Pl.F_append, Pl.F_one]
      · intro x hx'
        rcases List.mem_append.1 hx' with h' | h'
        · exact hx x h'
        · rw [List.mem_singleton.1 h']; exact ⟨h4, h2⟩
theorem scan_spec (l : List Int) (hb : Pl.bytes l) : ∃ g : Nat, (Pl.scanI l).2 = g ∧ g ≤ l.length ∧ l.take g = Pl.F (Pl.scanI l).1 ∧ (∀ x ∈ (Pl.scanI l).1, Pl.bytes x ∧ x.length ≤ 65536) :=
  scanF_spec l hb (l.length + 1) 0 [] (Nat.zero_le _) rfl (fun x hx => by cases hx)
theorem scan_count (l : List Int) (hb : Pl.bytes l) : (Pl.scanI l).1.length ≤ l.length := by
  obtain ⟨g, _, h2, h3, _⟩ := scan_spec l hb
  have := Pl.len_le_F (Pl.scanI l).1
  rw [← h3, List.length_take] at this
  omega
def readM (l : List Int) : Option S50 := if rdOk l = true then some ⟨(rd1 l).1, ⟨(rd2 l).1⟩, (rd3 l).1, (rd4 l).1 == 1⟩ else none
def vers : List (List Int) → Nat → Option (List S50)
  | [], _ => some []
  | x :: xs, n => (readM x).bind fun v => if v.f0 = (n : Int) then (vers xs (n + 1)).map (v :: ·) else none
theorem vers_length : ∀ (xs : List (List Int)) (n : Nat) (vs : List S50), vers xs n = some vs → vs.length = xs.length
  | [], _, vs, h => by cases h; rfl
  | x :: xs, n, vs, h => by
    rw [vers] at h
    obtain ⟨v, _, h⟩ := Option.bind_eq_some_iff.1 h
    split at h
    · obtain ⟨ws, hw, rfl⟩ := Option.map_eq_some_iff.1 h
      rw [List.length_cons, List.length_cons, vers_length xs (n + 1) ws hw]
    · cases h
theorem readM_weeks {l : List Int} {v : S50} (h : readM l = some v) : v.f1.f0.length ≤ 64 ∧ 1 ≤ v.f0 ∧ v.f0 ≤ 1099511627776 ∧ 0 ≤ v.f2 ∧ v.f2 ≤ 1099511627776 := by
  unfold readM at h
  split at h
  · rename_i hok
    obtain rfl := Option.some.inj h
    unfold rdOk rdMay at hok
    simp only [Bool.and_eq_true, decide_eq_true_eq] at hok
    exact ⟨hok.2.2, hok.2.1.1.1.1, hok.2.1.1.1.2, hok.2.1.1.2, hok.2.1.2⟩
  · cases h
theorem vers_weeks : ∀ (xs : List (List Int)) (n : Nat) (vs : List S50), vers xs n = some vs → ∀ v ∈ vs, v.f1.f0.length ≤ 64
  | [], _, vs, h => by cases h; intro v hv; cases hv
  | x :: xs, n, vs, h => by
    rw [vers] at h
    obtain ⟨v, hv, h⟩ := Option.bind_eq_some_iff.1 h
    split at h
    · obtain ⟨ws, hw, rfl⟩ := Option.map_eq_some_iff.1 h
      intro u hu
      rcases List.mem_cons.1 hu with rfl | hu
      · exact (readM_weeks hv).1
      · exact vers_weeks xs (n + 1) ws hw u hu
    · cases h
def res (o : Option (List S50)) (acc : List S50) (N m : Int) : List S50 × Int × Int := match o with
  | some vs => (acc ++ vs, 0, N)
  | none => ([], 340, m)
theorem rdL1' (l : List (List Int)) (i : Nat) (h : i < l.length) : rd_L1 l (i : Int) = l[i] := by simp [rd_L1, List.getD_eq_getElem?_getD, List.getElem?_eq_getElem h]
theorem jread (x : List Int) (hb : Oc.okB x = true) : journal_read.f x = some (journal_read_r x) := by unfold journal_read.f; rw [if_pos hb]
theorem jv_loop (l : List (List Int)) (hb : ∀ x ∈ l, Pl.bytes x) (hl : l.length ≤ 1000000000000) : ∀ (d i n : Nat) (acc : List S50), i + d = l.length → n + d < 4611686018427387904 → acc.length + d < 2000000000000 →
    ∃ m, jv_l0 (d + 1) l (n : Int) acc (i : Int) = some (res (vers (l.drop i) n) acc ((n + d : Nat) : Int) m) := by
  intro d
  induction d with
  | zero =>
    intro i n acc hi hn ha
    refine ⟨0, ?_⟩
    rw [jv_l0, if_neg (by omega), List.drop_eq_nil_of_le (by omega)]
    show some (acc, 0, (n : Int)) = some (acc ++ [], 0, ((n + 0 : Nat) : Int))
    rw [List.append_nil]
    rfl
  | succ d ih =>
    intro i n acc hi hn ha
    have hlt : i < l.length := by omega
    have hx := okB_bytes' (hb l[i] (List.getElem_mem hlt))
    rw [jv_l0, if_pos (show (i : Int) < (l.length : Int) by omega), if_pos (show (0 : Int) ≤ (i : Int) by omega), if_pos (show (0 : Int) ≤ (n : Int) ∧ (n : Int) < 4611686018427387904 from ⟨by omega, by omega⟩), rdL1' l i hlt, jread _ hx, Option.bind_some, List.drop_eq_getElem_cons hlt, vers]
    unfold readM
    by_cases hok : rdOk l[i] = true
    · rw [if_pos hok, if_pos (show (journal_read_r l[i]).2.2.2.2 = true from hok), Option.bind_some]
      by_cases hno : (rd1 l[i]).1 = (n : Int)
      · rw [if_pos hno, if_pos (show (journal_read_r l[i]).1 = (n : Int) from hno), if_pos (by omega), w64 (by omega) (by omega)]
        obtain ⟨m, hm⟩ := ih (i + 1) (n + 1) (acc ++ [⟨(rd1 l[i]).1, ⟨(rd2 l[i]).1⟩, (rd3 l[i]).1, (rd4 l[i]).1 == 1⟩]) (by omega) (by omega) (by rw [List.length_append, List.length_singleton]; omega)
        refine ⟨m, ?_⟩
        have e1 : (n : Int) + 1 = ((n + 1 : Nat) : Int) := by omega
        have e2 : (i : Int) + 1 = ((i + 1 : Nat) : Int) := by omega
        rw [e1, e2]
        refine Eq.trans hm ?_
        cases vers (l.drop (i + 1)) (n + 1) with
        | none => rfl
        | some ws =>
          show some (acc ++ [_] ++ ws, _, _) = some (acc ++ (_ :: ws), _, _)
          rw [List.append_assoc, show n + 1 + d = n + (d + 1) by omega]
          rfl
      · rw [if_neg hno, if_neg (show ¬ (journal_read_r l[i]).1 = (n : Int) from hno)]
        exact ⟨_, rfl⟩
    · rw [if_neg hok, if_neg (show ¬ (journal_read_r l[i]).2.2.2.2 = true from hok)]
      exact ⟨_, rfl⟩
def versI (b : List Int) (n : Nat) : Option (List S50) := if (Pl.scanI b).2 = (b.length : Int) then vers (Pl.scanI b).1 n else none
theorem jvf (b : List Int) (hb : Pl.bytes b) (hl : b.length ≤ 1000000000000) (n : Nat) (hn : n ≤ 1000000000000) : ∃ m, jv_f b (n : Int) = some (res (versI b n) [] ((n + (Pl.scanI b).1.length : Nat) : Int) m) := by
  obtain ⟨g, h1, h2, h3, h4⟩ := scan_spec b hb
  have hc := scan_count b hb
  unfold jv_f versI
  rw [show seal_Scan.f b = some (Pl.scanI b) from by unfold seal_Scan.f; rw [if_pos hl], Option.bind_some]
  by_cases c : (Pl.scanI b).2 = (b.length : Int)
  · rw [if_pos c, if_pos c]
    obtain ⟨m, hm⟩ := jv_loop (Pl.scanI b).1 (fun x hx => (h4 x hx).1) (by omega) (Pl.scanI b).1.length 0 n [] (by omega) (by omega) (by simp; omega)
    exact ⟨m, hm⟩
  · rw [if_neg c, if_neg c]
    exact ⟨_, rfl⟩
def readI (s o : List Int) : List S50 × List S50 × Int :=
  if s.length + o.length > 1048576 then ([], [], 2) else match versI s 1 with
  | none => ([], [], 340)
  | some a => match versI o (1 + (Pl.scanI s).1.length) with
    | none => ([], [], 340)
    | some b => (a, b, 0)
theorem jRead (s o : List Int) (hs : Pl.bytes s) (ho : Pl.bytes o) (hl : s.length ≤ 1000000000000000) (hm : o.length ≤ 1000000000000000) : journal_Read.f s o = some (readI s o) := by
  unfold journal_Read.f readI
  rw [w64 (by omega) (by omega)]
  by_cases c : s.length + o.length > 1048576
  · rw [if_pos c, if_pos (by omega)]
  rw [if_neg c, if_neg (by omega)]
  have hc := scan_count s hs
  obtain ⟨m, h1⟩ := jvf s hs (by omega) 1 (by omega)
  rw [show ((1 : Int)) = ((1 : Nat) : Int) from rfl, h1, Option.bind_some]
  cases versI s 1 with
  | none => rfl
  | some a =>
    show (if (0 : Int) = 0 then _ else _) = _
    rw [if_pos rfl]
    obtain ⟨m2, h2⟩ := jvf o ho (by omega) (1 + (Pl.scanI s).1.length) (by omega)
    show (jv_f o ((1 + (Pl.scanI s).1.length : Nat) : Int)).bind _ = _
    rw [h2, Option.bind_some]
    cases versI o (1 + (Pl.scanI s).1.length) with
    | none => rfl
    | some b => rfl
theorem jCheck (s o : List Int) (hs : Pl.bytes s) (ho : Pl.bytes o) (hl : s.length ≤ 1000000000000000) (hm : o.length ≤ 1000000000000000) : journal_Check.f s o = some (readI s o).2.2 := by
  unfold journal_Check.f
  rw [jRead s o hs ho hl hm, Option.bind_some]
end Go.Proofs.Ytfcdaifaocgjfaa.Pure
end
section
namespace Go.Proofs.Ytfcdaifaocgjfaa.Pure
open Go.RowKit Go.Proofs.Ytfcdaifaocgjfaa.Pr Go.Proofs.YtfcdaifaocgjfaaW.PrintWords Go.Proofs.YtfcdaifaocgjfaaW.PrintLast Go.Proofs.YtfcdaifaocgjfaaW.PrintMore
theorem open_ok (l : List Int) (a : Int) (h : (Pl.openI l a).2.2 = 0) : a + 8 ≤ (Pl.openI l a).2.1 := by
  unfold Pl.openI at h ⊢
  by_cases h0 : a < 0
  · rw [if_pos h0] at h; exact absurd h (by decide)
  rw [if_neg h0] at h ⊢
  by_cases h1 : (l.length : Int) < a
  · rw [if_pos h1] at h; exact absurd h (by decide)
  rw [if_neg h1] at h ⊢
  by_cases h2 : (l.drop a.toNat).length < 8
  · rw [if_pos h2] at h; exact absurd h (by decide)
  rw [if_neg h2] at h ⊢
  by_cases h3 : 65536 < Pl.get4 (l.drop a.toNat)
  · rw [if_pos h3] at h; exact absurd h (by decide)
  rw [if_neg h3] at h ⊢
  by_cases h4 : (l.drop a.toNat).length - 8 < Pl.get4 (l.drop a.toNat)
  · rw [if_pos h4] at h; exact absurd h (by decide)
  rw [if_neg h4] at h ⊢
  by_cases h5 : Pl.sumI (((l.drop a.toNat).drop 8).take (Pl.get4 (l.drop a.toNat))) = Pl.get4 ((l.drop a.toNat).drop 4)
  · rw [if_pos h5]; dsimp only; omega
  · rw [if_neg h5] at h; exact absurd h (by decide)
theorem weeks_loop (l : List S76) (hl : l.length ≤ 1000000000000) : ∀ (d i : Nat), i + d = l.length → ∀ k, d + 1 ≤ k → chalklineref34_Weeks.l0 k (l.length : Int) (i : Int) l l = some true := by
  intro d
  induction d with
  | zero =>
    intro i hi k hk
    obtain ⟨k, rfl⟩ : ∃ j, k = j + 1 := ⟨k - 1, by omega⟩
    rw [chalklineref34_Weeks.l0, if_neg (by omega)]
  | succ d ih =>
    intro i hi k hk
    obtain ⟨k, rfl⟩ : ∃ j, k = j + 1 := ⟨k - 1, by omega⟩
    have e2 : (i : Int) + 1 = ((i + 1 : Nat) : Int) := by omega
    rw [chalklineref34_Weeks.l0, if_pos (show (i : Int) < (l.length : Int) by omega), if_pos (show (0 : Int) ≤ (i : Int) by omega), if_pos (show (i : Int) < (l.length : Int) by omega), if_pos (show (i : Int) < (l.length : Int) by omega), if_neg (by simp), w64 (by omega) (by omega), e2]
    exact ih (i + 1) (by omega) k (by omega)
theorem version_refl (v : S50) (hv : v.f1.f0.length ≤ 100000) (k : Nat) (hk : 100001 ≤ k) : chalklineref34_Version.f k v.f0 v.f1.f0 v.f2 v.f3 v.f0 v.f1.f0 v.f2 v.f3 = some true := by
  unfold chalklineref34_Version.f chalklineref34_Weeks.f
  have h := weeks_loop v.f1.f0 (by omega) v.f1.f0.length 0 (by omega) k (by omega)
  rw [show ((0 : Nat) : Int) = 0 from rfl] at h
  rw [if_pos rfl, if_pos rfl, if_pos (beq_self_eq_true _), if_pos rfl, h]
  rfl
theorem versions_loop (l : List S50) (hl : l.length ≤ 1000000000000) (hv : ∀ v ∈ l, v.f1.f0.length ≤ 100000) : ∀ (d i : Nat), i + d = l.length → ∀ k, d + 100002 ≤ k → chalklineref34_Versions.l0 k l l (l.length : Int) (i : Int) = some true := by
  intro d
  induction d with
  | zero =>
    intro i hi k hk
    obtain ⟨k, rfl⟩ : ∃ j, k = j + 1 := ⟨k - 1, by omega⟩
    rw [chalklineref34_Versions.l0, if_neg (by omega)]
  | succ d ih =>
    intro i hi k hk
    obtain ⟨k, rfl⟩ : ∃ j, k = j + 1 := ⟨k - 1, by omega⟩
    have e2 : (i : Int) + 1 = ((i + 1 : Nat) : Int) := by omega
    have hlt : i < l.length := by omega
    have hr : rd_T50 l (i : Int) = l[i] := by simp [rd_T50, List.getD_eq_getElem?_getD, List.getElem?_eq_getElem hlt]
    rw [chalklineref34_Versions.l0, if_pos (show (i : Int) < (l.length : Int) by omega), if_pos (show (0 : Int) ≤ (i : Int) by omega), if_pos (show (i : Int) < (l.length : Int) by omega), if_pos (show (i : Int) < (l.length : Int) by omega), hr, version_refl l[i] (hv _ (List.getElem_mem hlt)) k (by omega), Option.bind_some, if_pos rfl, w64 (by omega) (by omega), e2]
    exact ih (i + 1) (by omega) k (by omega)
theorem versions_refl (l : List S50) (hl : l.length ≤ 10000000) (hv : ∀ v ∈ l, v.f1.f0.length ≤ 100000) (k : Nat) (hk : 11000000 ≤ k) : chalklineref34_Versions.f k l l = some true := by
  unfold chalklineref34_Versions.f
  rw [if_pos rfl]
  exact versions_loop l (by omega) hv l.length 0 (by omega) k (by omega)
theorem readI_small (s o : List Int) (hs : Pl.bytes s) (ho : Pl.bytes o) : ((readI s o).1.length ≤ 10000000 ∧ ∀ v ∈ (readI s o).1, v.f1.f0.length ≤ 64) ∧ ((readI s o).2.1.length ≤ 10000000 ∧ ∀ v ∈ (readI s o).2.1, v.f1.f0.length ≤ 64) := by
  have hn : (([] : List S50).length ≤ 10000000 ∧ ∀ v ∈ ([] : List S50), v.f1.f0.length ≤ 64) := ⟨by simp, fun v hv => by cases hv⟩
  have key : ∀ (b : List Int) (n : Nat) (vs : List S50), Pl.bytes b → b.length ≤ 1048576 → versI b n = some vs → vs.length ≤ 10000000 ∧ ∀ v ∈ vs, v.f1.f0.length ≤ 64 := by
    intro b n vs hb hl h
    unfold versI at h
    split at h
    · have h1 := vers_length _ _ _ h
      have h2 := scan_count b hb
      exact ⟨by omega, vers_weeks _ _ _ h⟩
    · cases h
  unfold readI
  by_cases c : s.length + o.length > 1048576
  · rw [if_pos c]; exact ⟨hn, hn⟩
  rw [if_neg c]
  cases h1 : versI s 1 with
  | none => exact ⟨hn, hn⟩
  | some a =>
    dsimp only
    cases h2 : versI o (1 + (Pl.scanI s).1.length) with
    | none => exact ⟨hn, hn⟩
    | some b => exact ⟨key s _ a hs (by omega) h1, key o _ b ho (by omega) h2⟩
end Go.Proofs.Ytfcdaifaocgjfaa.Pure
end
section
namespace Go.Proofs.Ytfcdaifaocgjfaa.Pure
open Go.RowKit Go.Proofs.Ytfcdaifaocgjfaa.Pr Go.Proofs.YtfcdaifaocgjfaaW.PrintWords Go.Proofs.YtfcdaifaocgjfaaW.PrintLast Go.Proofs.YtfcdaifaocgjfaaW.PrintMore
theorem bytes_take' {l : List Int} (h : Pl.bytes l) (n : Nat) : Pl.bytes (l.take n) := fun x hx => h x (List.mem_of_mem_take hx)
/-- The bytes of complete frames among the first a. -/
def cutI (o : List Int) (a : Int) : Nat := (Pl.scanI (o.take (mn a (o.length : Int)).toNat)).2.toNat
theorem mn_in (a : Int) (n : Nat) (h : 0 ≤ a) : 0 ≤ mn a (n : Int) ∧ mn a (n : Int) ≤ n := by unfold mn; split <;> omega
theorem cutI_le (o : List Int) (ho : Pl.bytes o) (a : Int) : cutI o a ≤ o.length := by
  unfold cutI
  obtain ⟨g, h1, h2, _⟩ := scan_spec (o.take (mn a (o.length : Int)).toNat) (bytes_take' ho _)
  rw [h1, Int.toNat_natCast]
  rw [List.length_take] at h2
  omega
theorem cutI_eq (o : List Int) (ho : Pl.bytes o) (a : Int) : (Pl.scanI (o.take (mn a (o.length : Int)).toNat)).2 = (cutI o a : Int) := by
  unfold cutI
  obtain ⟨g, h1, _⟩ := scan_spec (o.take (mn a (o.length : Int)).toNat) (bytes_take' ho _)
  rw [h1, Int.toNat_natCast]
def crashI (s o : List Int) (a : Int) : List Int × List Int × Int :=
  if (readI s o).2.2 = 0 then if a < 0 then ([], [], 1) else (s ++ o.take (cutI o a), [], 0) else ([], [], (readI s o).2.2)
def syncI (s o : List Int) : List Int × List Int × Int := if (readI s o).2.2 = 0 then (s ++ o, [], 0) else ([], [], (readI s o).2.2)
theorem jCrash (s o : List Int) (hs : Pl.bytes s) (ho : Pl.bytes o) (hl : s.length ≤ 1000000000) (hm : o.length ≤ 1000000000) (a : Int) : journal_Crash.f s o a = some (crashI s o a) := by
  unfold journal_Crash.f crashI
  rw [jCheck s o hs ho (by omega) (by omega), Option.bind_some]
  by_cases h0 : (readI s o).2.2 = 0
  · rw [if_pos h0, if_pos h0]
    by_cases h1 : a < 0
    · rw [if_pos h1, if_pos h1]
    rw [if_neg h1, if_neg h1]
    have hj := mn_in a o.length (by omega)
    have hc := cutI_le o ho a
    rw [if_pos hj.1, if_pos hj.2, show seal_Scan.f (o.take (mn a (o.length : Int)).toNat) = some (Pl.scanI (o.take (mn a (o.length : Int)).toNat)) from by unfold seal_Scan.f; rw [if_pos (by rw [List.length_take]; omega)], Option.bind_some, cutI_eq o ho a, if_pos (Int.natCast_nonneg _), if_pos (Int.ofNat_le.mpr hc), Int.toNat_natCast]
    unfold slices_Concat_byte_byte.f
    have e : [s, o.take (cutI o a)].flatten = s ++ o.take (cutI o a) := by simp
    rw [e, if_pos (by rw [List.length_append, List.length_take]; omega), Option.bind_some, h0]
  · rw [if_neg h0, if_neg h0]
theorem jSync (s o : List Int) (hs : Pl.bytes s) (ho : Pl.bytes o) (hl : s.length ≤ 1000000000) (hm : o.length ≤ 1000000000) : journal_Sync.f s o = some (syncI s o) := by
  unfold journal_Sync.f syncI
  rw [jCheck s o hs ho (by omega) (by omega), Option.bind_some]
  by_cases h0 : (readI s o).2.2 = 0
  · rw [if_pos h0, if_pos h0]
    unfold slices_Concat_byte_byte.f
    have e : [s, o].flatten = s ++ o := by simp
    rw [e, if_pos (by rw [List.length_append]; omega), Option.bind_some, h0]
  · rw [if_neg h0, if_neg h0]
end Go.Proofs.Ytfcdaifaocgjfaa.Pure
end
section
namespace Go.Proofs.Ytfcdaifaocgjfaa.Pure
set_option linter.unusedVariables false
open Go.RowKit Go.Proofs.Ytfcdaifaocgjfaa.Pr Go.Proofs.YtfcdaifaocgjfaaW.PrintWords Go.Proofs.YtfcdaifaocgjfaaW.PrintLast Go.Proofs.YtfcdaifaocgjfaaW.PrintMore
theorem cut_scan (l : List (List Int)) (hx : ∀ x ∈ l, x.length ≤ 65536) (c W : Nat) (hW : W ≤ l.length) (h1 : ∀ j, j ≤ W → Pl.G l j ≤ c) (h2 : ∀ j, W < j → j ≤ l.length → c < Pl.G l j) : Pl.scanI ((Pl.F l).take c) = (l.take W, ((Pl.G l W : Nat) : Int)) := by
  have hg := h1 W (Nat.le_refl _)
  have e1 : (Pl.F l).take c = Pl.F (l.take W) ++ (Pl.F (l.drop W)).take (c - Pl.G l W) := by
    conv => lhs; rw [Pl.F_split l W, List.take_append]
    rw [List.take_of_length_le (show (Pl.F (l.take W)).length ≤ c from hg)]
    rfl
  rw [e1]
  refine Pl.scan_stop (l.take W) _ (fun x hx' => hx x (List.mem_of_mem_take hx')) ?_
  rcases Nat.lt_or_ge W l.length with h | h
  · have h3 := h2 (W + 1) (by omega) (by omega)
    rw [Pl.G_succ l W h] at h3
    have hb := hx l[W] (List.getElem_mem h)
    rw [List.drop_eq_getElem_cons h, Pl.F_cons, List.take_append_of_le_length (by rw [Pl.frameI_length]; omega)]
    exact Pl.openI_cut _ _ (by omega) _ (by omega)
  · rw [List.drop_eq_nil_of_le h, Pl.F_nil, List.take_nil]
    exact Pl.openI_end _
theorem whole_scan (l : List (List Int)) (hx : ∀ x ∈ l, x.length ≤ 65536) : Pl.scanI (Pl.F l) = (l, (((Pl.F l).length : Nat) : Int)) := by
  have := Pl.scan_stop l [] hx (Pl.openI_end _)
  rwa [List.append_nil] at this
theorem vers_append : ∀ (xs ys : List (List Int)) (n : Nat) (a b : List S50), vers xs n = some a → vers ys (n + xs.length) = some b → vers (xs ++ ys) n = some (a ++ b)
  | [], ys, n, a, b, h, h' => by cases h; simpa using h'
  | x :: xs, ys, n, a, b, h, h' => by
    rw [vers] at h
    obtain ⟨v, hv, h⟩ := Option.bind_eq_some_iff.1 h
    split at h
    · rename_i hn
      obtain ⟨ws, hw, rfl⟩ := Option.map_eq_some_iff.1 h
      have ih := vers_append xs ys (n + 1) ws b hw (by rw [List.length_cons] at h'; rwa [show n + 1 + xs.length = n + (xs.length + 1) by omega])
      rw [List.cons_append, vers, hv, Option.bind_some, if_pos hn, ih]
      rfl
    · cases h
theorem vers_take : ∀ (xs : List (List Int)) (n : Nat) (a : List S50) (W : Nat), vers xs n = some a → vers (xs.take W) n = some (a.take W)
  | [], n, a, W, h => by cases h; simp [vers]
  | x :: xs, n, a, 0, h => by simp [vers]
  | x :: xs, n, a, W + 1, h => by
    rw [vers] at h
    obtain ⟨v, hv, h⟩ := Option.bind_eq_some_iff.1 h
    split at h
    · rename_i hn
      obtain ⟨ws, hw, rfl⟩ := Option.map_eq_some_iff.1 h
      rw [List.take_succ_cons, vers, hv, Option.bind_some, if_pos hn, vers_take xs (n + 1) ws W hw]
      rfl
    · cases h
/-- A valid disk, as the payloads of its frames and the versions that these are. -/
structure Val (s o : List Int) (ms mo : List (List Int)) (a b : List S50) : Prop where
  es : s = Pl.F ms
  eo : o = Pl.F mo
  hs : ∀ x ∈ ms, x.length ≤ 65536
  ho : ∀ x ∈ mo, x.length ≤ 65536
  va : vers ms 1 = some a
  vb : vers mo (1 + ms.length) = some b
  le : s.length + o.length ≤ 1048576
theorem versI_val (b : List Int) (hb : Pl.bytes b) (n : Nat) (vs : List S50) (h : versI b n = some vs) : ∃ m, b = Pl.F m ∧ (∀ x ∈ m, x.length ≤ 65536) ∧ vers m n = some vs ∧ (Pl.scanI b).1 = m := by
  unfold versI at h
  split at h
  · rename_i hg
    obtain ⟨g, h1, h2, h3, h4⟩ := scan_spec b hb
    obtain rfl : g = b.length := by omega
    rw [List.take_length] at h3
    exact ⟨_, h3, fun x hx => (h4 x hx).2, h, rfl⟩
  · cases h
theorem val_of (s o : List Int) (hs : Pl.bytes s) (ho : Pl.bytes o) (h : (readI s o).2.2 = 0) : ∃ ms mo a b, Val s o ms mo a b ∧ readI s o = (a, b, 0) := by
  unfold readI at h ⊢
  by_cases c : s.length + o.length > 1048576
  · rw [if_pos c] at h; exact absurd h (by decide)
  rw [if_neg c] at h ⊢
  cases h1 : versI s 1 with
  | none => rw [h1] at h; dsimp only at h; omega
  | some a =>
    rw [h1] at h
    dsimp only at h ⊢
    cases h2 : versI o (1 + (Pl.scanI s).1.length) with
    | none => rw [h2] at h; dsimp only at h; omega
    | some b =>
      obtain ⟨ms, e1, p1, q1, r1⟩ := versI_val s hs 1 a h1
      obtain ⟨mo, e2, p2, q2, _⟩ := versI_val o ho _ b h2
      rw [r1] at q2
      exact ⟨ms, mo, a, b, ⟨e1, e2, p1, p2, q1, q2, by omega⟩, rfl⟩
theorem readI_F (ms mo : List (List Int)) (a b : List S50) (hs : ∀ x ∈ ms, x.length ≤ 65536) (ho : ∀ x ∈ mo, x.length ≤ 65536) (va : vers ms 1 = some a) (vb : vers mo (1 + ms.length) = some b) (hl : (Pl.F ms).length + (Pl.F mo).length ≤ 1048576) : readI (Pl.F ms) (Pl.F mo) = (a, b, 0) := by
  unfold readI versI
  rw [if_neg (by omega), whole_scan ms hs, if_pos rfl]
  dsimp only
  rw [va]
  dsimp only
  rw [whole_scan mo ho, if_pos rfl]
  dsimp only
  rw [vb]
theorem Val.read {s o : List Int} {ms mo : List (List Int)} {a b : List S50} (h : Val s o ms mo a b) : readI s o = (a, b, 0) := by
  have hl := h.le
  rw [h.es, h.eo] at hl ⊢
  exact readI_F ms mo a b h.hs h.ho h.va h.vb hl
theorem Val.counts {s o : List Int} {ms mo : List (List Int)} {a b : List S50} (h : Val s o ms mo a b) : a.length = ms.length ∧ b.length = mo.length := ⟨vers_length _ _ _ h.va, vers_length _ _ _ h.vb⟩
/-- What a crash leaves. -/
theorem Val.crash {s o : List Int} {ms mo : List (List Int)} {a b : List S50} (h : Val s o ms mo a b) (k : Int) (hk : 0 ≤ k) : ∃ W, W ≤ mo.length ∧ (∀ j, j ≤ W → Pl.G mo j ≤ (mn k (o.length : Int)).toNat) ∧ (∀ j, W < j → j ≤ mo.length → (mn k (o.length : Int)).toNat < Pl.G mo j) ∧
    crashI s o k = (Pl.F (ms ++ mo.take W), [], 0) ∧ Val (Pl.F (ms ++ mo.take W)) [] (ms ++ mo.take W) [] (a ++ b.take W) [] ∧ s ++ o.take (cutI o k) = Pl.F (ms ++ mo.take W) := by
  obtain ⟨W, hW, h1, h2⟩ := Pl.place mo (mn k (o.length : Int)).toNat
  have hc : cutI o k = Pl.G mo W := by
    unfold cutI
    have := cut_scan mo h.ho (mn k (o.length : Int)).toNat W hW h1 h2
    rw [← h.eo] at this
    rw [this, Int.toNat_natCast]
  have ht : o.take (cutI o k) = Pl.F (mo.take W) := by
    rw [hc, h.eo, Pl.F_split mo W]
    exact List.take_left
  have e : s ++ o.take (cutI o k) = Pl.F (ms ++ mo.take W) := by rw [ht, Pl.F_append, h.es]
  have hle : (Pl.F (ms ++ mo.take W)).length ≤ 1048576 := by
    rw [← e, List.length_append, List.length_take]
    have := h.le
    omega
  refine ⟨W, hW, h1, h2, ?_, ⟨rfl, rfl, fun x hx => ?_, fun x hx => (by cases hx), vers_append _ _ _ _ _ h.va (vers_take _ _ _ _ h.vb), rfl, by simpa using hle⟩, e⟩
  · unfold crashI
    rw [h.read, if_pos rfl, if_neg (by omega), e]
  · rcases List.mem_append.1 hx with hx | hx
    · exact h.hs x hx
    · exact h.ho x (List.mem_of_mem_take hx)
end Go.Proofs.Ytfcdaifaocgjfaa.Pure
end
section
namespace Go.Proofs.Ytfcdaifaocgjfaa.Pure
open Go.RowKit Go.Proofs.Ytfcdaifaocgjfaa.Pr Go.Proofs.YtfcdaifaocgjfaaW.PrintWords Go.Proofs.YtfcdaifaocgjfaaW.PrintLast Go.Proofs.YtfcdaifaocgjfaaW.PrintMore
set_option linter.unusedVariables false
set_option linter.unusedSimpArgs false
/-- The bytes of a week's places. -/
def Wk (ws : List S76) : List Int := (ws.map fun p => Oc.grp (Oc.zz p.f0) ++ Oc.grp (Oc.zz p.f1)).flatten
theorem Wk_nil : Wk [] = [] := rfl
theorem Wk_cons (p : S76) (ws : List S76) : Wk (p :: ws) = (Oc.grp (Oc.zz p.f0) ++ Oc.grp (Oc.zz p.f1)) ++ Wk ws := by simp [Wk]
def wok (ws : List S76) : Prop := ∀ p ∈ ws, Oc.ok64 p.f0 = true ∧ Oc.ok64 p.f1 = true
theorem grp10 {n : Int} (h : Oc.ok64 n = true) : (Oc.grp (Oc.zz n)).length ≤ 10 := Oc.grp_ten _ (Oc.zz_lt n h)
theorem Wk_length (ws : List S76) (h : wok ws) : (Wk ws).length ≤ 20 * ws.length := by
  induction ws with
  | nil => simp [Wk]
  | cons p ws ih =>
    have h0 := h p List.mem_cons_self
    have := ih (fun q hq => h q (List.mem_cons_of_mem _ hq))
    have := grp10 h0.1
    have := grp10 h0.2
    rw [Wk_cons, List.length_append, List.length_append, List.length_cons]
    omega
def bit (b : Bool) : Int := if b then 1 else 0
def recI (n : Int) (ws : List S76) (c : Int) (b : Bool) : List Int := Oc.grp (Oc.zz n) ++ (Oc.grp (Oc.zz ws.length) ++ (Wk ws ++ (Oc.grp (Oc.zz c) ++ Oc.grp (Oc.zz (bit b)))))
theorem ok64_nat (n : Nat) (h : n ≤ 1000000000000000) : Oc.ok64 (n : Int) = true := by simp [Oc.ok64]; omega
theorem ok64_bit (b : Bool) : Oc.ok64 (bit b) = true := by cases b <;> decide
theorem recI_length (n : Int) (ws : List S76) (c : Int) (b : Bool) (hn : Oc.ok64 n = true) (hw : wok ws) (hl : ws.length ≤ 1000000000) (hc : Oc.ok64 c = true) : (recI n ws c b).length ≤ 40 + 20 * ws.length := by
  have := grp10 hn
  have := grp10 hc
  have := grp10 (ok64_bit b)
  have := grp10 (ok64_nat ws.length (by omega))
  have := Wk_length ws hw
  unfold recI
  simp only [List.length_append]
  omega
theorem jPut (l : List Int) (n : Int) (hn : Oc.ok64 n = true) (hl : l.length ≤ 1000000000000) : octet_PutInt.f l n = some (l ++ Oc.grp (Oc.zz n)) := by unfold octet_PutInt.f; rw [if_pos ⟨hn, hl⟩]; rfl
theorem rdT76 (l : List S76) (i : Nat) (h : i < l.length) : rd_T76 l (i : Int) = l[i] := by simp [rd_T76, List.getD_eq_getElem?_getD, List.getElem?_eq_getElem h]
theorem weekPut_loop (ws : List S76) (hw : wok ws) (hl : ws.length ≤ 1000000000) : ∀ (d i : Nat) (acc : List Int), i + d = ws.length → acc.length + 20 * d ≤ 900000000000 → ∀ k, d + 1 ≤ k → week_Put.l0 k acc ws (ws.length : Int) (i : Int) = some (acc ++ Wk (ws.drop i)) := by
  intro d
  induction d with
  | zero =>
    intro i acc hi ha k hk
    obtain ⟨k, rfl⟩ : ∃ j, k = j + 1 := ⟨k - 1, by omega⟩
    rw [week_Put.l0, if_neg (by omega), List.drop_eq_nil_of_le (by omega), Wk_nil, List.append_nil]
  | succ d ih =>
    intro i acc hi ha k hk
    obtain ⟨k, rfl⟩ : ∃ j, k = j + 1 := ⟨k - 1, by omega⟩
    have hlt : i < ws.length := by omega
    have hp := hw ws[i] (List.getElem_mem hlt)
    have g0 := grp10 hp.1
    have g1 := grp10 hp.2
    have e2 : (i : Int) + 1 = ((i + 1 : Nat) : Int) := by omega
    rw [week_Put.l0, if_pos (show (i : Int) < (ws.length : Int) by omega), if_pos (show (0 : Int) ≤ (i : Int) by omega), if_pos (show (i : Int) < (ws.length : Int) by omega), rdT76 ws i hlt, jPut _ _ hp.1 (by omega), Option.bind_some, jPut _ _ hp.2 (by rw [List.length_append]; omega), Option.bind_some, w64 (by omega) (by omega), e2,
      ih (i + 1) _ (by omega) (by rw [List.length_append, List.length_append]; omega) k (by omega), List.drop_eq_getElem_cons hlt, Wk_cons]
    simp only [List.append_assoc]
theorem jRecord (n : Int) (ws : List S76) (c : Int) (b : Bool) (hn : Oc.ok64 n = true) (hw : wok ws) (hl : ws.length ≤ 1000000000) (hc : Oc.ok64 c = true) (k : Nat) (hk : ws.length + 1 ≤ k) : journal_record.f k n ws c b = some (recI n ws c b) := by
  have g0 := grp10 hn
  have g1 := grp10 (ok64_nat ws.length (by omega))
  have g2 := Wk_length ws hw
  have g3 := grp10 hc
  unfold journal_record.f week_Put.f
  rw [jPut [] n hn (by simp), Option.bind_some, List.nil_append, jPut _ _ (ok64_nat ws.length (by omega)) (by omega), Option.bind_some]
  have hlp := weekPut_loop ws hw hl ws.length 0 (Oc.grp (Oc.zz n) ++ Oc.grp (Oc.zz ws.length)) (by omega) (by rw [List.length_append]; omega) k hk
  rw [show ((0 : Nat) : Int) = 0 from rfl, List.drop_zero] at hlp
  rw [hlp, Option.bind_some, jPut _ _ hc (by simp only [List.length_append]; omega), Option.bind_some]
  cases b with
  | true =>
    rw [if_pos rfl, jPut _ 1 (by decide) (by simp only [List.length_append]; omega), Option.bind_some]
    simp only [recI, bit, if_true, Bool.false_eq_true, if_false, List.append_assoc]
  | false =>
    rw [if_neg (by decide), jPut _ 0 (by decide) (by simp only [List.length_append]; omega), Option.bind_some]
    simp only [recI, bit, if_true, Bool.false_eq_true, if_false, List.append_assoc]
theorem bytes_grp (u : Nat) : Pl.bytes (Oc.grp u) := by
  induction u using Nat.strongRecOn with
  | _ u ih =>
    by_cases h : 127 < u
    · rw [Oc.grp_big u h]
      intro x hx
      rcases List.mem_cons.1 hx with rfl | hx
      · omega
      · exact ih (u / 128) (by omega) x hx
    · rw [Oc.grp_small u (by omega)]
      intro x hx
      rw [List.mem_singleton.1 hx]
      omega
theorem bytes_Wk (ws : List S76) : Pl.bytes (Wk ws) := by
  induction ws with
  | nil => intro x hx; cases hx
  | cons p ws ih => rw [Wk_cons]; exact Pl.bytes_append (Pl.bytes_append (bytes_grp _) (bytes_grp _)) ih
theorem bytes_recI (n : Int) (ws : List S76) (c : Int) (b : Bool) : Pl.bytes (recI n ws c b) := Pl.bytes_append (bytes_grp _) (Pl.bytes_append (bytes_grp _) (Pl.bytes_append (bytes_Wk _) (Pl.bytes_append (bytes_grp _) (bytes_grp _))))
def appendI (s o : List Int) (n : Int) (ws : List S76) (c : Int) (b : Bool) : List Int × List Int × Int :=
  if (readI s o).2.2 = 0 then
    if rdMay n c ws.length = true ∧ n = ((readI s o).1.length : Int) + ((readI s o).2.1.length : Int) + 1 then
      if s.length + (o ++ Pl.frameI (recI n ws c b)).length > 1048576 then ([], [], 2) else (s, o ++ Pl.frameI (recI n ws c b), 0)
    else ([], [], 1)
  else ([], [], (readI s o).2.2)
theorem may_len {n c : Int} {m : Nat} (h : rdMay n c m = true) : 1 ≤ n ∧ n ≤ 1099511627776 ∧ 0 ≤ c ∧ c ≤ 1099511627776 ∧ m ≤ 64 := by
  unfold rdMay at h
  simp only [Bool.and_eq_true, decide_eq_true_eq] at h
  exact ⟨h.1.1.1.1, h.1.1.1.2, h.1.1.2, h.1.2, h.2⟩
theorem next_eq (s o : List Int) (hs : Pl.bytes s) (ho : Pl.bytes o) (n : Int) : (n != wrap64 (wrap64 (((readI s o).1.length : Int) + ((readI s o).2.1.length : Int)) + 1)) = !(decide (n = ((readI s o).1.length : Int) + ((readI s o).2.1.length : Int) + 1)) := by
  have h := readI_small s o hs ho
  have h1 := h.1.1
  have h2 := h.2.1
  have e1 : wrap64 (((readI s o).1.length : Int) + ((readI s o).2.1.length : Int)) = ((readI s o).1.length : Int) + ((readI s o).2.1.length : Int) := w64 (by omega) (by omega)
  rw [e1, w64 (n := ((readI s o).1.length : Int) + ((readI s o).2.1.length : Int) + 1) (by omega) (by omega)]
  by_cases c : n = ((readI s o).1.length : Int) + ((readI s o).2.1.length : Int) + 1
  · rw [decide_eq_true c]; exact bne_eq_false_iff_eq.mpr c
  · rw [decide_eq_false c]; exact bne_iff_ne.mpr c
theorem jAppend (s o : List Int) (hs : Pl.bytes s) (ho : Pl.bytes o) (hl : s.length ≤ 1000000000) (hm : o.length ≤ 1000000000) (n : Int) (ws : List S76) (c : Int) (b : Bool) (hn : Oc.ok64 n = true) (hw : wok ws) (hc : Oc.ok64 c = true) (k : Nat) (hk : 100 ≤ k) : journal_Append.f k s o n ws c b = some (appendI s o n ws c b) := by
  unfold journal_Append.f appendI
  rw [jRead s o hs ho (by omega) (by omega), Option.bind_some]
  by_cases h0 : (readI s o).2.2 = 0
  case neg => rw [if_neg h0, if_neg h0]
  rw [if_pos h0, if_pos h0, may_eq, Option.bind_some, next_eq s o hs ho n]
  by_cases hg : rdMay n c ws.length = true ∧ n = ((readI s o).1.length : Int) + ((readI s o).2.1.length : Int) + 1
  · rw [if_pos hg, if_pos ⟨hg.1, by rw [decide_eq_true hg.2]; rfl⟩]
    have hlen := (may_len hg.1).2.2.2.2
    have hr := recI_length n ws c b hn hw (by omega) hc
    have hfl := Pl.frameI_length (recI n ws c b)
    rw [jRecord n ws c b hn hw (by omega) hc k (by omega), Option.bind_some, show seal_Frame.f (recI n ws c b) = some (Pl.frameI (recI n ws c b), 0) from by unfold seal_Frame.f; rw [if_neg (by omega)], Option.bind_some, if_pos rfl,
      show slices_Clone_byte_byte.f s = some s from by unfold slices_Clone_byte_byte.f; rw [if_pos (by omega)], Option.bind_some]
    unfold slices_Concat_byte_byte.f
    have e : [o, Pl.frameI (recI n ws c b)].flatten = o ++ Pl.frameI (recI n ws c b) := by simp
    dsimp only
    rw [e, if_pos (by rw [List.length_append]; omega), Option.bind_some, w64 (by omega) (by rw [List.length_append]; omega)]
    by_cases hsz : s.length + (o ++ Pl.frameI (recI n ws c b)).length > 1048576
    · rw [if_pos hsz, if_pos (by omega)]
    · rw [if_neg hsz, if_neg (by omega)]
  · rw [if_neg hg, if_neg (fun h => hg ⟨h.1, by
      have := h.2
      by_cases hc : n = ((readI s o).1.length : Int) + ((readI s o).2.1.length : Int) + 1
      · exact hc
      · rw [decide_eq_false hc] at this; cases this⟩)]
end Go.Proofs.Ytfcdaifaocgjfaa.Pure
end
