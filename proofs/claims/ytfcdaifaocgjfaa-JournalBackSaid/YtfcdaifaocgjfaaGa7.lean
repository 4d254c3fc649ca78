/- Parts of the proof of JournalBack; no condition. -/
import Derived.Test.YtfcdaifaocgjfaaGa0
import Derived.Test.YtfcdaifaocgjfaaPla
import Derived.Test.YtfcdaifaocgjfaaGa4
import Derived.Test.YtfcdaifaocgjfaaPr23
import Derived.Test.YtfcdaifaocgjfaaGa3
import Derived.Test.YtfcdaifaocgjfaaGa1
section
namespace Go.Proofs.Ytfcdaifaocgjfaa.Pr
open Go.RowKit Go.Proofs.YtfcdaifaocgjfaaW.PrintWords Go.Proofs.YtfcdaifaocgjfaaW.PrintLast Go.Proofs.YtfcdaifaocgjfaaW.PrintMore
attribute [local go_sem] max2_int min2_int max_two min_two max_three min_three max_four min_four   -- for this text's walks alone
set_option linter.unusedVariables false
set_option linter.unusedSimpArgs false
def seal_put.f (l0 : List Int) (a1 : Int) : Option (List Int) := (some (([(a1 / 16777216) % 256, (a1 / 65536) % 256, (a1 / 256) % 256, (a1) % 256] : List Int) : List Int)).bind fun y151 => (if l0.length + y151.length < 140737488355328 then (some (l0 ++ y151)) else (none))
set_option maxHeartbeats 8000000 in
set_option maxRecDepth 100000 in
theorem seal_put.calls (P0_ : Nat → Prop) (u9000_ : Value) (l0 : List Int) (a1 : Int) (r : List Int) (w0 w : World) (hB : Below w0.heap.size w0 w) (ho0 : Kd.R (Kd.int .u8) 5 w w0.heap.size P0_ u9000_ l0) (h : seal_put.f l0 a1 = some r) :
    Calls Try.prog 57 #[u9000_, .int .u32 a1] w fun e w' => ∃ v0_ : Value, e = .returned (v0_) ∧ Kd.R (Kd.int .u8) 5 w' w0.heap.size (fun k_ => (P0_ k_ ∨ w.heap.size ≤ k_)) v0_ r ∧ Below w0.heap.size w0 w' ∧ Kept w w' (fun k_ => P0_ k_) := by
  have HO0 := Aside0.mk (show Kd.R (Kd.int .u8) 5 w w0.heap.size (fun k_ => (P0_ k_ ∨ w.heap.size ≤ k_)) u9000_ l0 from Kd.R_mono ho0 (fun k_ hk => (.inl hk)))
  have HK := Aside0.mk (Kept.refl w (fun k_ => P0_ k_))
  have HW0 := Aside0.mk hB.size
  have HB := Aside0.mk hB
  clear hB
  have H : ((some (([(a1 / 16777216) % 256, (a1 / 65536) % 256, (a1 / 256) % 256, (a1) % 256] : List Int) : List Int)).bind fun y151 => (if l0.length + y151.length < 140737488355328 then (some (l0 ++ y151)) else (none))) = some r := h
  clear h
  obtain ⟨y151, hy151⟩ : ∃ y_ : List Int, y_ = (([(a1 / 16777216) % 256, (a1 / 65536) % 256, (a1 / 256) % 256, (a1) % 256] : List Int)) := ⟨_, rfl⟩
  replace H : (if l0.length + y151.length < 140737488355328 then (some (l0 ++ y151)) else (none)) = some r := by first | (rw [hy151]; with_reducible exact H) | (have H2_ := (Option.bind_some _ _).symm.trans H; rw [hy151]; with_reducible exact H2_) | (have H2_ := (Option.bind_some _ _).symm.trans H; with_reducible exact H2_) | with_reducible exact H | (rw [hy151]; exact H) | exact H
  have Ny151 := Aside0.mk hy151
  clear hy151
  by_cases c3 : l0.length + y151.length < 140737488355328
  · rw [if_pos c3] at H
    have LMc3 := Aside0.mk c3
    clear c3
    obtain ⟨y154, hy154⟩ : ∃ y_ : List Int, y_ = (l0 ++ y151) := ⟨_, rfl⟩
    replace H : (some y154) = some r := by first | (rw [hy154]; with_reducible exact H) | (have H2_ := (Option.bind_some _ _).symm.trans H; rw [hy154]; with_reducible exact H2_) | (have H2_ := (Option.bind_some _ _).symm.trans H; with_reducible exact H2_) | with_reducible exact H | (rw [hy154]; exact H) | exact H
    have Ny154 := Aside0.mk hy154
    clear hy154
    obtain rfl := Option.some.inj H
    go_enter Try.func57, Try.ntmps57
    go_wp2_with (first | ((with_reducible refine gate_dst (N := 17) rfl ?_); refine Kd.R_lit (Kd.int .u8) _ 5 ?hg (N := 17) ?hd (xs := ([(a1 / 16777216) % 256, (a1 / 65536) % 256, (a1 / 256) % 256, (a1) % 256] : List Int)) (inner := [.int .u8 ((a1 / 16777216) % 256), .int .u8 ((a1 / 65536) % 256), .int .u8 ((a1 / 256) % 256), .int .u8 ((a1) % 256)]) (ok := fun _ => True) (okp := fun _ => True) ?hr ?hp (fun _ hk => hk) trivial (Below.refl _ _) (Nat.le_refl _) (by simp) ?_; (case hd => rfl); (case hg => rfl); (case hr => first | (go_simp; done) | (go_simp; rfl)); (case hp => exact (Reps.one (show Kd.M (Kd.int .u8) _ _ _ ((a1 / 16777216) % 256) [.int .u8 ((a1 / 16777216) % 256)] from rfl) (Reps.one (show Kd.M (Kd.int .u8) _ _ _ ((a1 / 65536) % 256) [.int .u8 ((a1 / 65536) % 256)] from rfl) (Reps.one (show Kd.M (Kd.int .u8) _ _ _ ((a1 / 256) % 256) [.int .u8 ((a1 / 256) % 256)] from rfl) (Reps.one (show Kd.M (Kd.int .u8) _ _ _ ((a1) % 256) [.int .u8 ((a1) % 256)] from rfl) (Reps.none _ _)))))); intro v152 w4 ho5 hb hg_ hnew_; clear hg_ hnew_; (first | rw [← Ny151.out] at ho5 | (simp only [Int.reduceToNat] at ho5; rw [← Ny151.out] at ho5)); have n0_ := Aside0.mk (Kd.R_elder' (by (with_reducible repeat (first | apply Kd.R_alloc | apply Kd.R_drewN | apply Kd.R_drew)); exact HO0.out) (Kd.R_base ho5) hb); have n1_ := Aside0.mk (Kd.R_lower (Kd.R_new' (Kd.R_newM (M := fun k_ => (P0_ k_ ∨ w.heap.size ≤ k_)) ho5 (by first | exact HK.out.1 | exact (show Kept w _ (fun k_ => P0_ k_) from by repeat (first | (with_reducible first | exact HK.out | apply Kept.alloc | apply Kept.drewN | apply Kept.drew) | exact HK.out)).1) (fun k_ h_ => .inr h_)) (Kd.R_lt (by (with_reducible repeat (first | apply Kd.R_alloc | apply Kd.R_drewN | apply Kd.R_drew)); exact HO0.out))) (below_size (by repeat (first | (with_reducible first | exact HB.out | apply below_alloc | apply pw_below_drewN | apply below_drew1) | exact HB.out)))); have n2_ := Aside0.mk (Kept.below (S := (fun k_ => P0_ k_)) (by repeat (first | (with_reducible first | exact HK.out | apply Kept.alloc | apply Kept.drewN | apply Kept.drew) | exact HK.out)) hb); have n3_ := Aside0.mk (below_step (by repeat (first | (with_reducible first | exact HB.out | apply below_alloc | apply pw_below_drewN | apply below_drew1) | exact HB.out)) hb); clear HO0; clear HK; clear HB; have HO0 := n0_; have HO153 := n1_; have HK := n2_; have HB := n3_; clear n0_ n1_ n2_ n3_; clear hb ho5; obtain ⟨Ao7, co7, eo7⟩ := Kd.R_slice HO153.out; subst eo7) | ((with_reducible refine gate_builtin (b := .append) (xs := #[.tmp 5, .tmp 17]) rfl ?_); at_builtin; refine Kd.R_append_rows (Kd.int .u8) (w0 := w0) w0.heap.size rfl (.tmp 5) (.tmp 17) 22 5 (.int .u8 0) 1 rfl Try.underlying22 info5 rfl (by decide) (by omega) u9000_ l0 y151 _ _ _ (fun k_ => (P0_ k_ ∨ w.heap.size ≤ k_) ∧ some k_ ≠ (.slice Ao7 y151.length co7 : Value).ownBlock) (fun _ => False) rfl rfl ?aO ?aR (fun _ _ h => h) (fun _ h => h.elim) ?aF ?aB ?aS ?aL ?_; (case aR => repeat (first | exact (Kd.R_reads' HO153.out).2.2 | (with_reducible refine Kd.C_alloc ?_ _) | (with_reducible refine Kd.C_drewN ?_ _) | (with_reducible refine Kd.C_drew ?_))); (case aB => exact (by repeat (first | (with_reducible first | exact HB.out | apply below_alloc | apply pw_below_drewN | apply below_drew1) | exact HB.out))); (case aF => exact (fun k_ hk => ⟨(.inr (Nat.le_trans (by first | exact HK.out.1 | exact (show Kept w _ (fun k_ => P0_ k_) from by repeat (first | (with_reducible first | exact HK.out | apply Kept.alloc | apply Kept.drewN | apply Kept.drew) | exact HK.out)).1) hk)), Kd.fresh' (Kd.R_lt (by (with_reducible repeat (first | apply Kd.R_alloc | apply Kd.R_drewN | apply Kd.R_drew)); exact HO153.out)) k_ hk⟩)); (case aO => exact (by (with_reducible repeat (first | apply Kd.R_alloc | apply Kd.R_drewN | apply Kd.R_drew)); exact HO0.out)); (case aS => exact (below_size (by repeat (first | (with_reducible first | exact HB.out | apply below_alloc | apply pw_below_drewN | apply below_drew1) | exact HB.out)))); (case aL => have := LMc3.out; omega); intro v155 w6 ho hb hg hat; rw [← Ny154.out] at ho; have n0_ := Aside0.mk (Kd.R_after (ok := (fun k_ => (P0_ k_ ∨ w.heap.size ≤ k_))) (by (with_reducible repeat (first | apply Kd.R_alloc | apply Kd.R_drewN | apply Kd.R_drew)); exact Kd.R_mono HO153.out (fun _ hk => ⟨hk.1.1, hk.2⟩)) hg hat); have n1_ := Aside0.mk (hb); have n2_ := Aside0.mk (Kept.of_grown (S := (fun k_ => P0_ k_)) hg (by repeat (first | (with_reducible first | exact HK.out | apply Kept.alloc | apply Kept.drewN | apply Kept.drew) | exact HK.out)) (fun k_ e_ => (HO0.out.1 k_ e_).1)); have n3_ := Aside0.mk (ho); clear HO153; clear HB; clear HK; clear HO0; have HO153 := n0_; have HB := n1_; have HK := n2_; have HO156 := n3_; clear n0_ n1_ n2_ n3_; clear ho hb hg hat))
    go_ret
    exact ⟨_, by first | rfl | (simp [errW_none, errW_some] <;> rfl) | (simp [*, errW_none, errW_some] <;> rfl), by (with_reducible repeat (first | apply Kd.R_alloc | apply Kd.R_drewN | apply Kd.R_drew)); exact Kd.R_mono HO156.out (fun _ hk => hk.1), by repeat (first | (with_reducible first | exact HB.out | apply below_alloc | apply pw_below_drewN | apply below_drew1) | exact HB.out), by repeat (first | (with_reducible first | exact HK.out | apply Kept.alloc | apply Kept.drewN | apply Kept.drew) | exact HK.out)⟩
  · rw [if_neg c3] at H
    exact absurd H (by simp)
end Go.Proofs.Ytfcdaifaocgjfaa.Pr
end
section
namespace Go.Proofs.Ytfcdaifaocgjfaa.Pr
open Go.RowKit Go.Proofs.YtfcdaifaocgjfaaW.PrintWords Go.Proofs.YtfcdaifaocgjfaaW.PrintLast Go.Proofs.YtfcdaifaocgjfaaW.PrintMore
attribute [local go_sem] max2_int min2_int max_two min_two max_three min_three max_four min_four   -- for this text's walks alone
set_option linter.unusedVariables false
set_option linter.unusedSimpArgs false
def seal_Frame.f (l0 : List Int) : Option (List Int × Int) := if (l0.length : Int) > 65536 then some ([], 2) else some (Pl.frameI l0, 0)
theorem seal_put_some (l0 : List Int) (a1 : Int) (h : l0.length + 4 < 140737488355328) : seal_put.f l0 a1 = some (l0 ++ Pl.be4 a1) := by
  unfold seal_put.f
  simp only [Option.bind_some, List.length_cons, List.length_nil]
  rw [if_pos (by omega)]
  rfl
set_option maxHeartbeats 2000000 in
set_option maxRecDepth 100000 in
theorem seal_Frame.calls (A0 : Option Addr) (c0 : Nat) (l0 : List Int) (r1 : List Int) (r2 : Int) (w : World) (hr0 : Kd.C (Kd.int .u8) w A0 l0.length l0) (hc0 : l0.length ≤ c0) (h : seal_Frame.f l0 = some (r1, r2)) :
    Calls Try.prog 43 #[.slice A0 l0.length c0] w fun e w' => ∃ v0_ : Value, e = .returned (.tuple #[v0_, .int .i64 r2]) ∧ Kd.R (Kd.int .u8) 5 w' w.heap.size (fun _ => True) v0_ r1 ∧ Below w.heap.size w w' := by
  unfold seal_Frame.f at h
  by_cases hl : (l0.length : Int) > 65536
  · rw [if_pos hl] at h
    simp only [Option.some.injEq, Prod.mk.injEq] at h
    obtain ⟨rfl, rfl⟩ := h
    have hl' : 65536 < l0.length := by omega
    have hd : decide (65536 < l0.length) = true := decide_eq_true hl'
    clear hl hr0 hc0
    go_enter Try.func43, Try.ntmps43
    go_wp2
    go_ret2
    exact ⟨_, rfl, Kd.R_nil _ _ _ _ _, Below.refl _ _⟩
  · rw [if_neg hl] at h
    simp only [Option.some.injEq, Prod.mk.injEq] at h
    obtain ⟨rfl, rfl⟩ := h
    have hl' : l0.length ≤ 65536 := by omega
    have hd : decide (65536 < l0.length) = false := decide_eq_false (by omega)
    have HR := Aside0.mk hr0
    have HC := Aside0.mk hc0
    clear hl hr0 hc0
    obtain ⟨i0, hi, hz0, hz1, hz2⟩ := info_parts info5
    go_enter Try.func43, Try.ntmps43
    go_wp2_with (first
      | (refine wpList_make_own _ rfl _ _ 22 rfl w.heap.size 5 i0 (.int .u8 0) 1 Try.underlying22 hi hz0 hz1 .i64 .i64 _ (8 + l0.length) rfl rfl (by omega) (by rw [hz2]; omega) (by unfold maxLen; omega) (Nat.le_refl _) ?_; intro w1 hown1 hgrow1; have H1 := Aside0.mk (show Kd.R (Kd.int .u8) 5 w1 w.heap.size (fun _ => True) (.slice (some ⟨w.heap.size, 0, none⟩) 0 (8 + l0.length)) [] from Kd.R_of_own hown1 (fun _ _ => trivial)); have B1 := Aside0.mk (show Below w.heap.size w w1 from (Below.refl _ _).grown hgrow1 (Nat.le_refl _) (fun k e => by cases e)); clear hown1 hgrow1)
      | fail)
    clear hi hz0 hz1 hz2
    go_wp2_with fail
    refine (seal_put.calls (fun _ => True) _ [] (l0.length : Int) (Pl.be4 l0.length) w _ B1.out H1.out (seal_put_some [] _ (by simp))).mono ?_
    rintro e w2 ⟨v2, rfl, ho2, hb2, hk2⟩
    have H2 := Aside0.mk (Kd.R_mono ho2 (ok' := fun _ => True) (fun _ _ => trivial))
    have B2 := Aside0.mk hb2
    clear ho2 hb2 hk2 H1 B1
    go_wp2_with fail
    refine (seal_Sum.calls A0 c0 l0 (Pl.sumI l0) _ (Kd.C_below HR.out B2.out) HC.out rfl).mono ?_
    rintro e w3 ⟨rfl, hb3⟩
    have H3 := Aside0.mk (Kd.R_below H2.out hb3)
    have B3 := Aside0.mk (below_step B2.out hb3)
    clear hb3 H2 B2
    go_wp2_with fail
    refine (seal_put.calls (fun _ => True) _ (Pl.be4 l0.length) (Pl.sumI l0) (Pl.be4 l0.length ++ Pl.be4 (Pl.sumI l0)) w _ B3.out H3.out (seal_put_some _ _ (by simp [Pl.be4]))).mono ?_
    rintro e w4 ⟨v4, rfl, ho4, hb4, hk4⟩
    have H4 := Aside0.mk (Kd.R_mono ho4 (ok' := fun _ => True) (fun _ _ => trivial))
    have B4 := Aside0.mk hb4
    clear ho4 hb4 hk4 H3 B3
    have HL := Aside0.mk hl'
    clear hl' hd
    go_wp2_with (at_builtin; refine Kd.R_append_row (w0 := w) (Value.int .u8) (0 : Int) w.heap.size rfl _ _ 22 5 (.int .u8 0) 1 rfl Try.underlying22 info5 rfl (by omega) _ (Pl.be4 l0.length ++ Pl.be4 (Pl.sumI l0)) l0 A0 l0.length c0 (fun _ => True) rfl rfl (fun _ _ => trivial) H4.out (Kd.C_below HR.out B4.out) B4.out B4.out.size (by have := HL.out; simp [Pl.be4]; omega) ?_; intro v5 w5 ho5 hb5 hg5 hat5; have H5 := Aside0.mk ho5; have B5 := Aside0.mk hb5; clear ho5 hb5 hg5 hat5)
    go_ret2
    exact ⟨_, rfl, H5.out, B5.out⟩
end Go.Proofs.Ytfcdaifaocgjfaa.Pr
end
section
namespace Go.Proofs.Ytfcdaifaocgjfaa.Pr
open Go.RowKit Go.Proofs.YtfcdaifaocgjfaaW.PrintWords Go.Proofs.YtfcdaifaocgjfaaW.PrintLast Go.Proofs.YtfcdaifaocgjfaaW.PrintMore
set_option linter.unusedVariables false
set_option linter.unusedSimpArgs false
def journal_Append.f (k : Nat) (l0 l1 : List Int) (n : Int) (l2 : List S76) (m : Int) (b : Bool) : Option (List Int × List Int × Int) :=
  (journal_Read.f l0 l1).bind fun x => if x.2.2 = 0 then (journal_may.f n l2 m b).bind fun t => if t = true ∧ (n != wrap64 (wrap64 ((x.1.length : Int) + (x.2.1.length : Int)) + 1)) = false then
      (journal_record.f k n l2 m b).bind fun rec => (seal_Frame.f rec).bind fun fr => if fr.2 = 0 then (slices_Clone_byte_byte.f l0).bind fun s => (slices_Concat_byte_byte.f [l1, fr.1]).bind fun o =>
        if wrap64 ((s.length : Int) + (o.length : Int)) > 1048576 then some ([], [], 2) else some (s, o, 0)
      else some ([], [], fr.2)
    else some ([], [], 1) else some ([], [], x.2.2)
/-- While a disk is made: the argument's block, the version's, the result's. -/
structure Ap (w : World) (D V : Array Value) (W : World) : Prop where
  hb : Below w.heap.size w W
  d : W.heap[w.heap.size]? = some (.cells D 24)
  v : W.heap[w.heap.size + 1]? = some (.cells V 50)
  x : W.heap[w.heap.size + 1 + 1]? = some (.cells #[.slice none 0 0, .slice none 0 0] 24)
theorem Ap.below {w W W' : World} {D V : Array Value} (h : Ap w D V W) (hb : Below W.heap.size W W') : Ap w D V W' := ⟨below_step h.hb hb, blk_below h.d hb, blk_below h.v hb, blk_below h.x hb⟩
theorem Ap.start (w : World) (D V : Array Value) : Ap w D V (((w.alloc (.cells D 24)).alloc (.cells V 50)).alloc (.cells #[.slice none 0 0, .slice none 0 0] 24)) := by
  have h1 : (w.alloc (.cells D 24)).heap.size = w.heap.size + 1 := by simp
  have h2 : ((w.alloc (.cells D 24)).alloc (.cells V 50)).heap.size = w.heap.size + 1 + 1 := by simp
  refine ⟨below_alloc (below_alloc (below_alloc (Below.refl _ _) _) _) _, blk_alloc (blk_alloc (blk_new _ _) _) _, ?_, ?_⟩
  · have := blk_alloc (blk_new (w.alloc (.cells D 24)) (.cells V 50)) (.cells #[.slice none 0 0, .slice none 0 0] 24); rwa [h1] at this
  · have := blk_new ((w.alloc (.cells D 24)).alloc (.cells V 50)) (.cells #[.slice none 0 0, .slice none 0 0] 24); rwa [h2] at this
theorem Ap.zero {w W : World} {D V : Array Value} (h : Ap w D V W) : ((W.setCell ⟨w.heap.size + 1 + 1, 0, none⟩ (.slice none 0 0)).setCell ⟨w.heap.size + 1 + 1, 1, none⟩ (.slice none 0 0)).heap[w.heap.size + 1 + 1]? = some (.cells #[.slice none 0 0, .slice none 0 0] 24) ∧ Below w.heap.size w ((W.setCell ⟨w.heap.size + 1 + 1, 0, none⟩ (.slice none 0 0)).setCell ⟨w.heap.size + 1 + 1, 1, none⟩ (.slice none 0 0)) :=
  ⟨blk_put (blk_put h.x 0 _ rfl) 1 _ rfl, below_set (below_set h.hb (by omega)) (by omega)⟩
theorem Ap.facts {w W : World} {a0 a1 b0 b1 b2 b3 : Value} (h : Ap w #[a0, a1] #[b0, b1, b2, b3] W) : (W.cell? ⟨w.heap.size, 0, none⟩ = some a0 ∧ W.cell? ⟨w.heap.size, 1, none⟩ = some a1) ∧
    (W.cell? ⟨w.heap.size + 1, 0, none⟩ = some b0 ∧ W.cell? ⟨w.heap.size + 1, 1, none⟩ = some b1 ∧ W.cell? ⟨w.heap.size + 1, 2, none⟩ = some b2 ∧ W.cell? ⟨w.heap.size + 1, 3, none⟩ = some b3) ∧
    (W.cell? ⟨w.heap.size + 1 + 1, 0, none⟩ = some (.slice none 0 0) ∧ W.cell? ⟨w.heap.size + 1 + 1, 1, none⟩ = some (.slice none 0 0)) ∧ W.frozen? ⟨w.heap.size + 1 + 1, 0, none⟩ = false ∧ W.frozen? ⟨w.heap.size + 1 + 1, 1, none⟩ = false :=
  ⟨⟨(blk_cell h.d 0).trans rfl, (blk_cell h.d 1).trans rfl⟩, ⟨(blk_cell h.v 0).trans rfl, (blk_cell h.v 1).trans rfl, (blk_cell h.v 2).trans rfl, (blk_cell h.v 3).trans rfl⟩, ⟨(blk_cell h.x 0).trans rfl, (blk_cell h.x 1).trans rfl⟩, blk_frozen h.x 0, blk_frozen h.x 1⟩
theorem blk_new' {W : World} {o : Obj} {g : Nat} (h : W.heap.size = g) : (W.alloc o).heap[g]? = some o := h ▸ blk_new W o
theorem zfacts {W : World} {g : Nat} (h : W.heap[g]? = some (.cells #[.slice none 0 0, .slice none 0 0] 24)) : W.cell? ⟨g, 0, none⟩ = some (.slice none 0 0) ∧ W.cell? ⟨g, 1, none⟩ = some (.slice none 0 0) ∧ W.frozen? ⟨g, 0, none⟩ = false ∧ W.frozen? ⟨g, 1, none⟩ = false := ⟨(blk_cell h 0).trans rfl, (blk_cell h 1).trans rfl, blk_frozen h 0, blk_frozen h 1⟩
theorem cell_set2 {W : World} {a g j : Nat} {u x y : Value} (h : W.cell? ⟨a, j, none⟩ = some u) (hne : ¬ a = g) : ((W.setCell ⟨g, 0, none⟩ x).setCell ⟨g, 1, none⟩ y).cell? ⟨a, j, none⟩ = some u := by
  rw [World.cell?] at h ⊢
  rw [Below.heap_setCell _ _ _ _ hne, Below.heap_setCell _ _ _ _ hne]
  exact h
theorem R_span {α : Type} {d : Kd α} {e base : Nat} {ok : Nat → Prop} {W : World} {v : Value} {xs : List α} (h : Kd.R d e W base ok v xs) : Kd.R d e W base (fun k => base ≤ k ∧ k < W.heap.size) v xs := Kd.R_mono (Kd.R_bound h) (fun k hk => ⟨hk.2.1, hk.2.2.1⟩)
theorem lit2 {W : World} {g : Nat} {A A' : Option Addr} {c c' : Nat} {l l' : List Int} (h : W.heap[g]? = some (.cells #[.slice A l.length c, .slice A' l'.length c'] 22)) (h0 : Kd.C (Kd.int .u8) W A l.length l) (hc : l.length ≤ c) (h1 : Kd.C (Kd.int .u8) W A' l'.length l') (hc' : l'.length ≤ c') : Kd.C (Kd.slice 5 (Kd.int .u8)) W (some ⟨g, 0, none⟩) [l, l'].length [l, l'] := by
  refine ⟨rfl, by simp, fun _ => ⟨_, rfl, fun j p hj => ?_⟩⟩
  match j, hj with
  | 0, hj =>
    obtain rfl : l = p := Option.some.inj hj
    refine ⟨[.slice A l.length c], rfl, ⟨A, c, rfl, hc, h0⟩, fun i u hu => ?_⟩
    obtain rfl : i = 0 := by have := (List.getElem?_eq_some_iff.1 hu).1; simpa using this
    rw [← Option.some.inj hu]
    exact (blk_cell h 0).trans rfl
  | 1, hj =>
    obtain rfl : l' = p := Option.some.inj hj
    refine ⟨[.slice A' l'.length c'], rfl, ⟨A', c', rfl, hc', h1⟩, fun i u hu => ?_⟩
    obtain rfl : i = 0 := by have := (List.getElem?_eq_some_iff.1 hu).1; simpa using this
    rw [← Option.some.inj hu]
    exact (blk_cell h 1).trans rfl
  | j + 2, hj => simp at hj
theorem row_alloc {W W' : World} {A : Option Addr} {c base : Nat} {ok P : Nat → Prop} {xs : List Int} (h : Kd.R (Kd.int .u8) 5 W base ok (.slice A xs.length c) xs) (hb : Below W.heap.size W W') (hP : ∀ k, ok k → P k) (o : Obj) : Kd.F (Kd.int .u8) (W'.alloc o) P A xs.length xs := Kd.F_alloc (Kd.F_mono (Kd.R_F (Kd.R_below h hb)) hP) o
theorem row_set {W W' : World} {A : Option Addr} {c base g : Nat} {ok P : Nat → Prop} {xs : List Int} (h : Kd.R (Kd.int .u8) 5 W base ok (.slice A xs.length c) xs) (hb : Below W.heap.size W W') (hP : ∀ k, ok k → P k) (hok : ∀ k, ok k → k ≠ g) (x y : Value) : Kd.F (Kd.int .u8) ((W'.setCell ⟨g, 0, none⟩ x).setCell ⟨g, 1, none⟩ y) P A xs.length xs :=
  Kd.F_mono (Kd.F_far (p := ⟨g, 1, none⟩) (Kd.F_far (p := ⟨g, 0, none⟩) (Kd.R_F (Kd.R_below h hb)) hok x) hok y) hP
theorem Ap.set2 {w W : World} {D V : Array Value} (h : Ap w D V W) {g : Nat} (hg : w.heap.size + 1 + 1 < g) (x y : Value) : Ap w D V ((W.setCell ⟨g, 0, none⟩ x).setCell ⟨g, 1, none⟩ y) :=
  ⟨below_set (below_set h.hb (by omega)) (by omega), blk_far (p := ⟨g, 1, none⟩) (blk_far (p := ⟨g, 0, none⟩) h.d (show w.heap.size ≠ g by omega) x) (show w.heap.size ≠ g by omega) y,
    blk_far (p := ⟨g, 1, none⟩) (blk_far (p := ⟨g, 0, none⟩) h.v (show w.heap.size + 1 ≠ g by omega) x) (show w.heap.size + 1 ≠ g by omega) y, blk_far (p := ⟨g, 1, none⟩) (blk_far (p := ⟨g, 0, none⟩) h.x (show w.heap.size + 1 + 1 ≠ g by omega) x) (show w.heap.size + 1 + 1 ≠ g by omega) y⟩
set_option maxHeartbeats 8000000 in
set_option maxRecDepth 100000 in
theorem c_append (k : Nat) (A0 : Option Addr) (c0 : Nat) (l0 : List Int) (A1 : Option Addr) (c1 : Nat) (l1 : List Int) (n : Int) (A2 : Option Addr) (c2 : Nat) (l2 : List S76) (m : Int) (b : Bool) (r1 r2 : List Int) (r3 : Int) (w : World) (h0 : Kd.C (Kd.int .u8) w A0 l0.length l0) (hc0 : l0.length ≤ c0) (h1 : Kd.C (Kd.int .u8) w A1 l1.length l1) (hc1 : l1.length ≤ c1) (h2 : Kd.C k76 w A2 l2.length l2) (hc2 : l2.length ≤ c2) (h : journal_Append.f k l0 l1 n l2 m b = some (r1, r2, r3)) :
    Calls Try.prog 25 #[.agg #[.slice A0 l0.length c0, .slice A1 l1.length c1], .agg #[.int .i64 n, .slice A2 l2.length c2, .int .i64 m, .bool b]] w (DkRet w r1 r2 r3) := by
  unfold journal_Append.f at h
  replace h := Option.bind_eq_some_iff.mp h
  obtain ⟨⟨x1, x2, e⟩, hR, h⟩ := h
  dsimp only at h
  have S := Aside0.mk (Ap.start w #[.slice A0 l0.length c0, .slice A1 l1.length c1] #[.int .i64 n, .slice A2 l2.length c2, .int .i64 m, .bool b])
  have RA := Aside0.mk hR
  have CC := Aside0.mk (And.intro (And.intro h0 hc0) (And.intro (And.intro h1 hc1) (And.intro h2 hc2)))
  clear hR h0 hc0 h1 hc1 h2 hc2
  by_cases ce : e = 0
  case neg =>
    rw [if_neg ce] at h
    simp only [Option.some.injEq, Prod.mk.injEq] at h
    obtain ⟨rfl, rfl, rfl⟩ := h
    have cb : (e != 0) = true := bne_iff_ne.mpr ce
    clear ce
    go_enter Try.func25, Try.ntmps25
    go_wp2_with fail
    refine (c_read A0 c0 l0 A1 c1 l1 x1 x2 e _ (Kd.C_below CC.out.1.1 S.out.hb) CC.out.1.2 (Kd.C_below CC.out.2.1.1 S.out.hb) CC.out.2.1.2 RA.out).mono ?_
    rintro e_ w1 ⟨B1, d1, B2, d2, rfl, hd, hC1, hC2, hb1⟩
    have S1 := Aside0.mk (S.out.below hb1)
    clear hd hC1 hC2 hb1 S
    obtain ⟨_, _, ⟨kx0, kx1⟩, kf0, kf1⟩ := S1.out.facts
    go_wp2
    refine bodyPost_ret (results_ct rfl _ _ (w.heap.size + 1 + 1) 24 #[.slice none 0 0, .slice none 0 0] (0, 0) _ rfl S1.out.zero.1 Try.underlying24 rfl (by kernel_rfl)) rfl (dk_none S1.out.zero.2)
  subst ce
  rw [if_pos rfl] at h
  replace h := Option.bind_eq_some_iff.mp h
  obtain ⟨t, hM, h⟩ := h
  have MA := Aside0.mk hM
  clear hM
  by_cases cg : t = true ∧ (n != wrap64 (wrap64 ((x1.length : Int) + (x2.length : Int)) + 1)) = false
  case neg =>
    rw [if_neg cg] at h
    simp only [Option.some.injEq, Prod.mk.injEq] at h
    obtain ⟨rfl, rfl, rfl⟩ := h
    cases t with
    | false =>
      clear cg
      go_enter Try.func25, Try.ntmps25
      go_wp2_with fail
      refine (c_read A0 c0 l0 A1 c1 l1 x1 x2 0 _ (Kd.C_below CC.out.1.1 S.out.hb) CC.out.1.2 (Kd.C_below CC.out.2.1.1 S.out.hb) CC.out.2.1.2 RA.out).mono ?_
      rintro e_ w1 ⟨B1, d1, B2, d2, rfl, hd, hC1, hC2, hb1⟩
      have S1 := Aside0.mk (S.out.below hb1)
      clear hd hC1 hC2 hb1 S
      obtain ⟨⟨kd0, kd1⟩, ⟨kv0, kv1, kv2, kv3⟩, ⟨kx0, kx1⟩, kf0, kf1⟩ := S1.out.facts
      go_wp2_with fail
      refine (journal_may.calls n A2 c2 l2 m b false _ (Kd.C_below CC.out.2.2.1 S1.out.hb) CC.out.2.2.2 MA.out).mono ?_
      rintro e_ w2 ⟨rfl, hb2⟩
      have S2 := Aside0.mk (S1.out.below hb2)
      clear hb2 S1 kd0 kd1 kv0 kv1 kv2 kv3 kx0 kx1 kf0 kf1
      obtain ⟨⟨kd0, kd1⟩, ⟨kv0, kv1, kv2, kv3⟩, ⟨kx0, kx1⟩, kf0, kf1⟩ := S2.out.facts
      go_wp2
      refine bodyPost_ret (results_ct rfl _ _ (w.heap.size + 1 + 1) 24 #[.slice none 0 0, .slice none 0 0] (0, 0) _ rfl S2.out.zero.1 Try.underlying24 rfl (by kernel_rfl)) rfl (dk_none S2.out.zero.2)
    | true =>
      have cn : (n != wrap64 (wrap64 ((x1.length : Int) + (x2.length : Int)) + 1)) = true := by
        cases hc : (n != wrap64 (wrap64 ((x1.length : Int) + (x2.length : Int)) + 1)) with
        | true => rfl
        | false => exact absurd ⟨rfl, hc⟩ cg
      clear cg
      go_enter Try.func25, Try.ntmps25
      go_wp2_with fail
      refine (c_read A0 c0 l0 A1 c1 l1 x1 x2 0 _ (Kd.C_below CC.out.1.1 S.out.hb) CC.out.1.2 (Kd.C_below CC.out.2.1.1 S.out.hb) CC.out.2.1.2 RA.out).mono ?_
      rintro e_ w1 ⟨B1, d1, B2, d2, rfl, hd, hC1, hC2, hb1⟩
      have S1 := Aside0.mk (S.out.below hb1)
      clear hd hC1 hC2 hb1 S
      obtain ⟨⟨kd0, kd1⟩, ⟨kv0, kv1, kv2, kv3⟩, ⟨kx0, kx1⟩, kf0, kf1⟩ := S1.out.facts
      go_wp2_with fail
      refine (journal_may.calls n A2 c2 l2 m b true _ (Kd.C_below CC.out.2.2.1 S1.out.hb) CC.out.2.2.2 MA.out).mono ?_
      rintro e_ w2 ⟨rfl, hb2⟩
      have S2 := Aside0.mk (S1.out.below hb2)
      clear hb2 S1 kd0 kd1 kv0 kv1 kv2 kv3 kx0 kx1 kf0 kf1
      obtain ⟨⟨kd0, kd1⟩, ⟨kv0, kv1, kv2, kv3⟩, ⟨kx0, kx1⟩, kf0, kf1⟩ := S2.out.facts
      go_wp2
      refine bodyPost_ret (results_ct rfl _ _ (w.heap.size + 1 + 1) 24 #[.slice none 0 0, .slice none 0 0] (0, 0) _ rfl S2.out.zero.1 Try.underlying24 rfl (by kernel_rfl)) rfl (dk_none S2.out.zero.2)
  rw [if_pos cg] at h
  obtain ⟨rfl, cn⟩ := cg
  replace h := Option.bind_eq_some_iff.mp h
  obtain ⟨rec, hRc, h⟩ := h
  replace h := Option.bind_eq_some_iff.mp h
  obtain ⟨⟨fr, e2⟩, hFr, h⟩ := h
  dsimp only at h
  have RC := Aside0.mk hRc
  have FR := Aside0.mk hFr
  clear hRc hFr
  by_cases ce : e2 = 0
  case neg =>
    rw [if_neg ce] at h
    simp only [Option.some.injEq, Prod.mk.injEq] at h
    obtain ⟨rfl, rfl, rfl⟩ := h
    have cb : (e2 != 0) = true := bne_iff_ne.mpr ce
    clear ce
    go_enter Try.func25, Try.ntmps25
    go_wp2_with fail
    refine (c_read A0 c0 l0 A1 c1 l1 x1 x2 0 _ (Kd.C_below CC.out.1.1 S.out.hb) CC.out.1.2 (Kd.C_below CC.out.2.1.1 S.out.hb) CC.out.2.1.2 RA.out).mono ?_
    rintro e_ w1 ⟨B1, d1, B2, d2, rfl, hd, hC1, hC2, hb1⟩
    have S1 := Aside0.mk (S.out.below hb1)
    clear hd hC1 hC2 hb1 S
    obtain ⟨⟨kd0, kd1⟩, ⟨kv0, kv1, kv2, kv3⟩, ⟨kx0, kx1⟩, kf0, kf1⟩ := S1.out.facts
    go_wp2_with fail
    refine (journal_may.calls n A2 c2 l2 m b true _ (Kd.C_below CC.out.2.2.1 S1.out.hb) CC.out.2.2.2 MA.out).mono ?_
    rintro e_ w2 ⟨rfl, hb2⟩
    have S2 := Aside0.mk (S1.out.below hb2)
    clear hb2 S1 kd0 kd1 kv0 kv1 kv2 kv3 kx0 kx1 kf0 kf1
    obtain ⟨⟨kd0, kd1⟩, ⟨kv0, kv1, kv2, kv3⟩, ⟨kx0, kx1⟩, kf0, kf1⟩ := S2.out.facts
    go_wp2_with fail
    refine (journal_record.calls k n A2 c2 l2 m b rec _ (Kd.C_below CC.out.2.2.1 S2.out.hb) CC.out.2.2.2 RC.out).mono ?_
    rintro e_ w3 ⟨v3, rfl, ho3, hb3⟩
    obtain ⟨B3, d3, rfl, hd3, hC3⟩ := Kd.R_reads ho3
    have S3 := Aside0.mk (S2.out.below hb3)
    have C3 := Aside0.mk (And.intro hC3 hd3)
    clear ho3 hb3 hC3 hd3 S2 kd0 kd1 kv0 kv1 kv2 kv3 kx0 kx1 kf0 kf1
    go_wp2_with fail
    refine (seal_Frame.calls B3 d3 rec fr e2 _ C3.out.1 C3.out.2 FR.out).mono ?_
    rintro e_ w4 ⟨v4, rfl, ho4, hb4⟩
    obtain ⟨B4, d4, rfl, hd4, hC4⟩ := Kd.R_reads ho4
    have S4 := Aside0.mk (S3.out.below hb4)
    have C4 := Aside0.mk (And.intro hC4 hd4)
    clear ho4 hb4 hC4 hd4 S3 C3
    obtain ⟨⟨kd0, kd1⟩, ⟨kv0, kv1, kv2, kv3⟩, ⟨kx0, kx1⟩, kf0, kf1⟩ := S4.out.facts
    go_wp2
    refine bodyPost_ret (results_ct rfl _ _ (w.heap.size + 1 + 1) 24 #[.slice none 0 0, .slice none 0 0] (0, 0) _ rfl S4.out.zero.1 Try.underlying24 rfl (by kernel_rfl)) rfl (dk_none S4.out.zero.2)
  subst ce
  rw [if_pos rfl] at h
  replace h := Option.bind_eq_some_iff.mp h
  obtain ⟨s, hS, h⟩ := h
  replace h := Option.bind_eq_some_iff.mp h
  obtain ⟨o, hO, h⟩ := h
  have SO := Aside0.mk (And.intro hS hO)
  have HH := Aside0.mk h
  clear hS hO h
  go_enter Try.func25, Try.ntmps25
  go_wp2_with fail
  refine (c_read A0 c0 l0 A1 c1 l1 x1 x2 0 _ (Kd.C_below CC.out.1.1 S.out.hb) CC.out.1.2 (Kd.C_below CC.out.2.1.1 S.out.hb) CC.out.2.1.2 RA.out).mono ?_
  rintro e_ w1 ⟨B1, d1, B2, d2, rfl, hd, hC1, hC2, hb1⟩
  have S1 := Aside0.mk (S.out.below hb1)
  clear hd hC1 hC2 hb1 S
  obtain ⟨⟨kd0, kd1⟩, ⟨kv0, kv1, kv2, kv3⟩, ⟨kx0, kx1⟩, kf0, kf1⟩ := S1.out.facts
  go_wp2_with fail
  refine (journal_may.calls n A2 c2 l2 m b true _ (Kd.C_below CC.out.2.2.1 S1.out.hb) CC.out.2.2.2 MA.out).mono ?_
  rintro e_ w2 ⟨rfl, hb2⟩
  have S2 := Aside0.mk (S1.out.below hb2)
  clear hb2 S1 kd0 kd1 kv0 kv1 kv2 kv3 kx0 kx1 kf0 kf1
  obtain ⟨⟨kd0, kd1⟩, ⟨kv0, kv1, kv2, kv3⟩, ⟨kx0, kx1⟩, kf0, kf1⟩ := S2.out.facts
  go_wp2_with fail
  refine (journal_record.calls k n A2 c2 l2 m b rec _ (Kd.C_below CC.out.2.2.1 S2.out.hb) CC.out.2.2.2 RC.out).mono ?_
  rintro e_ w3 ⟨v3, rfl, ho3, hb3⟩
  obtain ⟨B3, d3, rfl, hd3, hC3⟩ := Kd.R_reads ho3
  have S3 := Aside0.mk (S2.out.below hb3)
  have C3 := Aside0.mk (And.intro hC3 hd3)
  clear ho3 hb3 hC3 hd3 S2 kd0 kd1 kv0 kv1 kv2 kv3 kx0 kx1 kf0 kf1
  go_wp2_with fail
  refine (seal_Frame.calls B3 d3 rec fr 0 _ C3.out.1 C3.out.2 FR.out).mono ?_
  rintro e_ w4 ⟨v4, rfl, ho4, hb4⟩
  obtain ⟨B4, d4, rfl, hd4, hC4⟩ := Kd.R_reads ho4
  have S4 := Aside0.mk (S3.out.below hb4)
  have C4 := Aside0.mk (And.intro hC4 hd4)
  clear ho4 hb4 hC4 hd4 S3 C3
  obtain ⟨⟨kd0, kd1⟩, ⟨kv0, kv1, kv2, kv3⟩, ⟨kx0, kx1⟩, kf0, kf1⟩ := S4.out.facts
  go_upto_region 9 with fail
  go_cut [9] (fun s9 wx => ∃ (g : Nat) (A : Option Addr) (c : Nat) (A' : Option Addr) (c' : Nat), s9 = .pointer (some ⟨g, 0, none⟩) ∧ Aside0 (Ap w #[.slice A0 l0.length c0, .slice A1 l1.length c1] #[.int .i64 n, .slice A2 l2.length c2, .int .i64 m, .bool b] wx) ∧ Aside0 (wx.heap[g]? = some (.cells #[.slice A s.length c, .slice A' o.length c'] 24)) ∧ Aside0 (s.length ≤ c ∧ o.length ≤ c') ∧ Aside0 (Kd.F (Kd.int .u8) wx (fun k => w.heap.size + 1 + 1 < k) A s.length s ∧ Kd.F (Kd.int .u8) wx (fun k => w.heap.size + 1 + 1 < k) A' o.length o))
  case first =>
    clear kv0 kv1 kv2 kv3 kx0 kx1 kf0 kf1 HH
    have hz := blk_lt S4.out.x
    have ne0 : ¬ w.heap.size = w4.heap.size := by omega
    have ne1 : ¬ w.heap.size = w4.heap.size + 1 := by omega
    go_region_held3 (fun W => W.cell? ⟨w.heap.size, 0, none⟩ = some (.slice A0 l0.length c0) ∧ W.cell? ⟨w.heap.size, 1, none⟩ = some (.slice A1 l1.length c1)) (first | go_keep | exact ⟨cell_set2 (by assumption) (by assumption), cell_set2 (by assumption) (by assumption)⟩)
      (first
        | (go_at_call 33; refine (slices_Clone_byte_byte.calls A0 c0 l0 s _ ?_ CC.out.1.2 SO.out.1).mono ?_; (exact Kd.C_below CC.out.1.1 (by (with_reducible repeat (first | exact S4.out.hb | apply below_alloc | apply below_drew1 | apply pw_below_drewN)))); rintro e_ w5 ⟨v5, rfl, ho5, hb5⟩; have S5 := Aside0.mk (Ap.below (W := _) (Ap.below S4.out (by (with_reducible repeat (first | exact Below.refl _ _ | apply below_alloc | apply below_drew1 | apply pw_below_drewN)))) hb5); obtain ⟨A5, c5, rfl, hc5, hC5⟩ := Kd.R_reads ho5; have H5 := Aside0.mk (R_span ho5); have L5 := Aside0.mk hc5; clear ho5 hc5 hC5; have ne2 : ¬ w.heap.size = w5.heap.size := (by have := blk_lt S5.out.x; omega); have ne3 : ¬ w.heap.size = w5.heap.size + 1 := (by have := blk_lt S5.out.x; omega); have kk0 := S5.out.facts.1.1; have kk1 := S5.out.facts.1.2; (try (have z_ : w5.heap[w4.heap.size]? = some (.cells #[.slice none 0 0, .slice none 0 0] 24) := blk_below ?q hb5; (case q => ((repeat (first | ((with_reducible refine blk_new' ?_); simp; done) | (with_reducible refine blk_alloc ?_ _) | (with_reducible refine blk_drew ?_) | (with_reducible refine blk_drewN ?_ _))); done)); obtain ⟨zc0, zc1, zf0, zf1⟩ := zfacts z_; have Z5 := Aside0.mk z_; clear z_)); (try (have z_ : w5.heap[w4.heap.size + 1]? = some (.cells #[.slice none 0 0, .slice none 0 0] 24) := blk_below ?q hb5; (case q => ((repeat (first | ((with_reducible refine blk_new' ?_); simp; done) | (with_reducible refine blk_alloc ?_ _) | (with_reducible refine blk_drew ?_) | (with_reducible refine blk_drewN ?_ _))); done)); obtain ⟨zc0, zc1, zf0, zf1⟩ := zfacts z_; have Z5 := Aside0.mk z_; clear z_)))
        | (go_at_call 31; refine (slices_Concat_byte_byte.calls _ 2 [l1, fr] o _ (lit2 (by repeat (first | ((with_reducible refine blk_new' ?_); simp; done) | (with_reducible refine blk_alloc ?_ _) | (with_reducible refine blk_drew ?_) | (with_reducible refine blk_drewN ?_ _) | (with_reducible refine blk_below ?_ hb5))) (Kd.C_below CC.out.2.1.1 (by (with_reducible repeat (first | exact S5.out.hb | apply below_alloc | apply below_drew1 | apply pw_below_drewN)))) CC.out.2.1.2 (Kd.C_below C4.out.1 (by (with_reducible repeat (first | exact Below.refl _ _ | refine below_step ?_ hb5 | apply below_alloc | apply below_drew1 | apply pw_below_drewN)))) C4.out.2) (Nat.le_refl _) SO.out.2).mono ?_; rintro e_ w6 ⟨v6, rfl, ho6, hb6⟩; have S6 := Aside0.mk (Ap.below (W := _) (Ap.below S5.out (by (with_reducible repeat (first | exact Below.refl _ _ | apply below_alloc | apply below_drew1 | apply pw_below_drewN)))) hb6); obtain ⟨A6, c6, rfl, hc6, hC6⟩ := Kd.R_reads ho6; have H6 := Aside0.mk (R_span ho6); have L6 := Aside0.mk hc6; clear ho6 hc6 hC6; have ne4 : ¬ w.heap.size = w6.heap.size := (by have := blk_lt S6.out.x; omega); have ne5 : ¬ w.heap.size = w6.heap.size + 1 := (by have := blk_lt S6.out.x; omega); have kq0 := S6.out.facts.1.1; have kq1 := S6.out.facts.1.2; (try (have z_ : w6.heap[w4.heap.size]? = some (.cells #[.slice none 0 0, .slice none 0 0] 24) := blk_below ?q hb6; (case q => ((repeat (first | (with_reducible exact Z5.out) | ((with_reducible refine blk_new' ?_); simp; done) | (with_reducible refine blk_alloc ?_ _) | (with_reducible refine blk_drew ?_) | (with_reducible refine blk_drewN ?_ _))); done)); obtain ⟨zc0, zc1, zf0, zf1⟩ := zfacts z_; have Z6 := Aside0.mk z_; clear z_)); (try (have z_ : w6.heap[w4.heap.size + 1]? = some (.cells #[.slice none 0 0, .slice none 0 0] 24) := blk_below ?q hb6; (case q => ((repeat (first | (with_reducible exact Z5.out) | ((with_reducible refine blk_new' ?_); simp; done) | (with_reducible refine blk_alloc ?_ _) | (with_reducible refine blk_drew ?_) | (with_reducible refine blk_drewN ?_ _))); done)); obtain ⟨zc0, zc1, zf0, zf1⟩ := zfacts z_; have Z6 := Aside0.mk z_; clear z_)); (try (have z_ : w6.heap[w5.heap.size]? = some (.cells #[.slice none 0 0, .slice none 0 0] 24) := blk_below ?q hb6; (case q => ((repeat (first | (with_reducible exact Z5.out) | ((with_reducible refine blk_new' ?_); simp; done) | (with_reducible refine blk_alloc ?_ _) | (with_reducible refine blk_drew ?_) | (with_reducible refine blk_drewN ?_ _))); done)); obtain ⟨zc0, zc1, zf0, zf1⟩ := zfacts z_; have Z6 := Aside0.mk z_; clear z_)); (try (have z_ : w6.heap[w5.heap.size + 1]? = some (.cells #[.slice none 0 0, .slice none 0 0] 24) := blk_below ?q hb6; (case q => ((repeat (first | (with_reducible exact Z5.out) | ((with_reducible refine blk_new' ?_); simp; done) | (with_reducible refine blk_alloc ?_ _) | (with_reducible refine blk_drew ?_) | (with_reducible refine blk_drewN ?_ _))); done)); obtain ⟨zc0, zc1, zf0, zf1⟩ := zfacts z_; have Z6 := Aside0.mk z_; clear z_))))
    all_goals
      go_wp2_with fail
      go_meet
      have z4 := blk_lt S4.out.x
      have z5 := hb5.size
      have z6 := hb6.size
      (try simp at z5); (try simp at z6)
      first
        | exact ⟨_, A5, c5, A6, c6, rfl, ⟨S6.out.below (below_alloc (Below.refl _ _) _)⟩, ⟨blk_new _ _⟩, ⟨⟨L5.out, L6.out⟩⟩, ⟨⟨row_alloc H5.out (below_step (by (with_reducible repeat (first | exact Below.refl _ _ | apply below_alloc))) hb6) (fun k hk => by have h1 := hk.1; have h2 := hk.2; (try simp at h1 h2); omega) _, row_alloc H6.out (Below.refl _ _) (fun k hk => by have h1 := hk.1; have h2 := hk.2; (try simp at h1 h2); omega) _⟩⟩⟩
        | exact ⟨_, A5, c5, A6, c6, rfl, ⟨S6.out.set2 (by omega) _ _⟩, ⟨blk_put (blk_put Z6.out 0 _ rfl) 1 _ rfl⟩, ⟨⟨L5.out, L6.out⟩⟩, ⟨⟨row_set H5.out (below_step (by (with_reducible repeat (first | exact Below.refl _ _ | apply below_alloc))) hb6) (fun k hk => by have h1 := hk.1; have h2 := hk.2; (try simp at h1 h2); omega) (fun k hk => by have h1 := hk.1; have h2 := hk.2; (try simp at h1 h2); omega) _ _, row_set H6.out (Below.refl _ _) (fun k hk => by have h1 := hk.1; have h2 := hk.2; (try simp at h1 h2); omega) (fun k hk => by have h1 := hk.1; have h2 := hk.2; (try simp at h1 h2); omega) _ _⟩⟩⟩
  case rest =>
    clear kd0 kd1 kv0 kv1 kv2 kv3 kx0 kx1 kf0 kf1 S4 C4 CC SO RA MA RC FR cn
    obtain ⟨g, A, c, A', c', rfl, S7, G7, L7, C7⟩ := hcut
    have g0 := dk0 G7.out
    have g1 := dk1 G7.out
    obtain ⟨_, _, ⟨kx0, kx1⟩, kf0, kf1⟩ := S7.out.facts
    have h := HH.out
    by_cases cb : wrap64 ((s.length : Int) + (o.length : Int)) > 1048576
    · rw [if_pos cb] at h
      simp only [Option.some.injEq, Prod.mk.injEq] at h
      obtain ⟨rfl, rfl, rfl⟩ := h
      have cbb : decide (1048576 < wrap64 ((s.length : Int) + (o.length : Int))) = true := decide_eq_true cb
      clear cb HH
      go_wp2
      refine bodyPost_ret (results_ct rfl _ _ (w.heap.size + 1 + 1) 24 #[.slice none 0 0, .slice none 0 0] (0, 0) _ rfl S7.out.zero.1 Try.underlying24 rfl (by kernel_rfl)) rfl (dk_none S7.out.zero.2)
    · rw [if_neg cb] at h
      simp only [Option.some.injEq, Prod.mk.injEq] at h
      obtain ⟨rfl, rfl, rfl⟩ := h
      have cbb : decide (1048576 < wrap64 ((s.length : Int) + (o.length : Int))) = false := decide_eq_false cb
      clear cb HH
      go_wp2
      refine bodyPost_ret (results_ct rfl _ _ (w.heap.size + 1 + 1) 24 #[.slice A s.length c, .slice A' o.length c'] (0, 0) _ rfl (blk_put (blk_put S7.out.x 0 _ rfl) 1 _ rfl) Try.underlying24 rfl (by kernel_rfl)) rfl ⟨A, c, A', c', rfl, L7.out, ?_, ?_, below_set (below_set S7.out.hb (by omega)) (by omega)⟩
      · exact Kd.F_now (Kd.F_far (p := ⟨w.heap.size + 1 + 1, 1, none⟩) (Kd.F_far (p := ⟨w.heap.size + 1 + 1, 0, none⟩) C7.out.1 (fun k hk e => by have h1 : k = w.heap.size + 1 + 1 := e; have h2 : w.heap.size + 1 + 1 < k := hk; omega) _) (fun k hk e => by have h1 : k = w.heap.size + 1 + 1 := e; have h2 : w.heap.size + 1 + 1 < k := hk; omega) _)
      · exact Kd.F_now (Kd.F_far (p := ⟨w.heap.size + 1 + 1, 1, none⟩) (Kd.F_far (p := ⟨w.heap.size + 1 + 1, 0, none⟩) C7.out.2 (fun k hk e => by have h1 : k = w.heap.size + 1 + 1 := e; have h2 : w.heap.size + 1 + 1 < k := hk; omega) _) (fun k hk e => by have h1 : k = w.heap.size + 1 + 1 := e; have h2 : w.heap.size + 1 + 1 < k := hk; omega) _)
end Go.Proofs.Ytfcdaifaocgjfaa.Pr
end
