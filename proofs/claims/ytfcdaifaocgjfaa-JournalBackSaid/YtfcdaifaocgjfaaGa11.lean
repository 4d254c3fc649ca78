/- Parts of the proof of JournalBack; no condition. -/
import Derived.Test.YtfcdaifaocgjfaaGa10
import Derived.Test.YtfcdaifaocgjfaaGa8
import Derived.Test.YtfcdaifaocgjfaaGa9
section
namespace Go.Proofs.Ytfcdaifaocgjfaa.Pure
open Go.RowKit Go.Proofs.Ytfcdaifaocgjfaa.Pr Go.Proofs.YtfcdaifaocgjfaaW.PrintWords Go.Proofs.YtfcdaifaocgjfaaW.PrintLast Go.Proofs.YtfcdaifaocgjfaaW.PrintMore
set_option linter.unusedVariables false
theorem nums_get (l : List S50) (k : Nat) (h : k < l.length) : (nums l k ++ l.drop k).getD k z50 = rd_T50 l (k : Int) := by
  unfold rd_T50
  rw [Int.toNat_natCast, List.getD_eq_getElem?_getD, List.getD_eq_getElem?_getD, List.getElem?_append_right (by rw [nums_length]; omega), nums_length, Nat.sub_self, List.getElem?_drop, Nat.add_zero]
theorem nums_set (l : List S50) (k : Nat) (h : k < l.length) : (nums l k ++ l.drop k).set k (nv l k) = nums l (k + 1) ++ l.drop (k + 1) := by
  rw [List.set_append_right _ _ (by rw [nums_length]; omega), nums_length, Nat.sub_self, List.drop_eq_getElem_cons h, List.set_cons_zero, nums_succ, List.append_assoc]
  rfl
end Go.Proofs.Ytfcdaifaocgjfaa.Pure
namespace Go.Proofs.Ytfcdaifaocgjfaa.Pr
open Go.RowKit Go.Proofs.YtfcdaifaocgjfaaW.PrintWords Go.Proofs.YtfcdaifaocgjfaaW.PrintLast Go.Proofs.YtfcdaifaocgjfaaW.PrintMore
set_option linter.unusedVariables false
set_option linter.unusedSimpArgs false
theorem Kd.N_addr {W : World} {base : Nat} {ok : Nat → Prop} {v : Value} {xs : List S50} (h : Kd.N k50 50 W base ok v xs) (hx : 0 < xs.length) : ∃ g cap, v = .slice (some ⟨g, 0, none⟩) xs.length cap ∧ base ≤ g := by
  obtain ⟨A, c, rfl⟩ := Kd.N_slice h
  obtain ⟨_, _, hC⟩ := Kd.N_reads' h
  obtain ⟨ad, rfl, _⟩ := hC.2.2 hx
  obtain ⟨_, rows, hl, hR, hf⟩ := id h
  obtain ⟨g, rfl⟩ := Kd.R_head hR
  exact ⟨g, c, rfl, Kd.N_base h g (by simp [Value.ownBlock])⟩
set_option maxHeartbeats 8000000 in
set_option maxRecDepth 100000 in
theorem c_numbered {A : Option Addr} {c : Nat} {l : List S50} {w : World} (V : Vr w A c l) (hl : l.length ≤ 100) :
    Calls Try.prog 28 #[.slice A l.length c] w fun e w' => ∃ (B : Option Addr) (d : Nat), e = .returned (.slice B l.length d) ∧ Vr w' B d (Pure.nums l l.length) ∧ Below w.heap.size w w' := by
  have HF := Aside0.mk (Kd.C_F heap50 V.c0)
  have HL := Aside0.mk hl
  clear V hl
  rcases Nat.eq_zero_or_pos l.length with h0 | hp
  · have HE := Aside0.mk (List.eq_nil_of_length_eq_zero h0)
    have b0 : decide ((0 : Int) < (l.length : Int)) = false := decide_eq_false (by omega)
    have b0' : decide (0 < l.length) = false := decide_eq_false (by omega)
    clear h0
    go_enter Try.func28, Try.ntmps28
    go_wp2_with (at_builtin; refine Kd.N_append_rows k50 (w0 := w) w.heap.size rfl (.const (.slice none 0 0)) (.tmp 5) 33 50 (.agg #[.int .i64 0, .slice none 0 0, .int .i64 0, .bool false]) 48 rfl Try.underlying33 info50 rfl (by decide) (by decide) (.slice none 0 0) [] l A l.length c (fun _ => True) (fun k => k < w.heap.size) rfl rfl (Kd.N_nil _ _ _ _ _) HF.out (fun k hk => ⟨trivial, by simp [Value.ownBlock]⟩) (fun _ _ => trivial) (Below.refl _ _) (Nat.le_refl _) (by have := HL.out; simp; omega) ?_; intro v1 w1 hN hB hg hat; rw [List.nil_append] at hN; obtain ⟨B, d, rfl⟩ := Kd.N_slice hN; have N1 := Aside0.mk hN; have B1 := Aside0.mk hB; clear hN hB hg hat)
    go_loopw [9] (fun i wr => i = .int .i64 0 ∧ wr = w1) (fun _ _ => 0)
    case atStart => exact ⟨rfl, rfl⟩
    case round =>
      obtain ⟨rfl, rfl⟩ := hrel
      go_wp2
      go_ret
      refine ⟨B, d, rfl, ?_, B1.out⟩
      have hr := (Kd.N_reads' N1.out)
      have e := HE.out
      subst e
      exact ⟨hr.2.2, hr.2.1⟩
  go_enter Try.func28, Try.ntmps28
  go_wp2_with (at_builtin; refine Kd.N_append_rows k50 (w0 := w) w.heap.size rfl (.const (.slice none 0 0)) (.tmp 5) 33 50 (.agg #[.int .i64 0, .slice none 0 0, .int .i64 0, .bool false]) 48 rfl Try.underlying33 info50 rfl (by decide) (by decide) (.slice none 0 0) [] l A l.length c (fun _ => True) (fun k => k < w.heap.size) rfl rfl (Kd.N_nil _ _ _ _ _) HF.out (fun k hk => ⟨trivial, by simp [Value.ownBlock]⟩) (fun _ _ => trivial) (Below.refl _ _) (Nat.le_refl _) (by have := HL.out; simp; omega) ?_; intro v1 w1 hN hB hg hat; rw [List.nil_append] at hN; obtain ⟨g, cap, rfl, hg0⟩ := Kd.N_addr hN hp; have N1 := Aside0.mk hN; have B1 := Aside0.mk hB; clear hN hB hg hat)
  go_loopw [9] (fun i wr => ∃ k : Nat, k ≤ l.length ∧ i = .int .i64 k ∧ Aside0 (Below w.heap.size w wr ∧ Kd.N k50 50 wr w.heap.size (fun _ => True) (.slice (some ⟨g, 0, none⟩) l.length cap) (Pure.nums l k ++ l.drop k))) (fun i _ => l.length - (intOf i).toNat)
  case atStart => exact ⟨0, Nat.zero_le _, rfl, ⟨⟨B1.out, N1.out⟩⟩⟩
  case round =>
    clear N1 B1 HF
    obtain ⟨k, hk, rfl, Y⟩ := hrel
    by_cases hlt : k < l.length
    · obtain ⟨cs, hcl, hFK, hcc, hfr⟩ := Kd.N_elem Y.out.2 z50 (k : Int) (by omega) (by omega)
      rw [Int.toNat_natCast] at hFK hcc hfr
      rw [Pure.nums_get l k hlt] at hFK
      obtain ⟨A1, c1, rfl, l1, g1⟩ := k50_openF hFK
      have hM : Kd.FK k50 wr (fun j => True ∧ j ≠ g) (Pure.nv l k) [.int .i64 ((k : Int) + 1), .slice A1 (rd_T50 l (k : Int)).f1.f0.length c1, .int .i64 (rd_T50 l (k : Int)).f2, .bool (rd_T50 l (k : Int)).f3] := k50_mkF wr _ (Pure.nv l k) l1 g1
      have hseg := Kd.N_seg Y.out.2 (k : Int) (by omega) (by omega) (seg := [.int .i64 ((k : Int) + 1)]) (j := 0) hcl (by rw [Int.toNat_natCast]; exact hcc) (show 0 + 1 ≤ 4 by omega) (x' := Pure.nv l k) hM (fun _ hk => hk)
      rw [Int.toNat_natCast, Pure.nums_set l k hlt] at hseg
      have q0 : wr.cell? ⟨g, k * 4, none⟩ = some (.int .i64 (rd_T50 l (k : Int)).f0) := hcc 0 _ rfl
      have q1 : wr.frozen? ⟨g, k * 4, none⟩ = false := hfr 0
      have Y2 := Aside0.mk (And.intro (below_set (j := k * 4) (v := .int .i64 ((k : Int) + 1)) Y.out.1 hg0) (hseg.1 : Kd.N k50 50 (wr.setCell ⟨g, k * 4, none⟩ (.int .i64 ((k : Int) + 1))) w.heap.size (fun _ => True) (.slice (some ⟨g, 0, none⟩) l.length cap) _))
      have kb0 : (0 : Int) ≤ (k : Int) := by omega
      have kb1 : (k : Int) < (l.length : Int) := by omega
      have sw : IntKind.i64.wrap ((k : Int) + 1) = (k : Int) + 1 := by have := HL.out; rw [IntKind.wrap_i64]; omega
      clear hseg hM hFK hcc hfr hcl l1 g1 Y
      go_wp2_with fail
      refine ⟨⟨k + 1, by omega, by rw [Int.natCast_succ], Y2⟩, ?_⟩
      simp only [intOf]
      omega
    · obtain rfl : k = l.length := by omega
      go_wp2
      go_ret
      have hr := Kd.N_reads' Y.out.2
      rw [List.drop_length, List.append_nil] at hr
      exact ⟨_, cap, rfl, ⟨hr.2.2, hr.1 ▸ hr.2.1⟩, Y.out.1⟩
end Go.Proofs.Ytfcdaifaocgjfaa.Pr
end
section
namespace Go.Proofs.Ytfcdaifaocgjfaa.Pr
open Go.RowKit Go.Proofs.YtfcdaifaocgjfaaW.PrintWords Go.Proofs.YtfcdaifaocgjfaaW.PrintLast Go.Proofs.YtfcdaifaocgjfaaW.PrintMore
set_option linter.unusedVariables false
set_option linter.unusedSimpArgs false
theorem fit_of {l : List S50} (hl : l.length ≤ 10) (hf : ∀ j, j < l.length → Pure.fitV (rd_T50 l (j : Int))) (hw : ∀ s ∈ l, Ra.VerWf s) : Pure.Fit l := by
  refine ⟨hl, hf, fun j hj => ?_⟩
  have e : rd_T50 l (j : Int) = l[j] := by simp [rd_T50, List.getD_eq_getElem?_getD, List.getElem?_eq_getElem hj]
  rw [e]
  exact (Pure.wok_of (hw _ (List.getElem_mem hj))).2.2
theorem list_step {P : Program} {ops : Array Oper} {rest : List Oper} {o : Oper} {a : Act} {Q : Exit → Act → World → Prop} {W : World} (hw : Region.wanted o (yielded ops a.tmps) = true) (h : if Region.wanted o (yielded ops a.tmps) = true then Oper.wp P o a W (wpList P ops Q rest) Q else wpList P ops Q rest (a.put o.dst undef) W) : wpList P ops Q (o :: rest) a W := by
  unfold wpList
  rw [if_pos hw] at h ⊢
  exact Or.inl h
set_option maxHeartbeats 8000000 in
set_option maxRecDepth 100000 in
theorem c_JournalBack (A : Option Addr) (c : Nat) (l : List S50) (p a : Int) (w : World) (h0 : Kd.C k50 w A l.length l) (hc : l.length ≤ c) (_ : l.length ≤ maxLen) (hw : ∀ s ∈ l, Ra.VerWf s) (_ : (Lit.int .i64 p).wf = true) (_ : (Lit.int .i64 a).wf = true) :
    Calls Try.prog 10 #[.slice A l.length c, .int .i64 p, .int .i64 a] w fun e w' => e = .returned (.bool true) ∧ Below w.heap.size w w' := by
  have V := Aside0.mk (Vr.mk h0 hc)
  clear h0 hc
  obtain ⟨fw, hfw, hfl⟩ := Pure.fewv l 10 (by omega) 100 (by omega)
  replace hfw : chalklineref34_FewVersions.f 100 l 10 = some fw := hfw
  have FW := Aside0.mk hfw
  clear hfw
  by_cases hg : fw = true ∧ ¬ p < 0 ∧ ¬ (l.length : Int) < p ∧ ¬ a < 0
  case neg =>
    clear hfl hw
    have hd : fw = false ∨ decide (p < 0) = true ∨ (decide (p < 0) = false ∧ decide ((l.length : Int) < p) = true) ∨ (decide (p < 0) = false ∧ decide ((l.length : Int) < p) = false ∧ decide (a < 0) = true) := by
      cases fw with
      | false => exact .inl rfl
      | true =>
        by_cases h1 : p < 0
        · exact .inr (.inl (decide_eq_true h1))
        by_cases h2 : (l.length : Int) < p
        · exact .inr (.inr (.inl ⟨decide_eq_false h1, decide_eq_true h2⟩))
        by_cases h3 : a < 0
        · exact .inr (.inr (.inr ⟨decide_eq_false h1, decide_eq_false h2, decide_eq_true h3⟩))
        · exact absurd ⟨rfl, h1, h2, h3⟩ hg
    clear hg
    cases fw
    all_goals rcases hd with hd | hd | ⟨hd, hd2⟩ | ⟨hd, hd2, hd3⟩
    all_goals first | (cases hd; done) | skip
    all_goals
      go_enter Try.func10, Try.ntmps10
      go_wp2_with fail
      refine (chalklinelaw34_live.calls true _ rfl).mono ?_
      rintro e_ w1 ⟨rfl, hb1⟩
      have B1 := Aside0.mk hb1
      have V1 := Aside0.mk (V.out.below hb1)
      clear hb1 V
      go_wp2_with fail
      refine (j_fewv 100 V1.out 10 FW.out).mono ?_
      rintro e_ w2 ⟨rfl, hb2⟩
      have B2 := Aside0.mk (below_step B1.out hb2)
      clear hb2 V1 B1
      go_wp2
      go_ret
      exact ⟨rfl, B2.out⟩
  obtain ⟨rfl, h1, h2, h3⟩ := hg
  have hl := hfl rfl
  clear hfl
  obtain ⟨t, rfl⟩ := Int.eq_ofNat_of_zero_le (Int.not_lt.1 h1)
  obtain ⟨a, rfl⟩ := Int.eq_ofNat_of_zero_le (Int.not_lt.1 h3)
  have d1 : decide (((t : Nat) : Int) < 0) = false := decide_eq_false h1
  have d2 : decide ((l.length : Int) < (t : Int)) = false := decide_eq_false h2
  have d2' : decide (l.length < t) = false := decide_eq_false (by omega)
  have d3 : decide (((a : Nat) : Int) < 0) = false := decide_eq_false h3
  have ht : t ≤ l.length := by omega
  clear h1 h2 h3
  obtain ⟨ff, hff, hfi⟩ := Pure.fits l (by omega) 100 (by omega)
  have FF := Aside0.mk hff
  clear hff
  cases ff
  case false =>
    clear hfi hw hl ht
    go_enter Try.func10, Try.ntmps10
    go_wp2_with fail
    refine (chalklinelaw34_live.calls true _ rfl).mono ?_
    rintro e_ w1 ⟨rfl, hb1⟩
    have B1 := Aside0.mk hb1
    have V1 := Aside0.mk (V.out.below hb1)
    clear hb1 V
    go_wp2_with fail
    refine (j_fewv 100 V1.out 10 FW.out).mono ?_
    rintro e_ w2 ⟨rfl, hb2⟩
    have B2 := Aside0.mk (below_step B1.out hb2)
    have V2 := Aside0.mk (V1.out.below hb2)
    clear hb2 V1 B1
    go_wp2_with fail
    refine (j_fits 100 V2.out FF.out).mono ?_
    rintro e_ w3 ⟨rfl, hb3⟩
    have B3 := Aside0.mk (below_step B2.out hb3)
    clear hb3 V2 B2
    go_wp2
    go_ret
    exact ⟨rfl, B3.out⟩
  have hfit := fit_of (by omega) (hfi rfl) hw
  clear hfi hw
  have HF := Aside0.mk hfit
  have HT := Aside0.mk ht
  have HL := Aside0.mk hl
  clear hfit ht hl
  go_enter Try.func10, Try.ntmps10
  go_wp2_with fail
  refine (chalklinelaw34_live.calls true _ rfl).mono ?_
  rintro e_ w1 ⟨rfl, hb1⟩
  have B1 := Aside0.mk hb1
  have V1 := Aside0.mk (V.out.below hb1)
  clear hb1 V
  go_wp2_with fail
  refine (j_fewv 100 V1.out 10 FW.out).mono ?_
  rintro e_ w2 ⟨rfl, hb2⟩
  have B2 := Aside0.mk (below_step B1.out hb2)
  have V2 := Aside0.mk (V1.out.below hb2)
  clear hb2 V1 B1
  go_wp2_with fail
  refine (j_fits 100 V2.out FF.out).mono ?_
  rintro e_ w3 ⟨rfl, hb3⟩
  have B3 := Aside0.mk (below_step B2.out hb3)
  have V3 := Aside0.mk (V2.out.below hb3)
  clear hb3 V2 B2
  go_wp2_with fail
  refine (j_written HF.out HT.out V3.out).mono ?_
  rintro e_ w4 ⟨A1, c1, A2, c2, rfl, X4, hb4⟩
  obtain ⟨rd, vs, x, m, cr, rx, tm, ml, hm, vm⟩ := Pure.back HF.out t HT.out (a : Int) (by omega)
  have hn1 := Pure.nums_length l l.length
  have hn2 : (Pure.nums l t).length = t := Pure.nums_length l t
  have hn3 : ((Pure.nums l l.length).drop t).length = l.length - t := by rw [List.length_drop, hn1]
  have hn4 : ((Pure.nums l l.length).take m).length = m := by rw [List.length_take, hn1]; omega
  have CN := Aside0.mk (fun (W' : World) (V' : Vr W' A c l) => (c_numbered V' (by have := HL.out; omega)).mono fun e w' ⟨B, d, he, hv, hb⟩ => (⟨B, d, by rw [hn1]; exact he, hv, hb⟩ : ∃ (B : Option Addr) (d : Nat), e = Ending.returned (.slice B (Pure.nums l l.length).length d) ∧ Vr w' B d (Pure.nums l l.length) ∧ Below W'.heap.size W' w'))
  generalize (Pure.P l t l.length).1 = s at X4 rd cr ⊢
  generalize (Pure.P l t l.length).2 = o at X4 rd cr hm ⊢
  have V4 := Aside0.mk ((V3.out.below hb4).alloc (.cells #[.slice A1 s.length c1, .slice A2 o.length c2] 24))
  have B4 := Aside0.mk (below_alloc (below_step B3.out hb4) (.cells #[.slice A1 s.length c1, .slice A2 o.length c2] 24))
  have D4 := Aside0.mk (And.intro (X4.alloc (.cells #[.slice A1 s.length c1, .slice A2 o.length c2] 24)) (blk_new w4 (.cells #[.slice A1 s.length c1, .slice A2 o.length c2] 24)))
  have R := Aside0.mk (And.intro rd (And.intro vs (And.intro cr (And.intro rx vm))))
  have QM := Aside0.mk (And.intro tm (And.intro ml (And.intro hm (And.intro hn1 (And.intro hn2 (And.intro hn3 hn4))))))
  generalize Pure.nums l l.length = NL at CN R QM
  generalize Pure.nums l t = na at R QM
  generalize hnb : NL.drop t = nb at R QM
  generalize hnm : NL.take m = nm at R QM
  clear hb4 B3 V3 X4 rd vs cr rx vm tm ml hm hn1 hn2 hn3 hn4 HF hnb FW FF
  go_wp2_with fail
  refine (CN.out _ V4.out).mono ?_
  rintro e_ w5 ⟨B, d, rfl, hv, hb5⟩
  have V5 := Aside0.mk hv
  have B5 := Aside0.mk (below_step B4.out hb5)
  have D5 := Aside0.mk (And.intro (D4.out.1.below hb5) (blk_below D4.out.2 hb5))
  clear hv hb5 V4 B4 D4 CN
  have k0 := dk0 D5.out.2
  have k1 := dk1 D5.out.2
  go_wp2_with fail
  refine (j_read D5.out.1 R.out.1).mono ?_
  rintro e_ w6 ⟨B1, e1, B2, e2, rfl, X6, Y6, hb6⟩
  have V6 := Aside0.mk (And.intro (V5.out.below hb6) (And.intro X6 Y6))
  have B6 := Aside0.mk (below_step B5.out hb6)
  have D6 := Aside0.mk (And.intro (D5.out.1.below hb6) (blk_below D5.out.2 hb6))
  have FB := Aside0.mk (And.intro (Kd.C_F heap50 X6.c0) (Kd.C_F heap50 Y6.c0))
  clear X6 Y6 hb6 V5 B5 D5 k0 k1
  have SZ := Aside0.mk (show na.length + nb.length ≤ 10 by have := HL.out; have := HT.out; have h1 := QM.out.2.2.2.2.1; have h2 := QM.out.2.2.2.2.2.1; omega)
  go_wp2_with (first
    | (at_builtin; refine list_step (by rfl) ?_; refine Kd.N_append_rows_step k50 (w0 := w) w.heap.size (by rfl) (.const (.slice none 0 0)) (.tmp 63) 33 50 (.agg #[.int .i64 0, .slice none 0 0, .int .i64 0, .bool false]) 48 rfl Try.underlying33 info50 rfl (by decide) (by decide) (.slice none 0 0) [] na B1 na.length e1 (fun _ => True) (fun k => k < w6.heap.size) rfl rfl (Kd.N_nil _ _ _ _ _) FB.out.1 (fun k hk => ⟨trivial, by simp [Value.ownBlock]⟩) (fun _ _ => trivial) B6.out (Below.size B6.out) (by have := SZ.out; simp; omega) ?_; intro v1 w7 hN hB hg hat; rw [List.nil_append] at hN; have hb7 := Aside0.mk (below_new hg); have N7 := Aside0.mk hN; have QQ := Aside0.mk (own_span hat (Kd.N_lt hN)); have B7 := Aside0.mk hB; clear hN hB hg hat)
    | (at_builtin; refine list_step (by rfl) ?_; refine Kd.N_append_rows_step k50 (w0 := w) w.heap.size (by rfl) (.tmp 64) (.tmp 65) 33 50 (.agg #[.int .i64 0, .slice none 0 0, .int .i64 0, .bool false]) 48 rfl Try.underlying33 info50 rfl (by decide) (by decide) v1 na nb B2 nb.length e2 (fun _ => True) (fun k => k < w6.heap.size) rfl rfl N7.out (Kd.F_below FB.out.2 hb7.out) (fun k hk => ⟨trivial, fun e => by have h1 := (QQ.out k e.symm).1; omega⟩) (fun _ _ => trivial) B7.out (Below.size B7.out) (by have := SZ.out; omega) ?_; intro v2 w8 hN hB hg hat; have hb8 := Aside0.mk (hb7.out.grown hg hb7.out.size (fun k e => (QQ.out k e).1)); obtain ⟨B7', d7, rfl, hc7, hC7⟩ := Kd.N_reads hN; have P8 := Aside0.mk (Vr.mk hC7 hc7); have B8 := Aside0.mk hB; clear hN hB hg hat hc7 hC7 N7 B7 QQ))
  have HV := j_versions 20000000 P8.out (V6.out.1.below hb8.out) R.out.2.1
  rw [List.length_append] at HV
  refine HV.mono ?_
  clear HV
  rintro e_ w9 ⟨rfl, hb9⟩
  have B9 := Aside0.mk (below_step B8.out hb9)
  have hb9' := Below.trans hb8.out (Below.mono hb9 hb8.out.size)
  have V9 := Aside0.mk (V6.out.1.below hb9')
  have D9 := Aside0.mk (And.intro (D6.out.1.below hb9') (blk_below D6.out.2 hb9'))
  have ba : ((na.length : Int) != (t : Int)) = false := by have := QM.out.2.2.2.2.1; rw [bne_eq_false_iff_eq]; omega
  have ba' : (na.length != t) = false := by have := QM.out.2.2.2.2.1; rw [bne_eq_false_iff_eq]; omega
  clear hb9 hb9' P8 B8 hb8 hb7 V6 B6 D6 FB
  have k0 := dk0 D9.out.2
  have k1 := dk1 D9.out.2
  go_wp2_with fail
  refine (j_crash D9.out.1 (a : Int) R.out.2.2.1).mono ?_
  rintro e_ w10 ⟨C1, f1, C2, f2, rfl, X10, hb10⟩
  have B10 := Aside0.mk (below_alloc (below_step B9.out hb10) (.cells #[.slice C1 x.length f1, .slice C2 0 f2] 24))
  have V10 := Aside0.mk ((V9.out.below hb10).alloc (.cells #[.slice C1 x.length f1, .slice C2 0 f2] 24))
  have D10 := Aside0.mk (blk_alloc (blk_below D9.out.2 hb10) (.cells #[.slice C1 x.length f1, .slice C2 0 f2] 24))
  have E10 := Aside0.mk (And.intro (X10.alloc (.cells #[.slice C1 x.length f1, .slice C2 0 f2] 24)) (blk_new w10 (.cells #[.slice C1 x.length f1, .slice C2 0 f2] 24)))
  clear hb10 X10 B9 V9 D9 k0 k1
  have k0 := dk0 E10.out.2
  have k1 := dk1 E10.out.2
  go_wp2_with fail
  refine (j_read E10.out.1 R.out.2.2.2.1).mono ?_
  rintro e_ w11 ⟨G1, g1, G2, g2, rfl, X11, Y11, hb11⟩
  have B11 := Aside0.mk (below_step B10.out hb11)
  have V11 := Aside0.mk (V10.out.below hb11)
  have X := Aside0.mk X11
  have D11 := Aside0.mk (blk_below D10.out hb11)
  clear hb11 X11 Y11 B10 V10 D10 E10 k0 k1
  have k1 := dk1 D11.out
  obtain ⟨tm, ml, hm, hn1, hn2, hn3, hn4⟩ := QM.out
  obtain ⟨i0, hi0, _, hsz, _⟩ := info_parts info50
  have hcut := cut_to (P := Try.prog) 33 50 .i64 Try.underlying33 hi0 B NL.length d (nm.length : Int) (by omega) (by omega) V11.out.l0
  rw [Int.toNat_natCast] at hcut
  have hT : Vr w11 B d nm := by
    have h := Kd.C_take V11.out.c0 (m := m) (by omega)
    rw [hnm] at h
    exact ⟨h, by have := V11.out.l0; omega⟩
  have VT := Aside0.mk hT
  have c1_ : decide ((nm.length : Int) ≥ (t : Int)) = true := decide_eq_true (by omega)
  have c2_ : decide ((t : Int) ≤ (nm.length : Int)) = true := decide_eq_true (by omega)
  have c2' : decide (t ≤ nm.length) = true := decide_eq_true (by omega)
  have c3_ : decide ((nm.length : Int) ≤ (NL.length : Int)) = true := decide_eq_true (by omega)
  have c3' : decide (nm.length ≤ NL.length) = true := decide_eq_true (by omega)
  have fin : decide ((a : Int) < (o.length : Int)) = true ∨ (decide ((a : Int) < (o.length : Int)) = false ∧ nm.length = NL.length) := by
    by_cases h : (a : Int) < (o.length : Int)
    · exact .inl (decide_eq_true h)
    · exact .inr ⟨decide_eq_false h, by have := hm (Int.not_lt.1 h); omega⟩
  clear hT tm ml hm hn1 hn2 hn3 hn4 hi0 hsz hnm QM SZ
  rcases fin with fin | ⟨fin, eq⟩
  · have fin' : decide (a < o.length) = true := decide_eq_true (by have := of_decide_eq_true fin; omega)
    go_wp2_with fail
    refine (j_versions 20000000 X.out VT.out R.out.2.2.2.2).mono ?_
    rintro e_ w12 ⟨rfl, hb12⟩
    have B12 := Aside0.mk (below_step B11.out hb12)
    have k2 := dk1 (blk_below D11.out hb12)
    clear hb12 B11 k1
    go_wp2
    go_ret
    exact ⟨rfl, B12.out⟩
  · have fin' : decide (a < o.length) = false := decide_eq_false (by have := of_decide_eq_false fin; omega)
    have q1 : ((nm.length : Int) == (NL.length : Int)) = true := by rw [beq_iff_eq]; omega
    have q2 : (nm.length == NL.length) = true := by rw [beq_iff_eq]; exact eq
    clear eq
    go_wp2_with fail
    refine (j_versions 20000000 X.out VT.out R.out.2.2.2.2).mono ?_
    rintro e_ w12 ⟨rfl, hb12⟩
    have B12 := Aside0.mk (below_step B11.out hb12)
    have k2 := dk1 (blk_below D11.out hb12)
    clear hb12 B11 k1
    go_wp2
    go_ret
    exact ⟨rfl, B12.out⟩
end Go.Proofs.Ytfcdaifaocgjfaa.Pr
end
