/- Parts of the proof of JournalTorn; no condition. -/
import Derived.Test.YtfcdaifaocgjfaaGa9
import Derived.Test.YtfcdaifaocgjfaaGa10
import Derived.Test.YtfcdaifaocgjfaaGa8
section
namespace Go.Proofs.Ytfcdaifaocgjfaa.Pure
open Go.RowKit Go.Proofs.Ytfcdaifaocgjfaa.Pr Go.Proofs.YtfcdaifaocgjfaaW.PrintWords Go.Proofs.YtfcdaifaocgjfaaW.PrintLast Go.Proofs.YtfcdaifaocgjfaaW.PrintMore
set_option linter.unusedVariables false
def fitB (c : Int) (n : Nat) : Bool := decide (0 ≤ c) && decide (c ≤ 1099511627776) && decide (n ≤ 64)
/-- What Append answers to a version on a valid small disk. -/
theorem next (s o : List Int) (hs : Pl.bytes s) (ho : Pl.bytes o) (h : (readI s o).2.2 = 0) (hl : s.length ≤ 4000) (hm : o.length ≤ 4000) (n : Int) (ws : List S76) (c : Int) (t : Bool) (hn : Oc.ok64 n = true) (hw : wok ws) (hc : Oc.ok64 c = true) (h7 : ws.length ≤ 70) :
    ∃ a b, readI s o = (a, b, 0) ∧ (a.length ≤ 10000000 ∧ b.length ≤ 5000) ∧ ((∀ u ∈ a, u.f1.f0.length ≤ 64) ∧ ∀ u ∈ b, u.f1.f0.length ≤ 64) ∧
      (n = (a.length : Int) + (b.length : Int) + 1 ∧ fitB c ws.length = true → ∃ o', appendI s o n ws c t = (s, o', 0) ∧ readI s o' = (a, b ++ [⟨n, ⟨ws⟩, c, t⟩], 0) ∧ Pl.bytes o' ∧ o'.length ≤ 1000000) ∧
      (¬ (n = (a.length : Int) + (b.length : Int) + 1 ∧ fitB c ws.length = true) → appendI s o n ws c t = ([], [], 1)) := by
  obtain ⟨ms, mo, a, b, V, hr⟩ := val_of s o hs ho h
  have hsm := readI_small s o hs ho
  rw [hr] at hsm
  have hbl : b.length ≤ 5000 := by
    have h1 := V.counts.2
    have h2 := Pl.len_le_F mo
    rw [← V.eo] at h2
    omega
  refine ⟨a, b, hr, ⟨hsm.1.1, hbl⟩, ⟨hsm.1.2, hsm.2.2⟩, ?_, ?_⟩
  · rintro ⟨h1, h2⟩
    have hmay : rdMay n c ws.length = true := by
      unfold fitB at h2
      unfold rdMay
      simp only [Bool.and_eq_true, decide_eq_true_eq] at h2 ⊢
      have t1 := hsm.1.1
      have t2 := hsm.2.1
      dsimp only at t1 t2
      omega
    have hrl := recI_length n ws c t hn hw (by omega) hc
    have hfl := Pl.frameI_length (recI n ws c t)
    obtain ⟨V', e⟩ := V.append n ws c t hn hw hc hmay h1 (by rw [List.length_append]; omega)
    exact ⟨_, e, V'.read, Pl.bytes_append ho (Pl.bytes_append (Pl.bytes_append (Pl.bytes_be4 _) (Pl.bytes_be4 _)) (bytes_recI n ws c t)), by rw [List.length_append]; omega⟩
  · intro hno
    unfold appendI
    rw [hr, if_pos rfl, if_neg]
    rintro ⟨h1, h2⟩
    refine hno ⟨h2, ?_⟩
    unfold rdMay at h1
    unfold fitB
    simp only [Bool.and_eq_true, decide_eq_true_eq] at h1 ⊢
    exact ⟨⟨h1.1.1.2, h1.1.2⟩, h1.2⟩
end Go.Proofs.Ytfcdaifaocgjfaa.Pure
namespace Go.Proofs.Ytfcdaifaocgjfaa.Pr
open Go.RowKit Go.Proofs.YtfcdaifaocgjfaaW.PrintWords Go.Proofs.YtfcdaifaocgjfaaW.PrintLast Go.Proofs.YtfcdaifaocgjfaaW.PrintMore
set_option linter.unusedVariables false
set_option linter.unusedSimpArgs false
theorem j_fits (k : Nat) {A : Option Addr} {c : Nat} {l : List S50} {w : World} (V : Vr w A c l) {r : Bool} (h : chalklinelaw34_fits.f k l = some r) : Calls Try.prog 17 #[.slice A l.length c] w fun e w' => e = .returned (.bool r) ∧ Below w.heap.size w w' := chalklinelaw34_fits.calls k A c l r w V.c0 V.l0 h
theorem below_new {W w1 : World} (hg : W.grownBy w1 (Value.slice none 0 0).ownBlock) : Below W.heap.size W w1 := (Below.refl _ _).grown hg (Nat.le_refl _) (fun k e => by cases e)
theorem Lv.grown {w W W1 : World} {D V : Array Value} {row : Option Nat} (h : Lv w D V W) (hb : Below w.heap.size w W1) (hg : W.grownBy W1 row) (hne : ∀ k, row = some k → w.heap.size + 1 < k) : Lv w D V W1 :=
  ⟨hb, (hg.block w.heap.size (blk_lt h.d) (fun e => by have := hne _ e.symm; omega)).trans h.d, (hg.block (w.heap.size + 1) (blk_lt h.v) (fun e => by have := hne _ e.symm; omega)).trans h.v⟩
theorem own_span {W w1 : World} {v1 : Value} (hat : v1.ownBlock = (Value.slice none 0 0).ownBlock ∨ ∃ b, v1.ownBlock = some b ∧ W.heap.size ≤ b) (hlt : ∀ k, v1.ownBlock = some k → k < w1.heap.size) : ∀ k, v1.ownBlock = some k → W.heap.size ≤ k ∧ k < w1.heap.size := by
  intro k hk
  refine ⟨?_, hlt k hk⟩
  rcases hat with e | ⟨b, e, hb⟩
  · rw [e] at hk; cases hk
  · rw [e] at hk; cases hk; exact hb
end Go.Proofs.Ytfcdaifaocgjfaa.Pr
end
section
namespace Go.Proofs.Ytfcdaifaocgjfaa.Pr
open Go.RowKit Go.Proofs.YtfcdaifaocgjfaaW.PrintWords Go.Proofs.YtfcdaifaocgjfaaW.PrintLast Go.Proofs.YtfcdaifaocgjfaaW.PrintMore
set_option linter.unusedVariables false
set_option linter.unusedSimpArgs false
theorem fit_of {l : List S50} (hl : l.length ≤ 10) (hf : ∀ j, j < l.length → Pure.fitV (rd_T50 l (j : Int))) (hw : ∀ s ∈ l, Ra.VerWf s) : Pure.Fit l := by
  refine ⟨hl, hf, fun j hj => ?_⟩
  have e : rd_T50 l (j : Int) = l[j] := by simp [rd_T50, List.getD_eq_getElem?_getD, List.getElem?_eq_getElem hj]
  rw [e]
  exact (Pure.wok_of (hw _ (List.getElem_mem hj))).2.2
set_option maxHeartbeats 8000000 in
set_option maxRecDepth 100000 in
theorem c_JournalTorn (A : Option Addr) (c : Nat) (l : List S50) (p a z : Int) (w : World) (h0 : Kd.C k50 w A l.length l) (hc : l.length ≤ c) (_ : l.length ≤ maxLen) (hw : ∀ s ∈ l, Ra.VerWf s) (_ : (Lit.int .i64 p).wf = true) (_ : (Lit.int .i64 a).wf = true) (hz : (Lit.int .u8 z).wf = true) :
    Calls Try.prog 4 #[.slice A l.length c, .int .i64 p, .int .i64 a, .int .u8 z] w fun e w' => e = .returned (.bool true) ∧ Below w.heap.size w w' := by
  have hz := Pure.wf_u8 hz
  have V := Aside0.mk (Vr.mk h0 hc)
  clear h0 hc
  obtain ⟨fw, hfw, hfl⟩ := Pure.fewv l 6 (by omega) 100 (by omega)
  replace hfw : chalklineref34_FewVersions.f 100 l 6 = some fw := hfw
  have FW := Aside0.mk hfw
  clear hfw
  by_cases hg : fw = true ∧ ¬ p < 0 ∧ ¬ (l.length : Int) < p ∧ ¬ a < 0
  case neg =>
    clear hfl hw hz
    have hd : fw = false ∨ decide (p < 0) = true ∨ (decide (p < 0) = false ∧ decide ((l.length : Int) < p) = true) ∨ (decide (p < 0) = false ∧ decide ((l.length : Int) < p) = false ∧ decide (a < 0) = true) := by
      cases fw with
      | false => exact .inl rfl
      | true =>
        by_cases h1 : p < 0
        · exact .inr (.inl (decide_eq_true h1))
        by_cases h2 : (l.length : Int) < p
        · exact .inr (.inr (.inl ⟨decide_eq_false h1, decide_eq_true h2⟩))
        by_cases h3 : a < 0
        · exact .inr (.inr (.inr ⟨decide_eq_false h1, decide_eq_false h2, decide_eq_true h3⟩))
        · exact absurd ⟨rfl, h1, h2, h3⟩ hg
    clear hg
    cases fw
    all_goals rcases hd with hd | hd | ⟨hd, hd2⟩ | ⟨hd, hd2, hd3⟩
    all_goals first | (cases hd; done) | skip
    all_goals
      go_enter Try.func4, Try.ntmps4
      go_wp2_with fail
      refine (chalklinelaw34_live.calls true _ rfl).mono ?_
      rintro e_ w1 ⟨rfl, hb1⟩
      have B1 := Aside0.mk hb1
      have V1 := Aside0.mk (V.out.below hb1)
      clear hb1 V
      go_wp2_with fail
      refine (j_fewv 100 V1.out 6 FW.out).mono ?_
      rintro e_ w2 ⟨rfl, hb2⟩
      have B2 := Aside0.mk (below_step B1.out hb2)
      clear hb2 V1 B1
      go_wp2
      go_ret
      exact ⟨rfl, B2.out⟩
  obtain ⟨rfl, h1, h2, h3⟩ := hg
  have hl := hfl rfl
  clear hfl
  obtain ⟨t, rfl⟩ := Int.eq_ofNat_of_zero_le (Int.not_lt.1 h1)
  obtain ⟨a, rfl⟩ := Int.eq_ofNat_of_zero_le (Int.not_lt.1 h3)
  have d1 : decide (((t : Nat) : Int) < 0) = false := decide_eq_false h1
  have d2 : decide ((l.length : Int) < (t : Int)) = false := decide_eq_false h2
  have d2' : decide (l.length < t) = false := decide_eq_false (by omega)
  have d3 : decide (((a : Nat) : Int) < 0) = false := decide_eq_false h3
  have ht : t ≤ l.length := by omega
  clear h1 h2 h3
  obtain ⟨ff, hff, hfi⟩ := Pure.fits l (by omega) 100 (by omega)
  have FF := Aside0.mk hff
  clear hff
  cases ff
  case false =>
    clear hfi hw hz hl ht
    go_enter Try.func4, Try.ntmps4
    go_wp2_with fail
    refine (chalklinelaw34_live.calls true _ rfl).mono ?_
    rintro e_ w1 ⟨rfl, hb1⟩
    have B1 := Aside0.mk hb1
    have V1 := Aside0.mk (V.out.below hb1)
    clear hb1 V
    go_wp2_with fail
    refine (j_fewv 100 V1.out 6 FW.out).mono ?_
    rintro e_ w2 ⟨rfl, hb2⟩
    have B2 := Aside0.mk (below_step B1.out hb2)
    have V2 := Aside0.mk (V1.out.below hb2)
    clear hb2 V1 B1
    go_wp2_with fail
    refine (j_fits 100 V2.out FF.out).mono ?_
    rintro e_ w3 ⟨rfl, hb3⟩
    have B3 := Aside0.mk (below_step B2.out hb3)
    clear hb3 V2 B2
    go_wp2
    go_ret
    exact ⟨rfl, B3.out⟩
  have hfit := fit_of (by omega) (hfi rfl) hw
  clear hfi hw
  have HF := Aside0.mk hfit
  have HT := Aside0.mk ht
  have HZ := Aside0.mk hz
  have HL := Aside0.mk hl
  clear hfit ht hz hl
  go_enter Try.func4, Try.ntmps4
  go_wp2_with fail
  refine (chalklinelaw34_live.calls true _ rfl).mono ?_
  rintro e_ w1 ⟨rfl, hb1⟩
  have B1 := Aside0.mk hb1
  have V1 := Aside0.mk (V.out.below hb1)
  clear hb1 V
  go_wp2_with fail
  refine (j_fewv 100 V1.out 6 FW.out).mono ?_
  rintro e_ w2 ⟨rfl, hb2⟩
  have B2 := Aside0.mk (below_step B1.out hb2)
  have V2 := Aside0.mk (V1.out.below hb2)
  clear hb2 V1 B1
  go_wp2_with fail
  refine (j_fits 100 V2.out FF.out).mono ?_
  rintro e_ w3 ⟨rfl, hb3⟩
  have B3 := Aside0.mk (below_step B2.out hb3)
  have V3 := Aside0.mk (V2.out.below hb3)
  clear hb3 V2 B2
  go_wp2_with fail
  refine (j_written HF.out HT.out V3.out).mono ?_
  rintro e_ w4 ⟨A1, c1, A2, c2, rfl, X4, hb4⟩
  have hlen := Pure.P_len HF.out t l.length HT.out (Nat.le_refl _)
  have hcat : (Pure.P l t l.length).1 ++ (Pure.P l t l.length).2 = Pl.F (Pure.recs l l.length) := by
    unfold Pure.P
    rw [← Pl.F_append]
    congr 1
    have : Pure.recs l t = (Pure.recs l l.length).take t := by
      unfold Pure.recs
      rw [← List.map_take, List.take_range, Nat.min_eq_left HT.out]
    rw [this, List.take_append_drop]
  have HC := Aside0.mk hcat
  have HP := Aside0.mk (show (Pure.P l t l.length).1 = Pl.F (Pure.recs l t) from rfl)
  clear hcat
  generalize (Pure.P l t l.length).1 = s at X4 HC HP hlen ⊢
  generalize (Pure.P l t l.length).2 = o at X4 HC hlen ⊢
  have HN := Aside0.mk hlen
  clear hlen
  have B4 := Aside0.mk (below_alloc (below_step B3.out hb4) (.cells #[.slice A1 s.length c1, .slice A2 o.length c2] 24))
  have D4 := Aside0.mk (And.intro (X4.alloc (.cells #[.slice A1 s.length c1, .slice A2 o.length c2] 24)) (blk_new w4 (.cells #[.slice A1 s.length c1, .slice A2 o.length c2] 24)))
  clear hb4 B3 V3 X4
  have k0 := dk0 D4.out.2
  have k1 := dk1 D4.out.2
  go_upto_region 8 with fail
  have hgl := blk_lt D4.out.2
  generalize w4.alloc (.cells #[.slice A1 s.length c1, .slice A2 o.length c2] 24) = w5 at B4 D4 k0 k1 hgl ⊢
  generalize w4.heap.size = g at D4 k0 k1 hgl ⊢
  go_region_held3 (fun W => W.cell? ⟨g, 0, none⟩ = some (.slice A1 s.length c1) ∧ W.cell? ⟨g, 1, none⟩ = some (.slice A2 o.length c2))
    (first | exact ⟨dk0 E7.out.2, dk1 E7.out.2⟩ | exact ⟨dk0 E6.out.2.2, dk1 E6.out.2.2⟩ | go_keep)
    (first
      | (refine Kd.R_append_rows_step (Kd.int .u8) (Rr := fun x cs => cs = [Value.int .u8 x]) (w0 := w) w.heap.size (by rfl) (.const (.slice none 0 0)) (.tmp 50) 22 5 (.int .u8 0) 1 rfl Try.underlying22 info5 rfl (by decide) (by decide) (.slice none 0 0) [] s A1 s.length c1 (fun _ => True) (fun _ => False) rfl rfl (Kd.R_nil _ _ _ _ _) ((D4.out.1.below (by (with_reducible repeat (first | exact Below.refl _ _ | apply below_alloc | apply below_drew1 | apply pw_below_drewN)))).c0) (fun _ _ h => h) (fun _ h => h.elim) (fun _ _ => trivial) (below_step B4.out (by (with_reducible repeat (first | exact Below.refl _ _ | apply below_alloc | apply below_drew1 | apply pw_below_drewN)))) (Below.size (below_step B4.out (by (with_reducible repeat (first | exact Below.refl _ _ | apply below_alloc | apply below_drew1 | apply pw_below_drewN))))) (by have := HN.out; have := HL.out; simp; omega) ?_; intro v1 w6 hR hB hg hat; rw [List.nil_append] at hR; have hb6 := below_new hg; have N6 := Aside0.mk hR; have E6 := Aside0.mk (And.intro hB (And.intro (D4.out.1.below (below_step (by (with_reducible repeat (first | exact Below.refl _ _ | apply below_alloc | apply below_drew1 | apply pw_below_drewN))) hb6)) (blk_below D4.out.2 (below_step (by (with_reducible repeat (first | exact Below.refl _ _ | apply below_alloc | apply below_drew1 | apply pw_below_drewN))) hb6)))); have Q6 := Aside0.mk (own_span hat (Kd.R_lt hR)); clear hR hB hg hat)
      | (refine Kd.R_append_rows_step (Kd.int .u8) (Rr := fun x cs => cs = [Value.int .u8 x]) (w0 := w) w.heap.size (by rfl) (.tmp 51) (.tmp 53) 22 5 (.int .u8 0) 1 rfl Try.underlying22 info5 rfl (by decide) (by decide) v1 s o A2 o.length c2 (fun _ => True) (fun _ => False) rfl rfl (Kd.R_below N6.out (by (with_reducible repeat (first | exact Below.refl _ _ | apply below_alloc | apply below_drew1 | apply pw_below_drewN)))) ((E6.out.2.1.below (by (with_reducible repeat (first | exact Below.refl _ _ | apply below_alloc | apply below_drew1 | apply pw_below_drewN)))).c1) (fun _ _ h => h) (fun _ h => h.elim) (fun _ _ => trivial) (below_step E6.out.1 (by (with_reducible repeat (first | exact Below.refl _ _ | apply below_alloc | apply below_drew1 | apply pw_below_drewN)))) (Below.size (below_step E6.out.1 (by (with_reducible repeat (first | exact Below.refl _ _ | apply below_alloc | apply below_drew1 | apply pw_below_drewN))))) (by have := HN.out; have := HL.out; omega) ?_; intro v2 w7 hR hB hg hat; have N7 := Aside0.mk hR; have E7 := Aside0.mk (And.intro hB (blk_grown (blk_below E6.out.2.2 (by (with_reducible repeat (first | exact Below.refl _ _ | apply below_alloc | apply below_drew1 | apply pw_below_drewN)))) hg (fun e => by have h1 := (Q6.out g e.symm).1; (try simp at h1); omega))); clear hR hB hg hat))
  have HS := Aside0.mk (show s.length ≤ (s ++ o).length by rw [List.length_append]; omega)
  rw [HC.out] at HS
  have hR := N7.out
  rw [HC.out] at hR
  have hlen := Pure.F_len HF.out l.length (Nat.le_refl _)
  have hsmall := Pure.recs_small HF.out
  have hplace := Pl.place (Pure.recs l l.length) a
  have hall := Pl.G_all (Pure.recs l l.length) l.length (by rw [Pure.recs_length]; omega)
  have hrl := Pure.recs_length l l.length
  have TL := Aside0.mk (Pure.torn_law HF.out t HT.out a)
  rw [← HP.out] at TL
  have hopen := Pure.open_G (Pure.recs l l.length) hsmall
  have hG := fun j (h : j < (Pure.recs l l.length).length) => Pl.G_succ (Pure.recs l l.length) j h
  have E8 := Aside0.mk E7.out
  clear N7 E7 N6 E6 Q6 hb6 D4 B4 k0 k1 HC HP HF
  generalize hFF : Pl.F (Pure.recs l l.length) = F at *
  generalize Pure.recs l l.length = ms at *
  by_cases ha : a < F.length
  case neg =>
    have b1 : decide ((a : Int) ≥ (F.length : Int)) = true := decide_eq_true (by omega)
    have b1' : decide ((F.length : Int) ≤ (a : Int)) = true := decide_eq_true (by omega)
    have b1'' : decide (F.length ≤ a) = true := decide_eq_true (by omega)
    obtain ⟨Ax, cx, rfl⟩ := Kd.R_slice hR
    clear hR TL hopen hG hplace
    go_wp2
    go_ret
    exact ⟨rfl, E8.out.1⟩
  have b1 : decide ((a : Int) ≥ (F.length : Int)) = false := decide_eq_false (by omega)
  have b1' : decide ((F.length : Int) ≤ (a : Int)) = false := decide_eq_false (by omega)
  have b1'' : decide (F.length ≤ a) = false := decide_eq_false (by omega)
  obtain ⟨q, cap, rfl, hcap, hq⟩ := Kd.R_addr hR (by omega)
  have hcell := (Kd.R_celln (0 : Int) hR (a : Int) (by omega) (by omega)).1
  have hrd : rdOf (0 : Int) F (a : Int) = F[a] := by simp [rdOf, List.getD_eq_getElem?_getD, List.getElem?_eq_getElem ha]
  rw [hrd, Int.toNat_natCast] at hcell
  have a0 : (0 : Int) ≤ (a : Int) := by omega
  have a1 : (a : Int) < (F.length : Int) := by omega
  by_cases hez : F[a] = z
  · have b2 : (F[a] == z) = true := beq_iff_eq.mpr hez
    clear hR TL hopen hG hplace hez hrd
    go_wp2
    go_ret
    exact ⟨rfl, E8.out.1⟩
  have b2 : (F[a] == z) = false := beq_eq_false_iff_ne.mpr hez
  obtain ⟨W, hW, hlo, hhi⟩ := hplace
  have hWl : W < l.length := by
    rcases Nat.lt_or_ge W l.length with h | h
    · exact h
    · have := hlo l.length (by omega)
      omega
  have hWa := hhi (W + 1) (by omega) (by omega)
  have T := Aside0.mk (fun h4 => TL.out W hWl h4 hWa ha z HZ.out hez)
  clear TL hez hrd
  have M := Aside0.mk (And.intro hlo (And.intro hopen hG))
  have R8 := Aside0.mk hR
  clear hlo hhi hopen hG hR hW
  have hg0 : Pl.G ms 0 = 0 := Pl.G_zero ms
  have HWF : ∀ j, j ≤ W → Pl.G ms j ≤ a := fun j hj => M.out.1 j hj
  go_upto_region 11 with fail
  go_wp2
  go_loopw [12] (fun i wr => ∃ j : Nat, j ≤ W ∧ i = .int .i64 (Pl.G ms j : Nat) ∧ Aside0 (Below w.heap.size w wr ∧ wr.heap[g]? = some (.cells #[.slice A1 s.length c1, .slice A2 o.length c2] 24) ∧ (Kd.int .u8).R 5 wr w.heap.size (fun _ => True) (.slice (some ⟨q, 0, none⟩) F.length cap) F)) (fun i _ => F.length - (intOf i).toNat)
  case atStart => exact ⟨0, Nat.zero_le _, by rw [hg0]; rfl, ⟨⟨E8.out.1, E8.out.2, R8.out⟩⟩⟩
  case round =>
    clear E8 R8
    obtain ⟨j, hj, rfl, Y⟩ := hrel
    have ho := M.out.2.1 j (by omega)
    have hgj : Pl.G ms j < Pl.G ms (j + 1) := by have := M.out.2.2 j (by omega); omega
    have hja := HWF j hj
    have OP := Aside0.mk (show seal_Open.f F ((Pl.G ms j : Nat) : Int) = some (ms[j], ((Pl.G ms (j + 1) : Nat) : Int), 0) from congrArg some ho)
    have dn : decide (((Pl.G ms (j + 1) : Nat) : Int) ≤ ((Pl.G ms j : Nat) : Int)) = false := decide_eq_false (by omega)
    have dn' : decide (Pl.G ms (j + 1) ≤ Pl.G ms j) = false := decide_eq_false (by omega)
    go_wp2_with fail
    refine (seal_Open.calls (some ⟨q, 0, none⟩) cap F _ _ _ _ _ (Kd.R_reads' Y.out.2.2).2.2 hcap OP.out).mono ?_
    rintro e_ w8 ⟨v, rfl, hv, hb8⟩
    have Y8 := Aside0.mk (And.intro (below_step Y.out.1 hb8) (And.intro (blk_below Y.out.2.1 hb8) (Kd.R_below Y.out.2.2 hb8)))
    clear hb8 hv Y OP ho hcell
    by_cases hjW : j = W
    · subst hjW
      have da : decide ((a : Int) < ((Pl.G ms (j + 1) : Nat) : Int)) = true := decide_eq_true (by omega)
      have da' : decide (a < Pl.G ms (j + 1)) = true := decide_eq_true (by omega)
      have sw : IntKind.i64.wrap (((Pl.G ms j : Nat) : Int) + 4) = ((Pl.G ms j : Nat) : Int) + 4 := by have := HL.out; rw [IntKind.wrap_i64]; omega
      by_cases h4 : Pl.G ms j + 4 ≤ a
      case neg =>
        have db : decide ((a : Int) < ((Pl.G ms j : Nat) : Int) + 4) = true := decide_eq_true (by omega)
        clear hgj M HWF
        go_wp2
        go_ret
        exact ⟨rfl, Y8.out.1⟩
      have db : decide ((a : Int) < ((Pl.G ms j : Nat) : Int) + 4) = false := decide_eq_false (by omega)
      have hT := T.out h4
      clear hgj M HWF T
      obtain ⟨hc1, hc2⟩ := Kd.R_celln (0 : Int) Y8.out.2.2 (a : Int) a0 a1
      rw [Int.toNat_natCast] at hc1 hc2
      have hgq : g ≠ q := by
        obtain ⟨cells, hcq⟩ := Kd.R_typed Y8.out.2.2 q rfl
        exact blk_ne Y8.out.2.1 hcq (by decide)
      have hsF : s.length ≤ F.length := by
        rcases Nat.le_total s.length F.length with h | h
        · exact h
        · exact HS.out
      have Y9 := Aside0.mk (And.intro (below_set (j := a) (v := .int .u8 z) Y8.out.1 hq) (And.intro (blk_far (p := ⟨q, a, none⟩) Y8.out.2.1 hgq (.int .u8 z)) (by have h := Kd.R_putn Y8.out.2.2 (a : Int) z; rw [Int.toNat_natCast] at h; exact h : (Kd.int .u8).R 5 (w8.setCell ⟨q, a, none⟩ (.int .u8 z)) w.heap.size (fun _ => True) (.slice (some ⟨q, 0, none⟩) F.length cap) (F.set a z))))
      have k0 := dk0 Y9.out.2.1
      have k1 := dk1 Y9.out.2.1
      have hfl : (F.set a z).length = F.length := List.length_set
      have hC := (Kd.R_reads' Y9.out.2.2).2.2
      obtain ⟨i0, hi0, _, hsz, _⟩ := info_parts info5
      have hcut1 := cut_to (P := Try.prog) 22 5 .i64 Try.underlying22 hi0 (some ⟨q, 0, none⟩) F.length cap (s.length : Int) (by omega) (by omega) hcap
      have hcut2 := cut_from (P := Try.prog) 22 5 .i64 Try.underlying22 hi0 1 hsz (some ⟨q, 0, none⟩) F.length cap (s.length : Int) (by omega) (by omega)
      rw [Int.toNat_natCast] at hcut1 hcut2
      have hx1 : ((F.set a z).take s.length).length = s.length := by rw [List.length_take]; omega
      have hx2 : ((F.set a z).drop s.length).length = F.length - s.length := by rw [List.length_drop]; omega
      have DD := Aside0.mk (Dk.mk (Kd.C_take hC (m := s.length) (by omega)) (by omega : _ ≤ cap) (Kd.C_drop hC (m := s.length) (c := cap) (by omega) (by omega)) (by omega : _ ≤ cap - s.length))
      generalize (F.set a z).take s.length = x1 at hT hx1 DD
      generalize (F.set a z).drop s.length = x2 at hT hx2 DD
      have HTT := Aside0.mk hT
      have HX := Aside0.mk (And.intro hx1 hx2)
      clear hC hi0 hsz hT hx1 hx2 Y8 hfl
      change Aside0 (Dk _ _ _ _ (if cap = s.length then some ⟨q, 0, none⟩ else (some (⟨q, 0, none⟩ : Addr)).map (·.add (s.length * 1))) _ _) at DD
      generalize (if cap = s.length then some (⟨q, 0, none⟩ : Addr) else (some (⟨q, 0, none⟩ : Addr)).map (·.add (s.length * 1))) = A3 at hcut2 DD
      go_upto_region 21 with fail
      have CK := Aside0.mk (fun (W' : World) (D : Dk W' (some ⟨q, 0, none⟩) cap x1 A3 (cap - s.length) x2) => by have h := j_check D HTT.out; rw [HX.out.1, HX.out.2] at h; exact h)
      clear k0 k1 hc1 hc2
      go_region_held3 (fun _ => True) (trivial)
        (first | (go_at_call 20; refine (CK.out _ (DD.out.below (by (with_reducible repeat (first | exact Below.refl _ _ | apply below_alloc | apply below_drew1 | apply pw_below_drewN))))).mono ?_; rintro e_ w10 ⟨rfl, hb10⟩; have B10 := Aside0.mk (below_step (below_step Y9.out.1 (by (with_reducible repeat (first | exact Below.refl _ _ | apply below_alloc | apply below_drew1 | apply pw_below_drewN)))) hb10)))
      all_goals
        go_wp2
        go_ret
        exact ⟨rfl, B10.out⟩
    · have da : decide ((a : Int) < ((Pl.G ms (j + 1) : Nat) : Int)) = false := decide_eq_false (by have := HWF (j + 1) (by omega); omega)
      have da' : decide (a < Pl.G ms (j + 1)) = false := decide_eq_false (by have := HWF (j + 1) (by omega); omega)
      go_wp2_with fail
      refine ⟨⟨j + 1, by omega, rfl, Y8⟩, ?_⟩
      simp only [intOf]
      omega
end Go.Proofs.Ytfcdaifaocgjfaa.Pr
end
