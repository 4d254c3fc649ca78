/- A part of the proof of JournalNext; no condition. -/
import Derived.Test.YtfcdaifaocgjfaaGa12
namespace Go.Proofs.Ytfcdaifaocgjfaa.Pure
open Go.RowKit Go.Proofs.Ytfcdaifaocgjfaa.Pr Go.Proofs.YtfcdaifaocgjfaaW.PrintWords Go.Proofs.YtfcdaifaocgjfaaW.PrintLast Go.Proofs.YtfcdaifaocgjfaaW.PrintMore
set_option linter.unusedVariables false
def fitB (c : Int) (n : Nat) : Bool := decide (0 ≤ c) && decide (c ≤ 1099511627776) && decide (n ≤ 64)
theorem fits_one (v : S50) : chalklinelaw34_fits.f 3 [v] = some (fitB v.f2 v.f1.f0.length) := by
  unfold chalklinelaw34_fits.f
  rw [chalklinelaw34_fits.l0, if_pos (by simp), if_pos (by decide), if_pos (by simp)]
  show (if v.f2 < 0 then _ else if v.f2 > 1099511627776 then _ else if ((v.f1.f0.length : Nat) : Int) > 64 then _ else _) = _
  unfold fitB
  by_cases h0 : v.f2 < 0
  · rw [if_pos h0, decide_eq_false (show ¬ 0 ≤ v.f2 by omega)]; rfl
  rw [if_neg h0, decide_eq_true (show 0 ≤ v.f2 by omega), Bool.true_and]
  by_cases h1 : v.f2 > 1099511627776
  · rw [if_pos h1, decide_eq_false (show ¬ v.f2 ≤ 1099511627776 by omega)]; rfl
  rw [if_neg h1, decide_eq_true (show v.f2 ≤ 1099511627776 by omega), Bool.true_and]
  by_cases h2 : ((v.f1.f0.length : Nat) : Int) > 64
  · rw [if_pos h2, decide_eq_false (show ¬ v.f1.f0.length ≤ 64 by omega)]
  rw [if_neg h2, decide_eq_true (show v.f1.f0.length ≤ 64 by omega)]
  show chalklinelaw34_fits.l0 2 [v] 1 (wrap64 (0 + 1)) = _
  rw [w64 (by omega) (by omega), chalklinelaw34_fits.l0, if_neg (by decide)]
/-- What Append answers to a version on a valid small disk. -/
theorem next (s o : List Int) (hs : Pl.bytes s) (ho : Pl.bytes o) (h : (readI s o).2.2 = 0) (hl : s.length ≤ 4000) (hm : o.length ≤ 4000) (n : Int) (ws : List S76) (c : Int) (t : Bool) (hn : Oc.ok64 n = true) (hw : wok ws) (hc : Oc.ok64 c = true) (h7 : ws.length ≤ 70) :
    ∃ a b, readI s o = (a, b, 0) ∧ (a.length ≤ 10000000 ∧ b.length ≤ 5000) ∧ ((∀ u ∈ a, u.f1.f0.length ≤ 64) ∧ ∀ u ∈ b, u.f1.f0.length ≤ 64) ∧
      (n = (a.length : Int) + (b.length : Int) + 1 ∧ fitB c ws.length = true → ∃ o', appendI s o n ws c t = (s, o', 0) ∧ readI s o' = (a, b ++ [⟨n, ⟨ws⟩, c, t⟩], 0) ∧ Pl.bytes o' ∧ o'.length ≤ 1000000) ∧
      (¬ (n = (a.length : Int) + (b.length : Int) + 1 ∧ fitB c ws.length = true) → appendI s o n ws c t = ([], [], 1)) := by
  obtain ⟨ms, mo, a, b, V, hr⟩ := val_of s o hs ho h
  have hsm := readI_small s o hs ho
  rw [hr] at hsm
  have hbl : b.length ≤ 5000 := by
    have h1 := V.counts.2
    have h2 := Pl.len_le_F mo
    rw [← V.eo] at h2
    omega
  refine ⟨a, b, hr, ⟨hsm.1.1, hbl⟩, ⟨hsm.1.2, hsm.2.2⟩, ?_, ?_⟩
  · rintro ⟨h1, h2⟩
    have hmay : rdMay n c ws.length = true := by
      unfold fitB at h2
      unfold rdMay
      simp only [Bool.and_eq_true, decide_eq_true_eq] at h2 ⊢
      have t1 := hsm.1.1
      have t2 := hsm.2.1
      dsimp only at t1 t2
      omega
    have hrl := recI_length n ws c t hn hw (by omega) hc
    have hfl := Pl.frameI_length (recI n ws c t)
    obtain ⟨V', e⟩ := V.append n ws c t hn hw hc hmay h1 (by rw [List.length_append]; omega)
    exact ⟨_, e, V'.read, Pl.bytes_append ho (Pl.bytes_append (Pl.bytes_append (Pl.bytes_be4 _) (Pl.bytes_be4 _)) (bytes_recI n ws c t)), by rw [List.length_append]; omega⟩
  · intro hno
    unfold appendI
    rw [hr, if_pos rfl, if_neg]
    rintro ⟨h1, h2⟩
    refine hno ⟨h2, ?_⟩
    unfold rdMay at h1
    unfold fitB
    simp only [Bool.and_eq_true, decide_eq_true_eq] at h1 ⊢
    exact ⟨⟨h1.1.1.2, h1.1.2⟩, h1.2⟩
end Go.Proofs.Ytfcdaifaocgjfaa.Pure
namespace Go.Proofs.Ytfcdaifaocgjfaa.Pr
open Go.RowKit Go.Proofs.YtfcdaifaocgjfaaW.PrintWords Go.Proofs.YtfcdaifaocgjfaaW.PrintLast Go.Proofs.YtfcdaifaocgjfaaW.PrintMore
set_option linter.unusedVariables false
set_option linter.unusedSimpArgs false
theorem j_fits (k : Nat) {A : Option Addr} {c : Nat} {l : List S50} {w : World} (V : Vr w A c l) {r : Bool} (h : chalklinelaw34_fits.f k l = some r) : Calls Try.prog 17 #[.slice A l.length c] w fun e w' => e = .returned (.bool r) ∧ Below w.heap.size w w' := chalklinelaw34_fits.calls k A c l r w V.c0 V.l0 h
theorem heap76 : Kd.Heap k76 := Kd.heap_iso _ (Kd.heap_pair (Kd.heap_int _) (Kd.heap_int _))
theorem heap50 : Kd.Heap k50 := Kd.heap_iso _ (Kd.heap_pair (Kd.heap_int _) (Kd.heap_pair (Kd.heap_iso _ (Kd.heap_slice _ heap76)) (Kd.heap_pair (Kd.heap_int _) Kd.heap_bool)))
theorem one_F {W : World} {P : Nat → Prop} {g : Nat} {v : S50} {A : Option Addr} {c : Nat} (h : W.heap[g]? = some (.cells #[.int .i64 v.f0, .slice A v.f1.f0.length c, .int .i64 v.f2, .bool v.f3] 50)) (hc : v.f1.f0.length ≤ c) (hF : Kd.F k76 W P A v.f1.f0.length v.f1.f0) : Kd.F k50 W (fun k => k = g ∨ P k) (some ⟨g, 0, none⟩) 1 [v] :=
  fun W' hW => one_version ((hW g (.inl rfl) (blk_lt h)).trans h) hc (hF W' (fun k hk hlt => hW k (.inr hk) hlt))
theorem below_new {W w1 : World} (hg : W.grownBy w1 (Value.slice none 0 0).ownBlock) : Below W.heap.size W w1 := (Below.refl _ _).grown hg (Nat.le_refl _) (fun k e => by cases e)
theorem Lv.grown {w W W1 : World} {D V : Array Value} {row : Option Nat} (h : Lv w D V W) (hb : Below w.heap.size w W1) (hg : W.grownBy W1 row) (hne : ∀ k, row = some k → w.heap.size + 1 < k) : Lv w D V W1 :=
  ⟨hb, (hg.block w.heap.size (blk_lt h.d) (fun e => by have := hne _ e.symm; omega)).trans h.d, (hg.block (w.heap.size + 1) (blk_lt h.v) (fun e => by have := hne _ e.symm; omega)).trans h.v⟩
theorem own_span {W w1 : World} {v1 : Value} (hat : v1.ownBlock = (Value.slice none 0 0).ownBlock ∨ ∃ b, v1.ownBlock = some b ∧ W.heap.size ≤ b) (hlt : ∀ k, v1.ownBlock = some k → k < w1.heap.size) : ∀ k, v1.ownBlock = some k → W.heap.size ≤ k ∧ k < w1.heap.size := by
  intro k hk
  refine ⟨?_, hlt k hk⟩
  rcases hat with e | ⟨b, e, hb⟩
  · rw [e] at hk; cases hk
  · rw [e] at hk; cases hk; exact hb
set_option maxHeartbeats 8000000 in
set_option maxRecDepth 100000 in
theorem c_JournalNext (A : Option Addr) (c : Nat) (s : List Int) (A' : Option Addr) (c' : Nat) (o : List Int) (n : Int) (B : Option Addr) (d : Nat) (l : List S76) (m : Int) (t : Bool) (w : World) (h0 : Kd.C (Kd.int .u8) w A s.length s) (hc : s.length ≤ c) (h1 : Kd.C (Kd.int .u8) w A' o.length o) (hc' : o.length ≤ c') (h2 : Kd.C k76 w B l.length l) (hd : l.length ≤ d)
    (hs : ∀ x ∈ s, (Lit.int .u8 x).wf = true) (ho : ∀ x ∈ o, (Lit.int .u8 x).wf = true) (_ : s.length ≤ reachBytes) (_ : o.length ≤ reachBytes) (hv : Ra.VerWf ⟨n, ⟨l⟩, m, t⟩) :
    Calls Try.prog 8 #[.agg #[.slice A s.length c, .slice A' o.length c'], .agg #[.int .i64 n, .slice B l.length d, .int .i64 m, .bool t]] w fun e w' => e = .returned (.bool true) ∧ Below w.heap.size w w' := by
  have hs := Pure.bytes_wf hs
  have ho := Pure.bytes_wf ho
  obtain ⟨ok0, ok2, ok1⟩ := Pure.wok_of hv
  have hf := few_eq s o
  have hF := @few_small s o
  generalize (decide ((s.length : Int) ≤ 4000) && decide ((o.length : Int) ≤ 4000)) = fw at hf hF
  have hfv := Pure.fewv_one ⟨n, ⟨l⟩, m, t⟩
  have h70 : decide ((⟨n, ⟨l⟩, m, t⟩ : S50).f1.f0.length ≤ 70) = true → l.length ≤ 70 := fun h => of_decide_eq_true h
  generalize decide ((⟨n, ⟨l⟩, m, t⟩ : S50).f1.f0.length ≤ 70) = fv at hfv h70
  have S := Aside0.mk (Lv.start w #[.slice A s.length c, .slice A' o.length c'] #[.int .i64 n, .slice B l.length d, .int .i64 m, .bool t])
  have D := Aside0.mk (((Dk.mk h0 hc h1 hc').alloc (.cells #[.slice A s.length c, .slice A' o.length c'] 24)).alloc (.cells #[.int .i64 n, .slice B l.length d, .int .i64 m, .bool t] 50))
  have V := Aside0.mk (((Pv.mk h2 hd).alloc (.cells #[.slice A s.length c, .slice A' o.length c'] 24)).alloc (.cells #[.int .i64 n, .slice B l.length d, .int .i64 m, .bool t] 50))
  have VF := Aside0.mk (And.intro hd (Kd.C_F heap76 h2))
  have F0 := Aside0.mk (And.intro hf hfv)
  clear hf hfv h0 hc h1 hc' h2 hd hv
  cases fw with
  | false =>
    clear hF hs ho ok0 ok1 ok2 h70
    go_enter Try.func8, Try.ntmps8
    go_wp2_with fail
    refine (chalklinelaw34_live.calls true _ rfl).mono ?_
    rintro e_ w1 ⟨rfl, hb1⟩
    have S1 := Aside0.mk (S.out.below hb1)
    have D1 := Aside0.mk (D.out.below hb1)
    have V1 := Aside0.mk (V.out.below hb1)
    clear hb1 S D V
    obtain ⟨⟨k0, k1⟩, _⟩ := S1.out.facts
    go_wp2_with fail
    refine (j_few D1.out F0.out.1).mono ?_
    rintro e_ w2 ⟨rfl, hb2⟩
    have S2 := Aside0.mk (S1.out.below hb2)
    clear hb2 S1 D1 V1 k0 k1
    go_wp2
    go_ret
    exact ⟨rfl, S2.out.hb⟩
  | true =>
    cases fv with
    | false =>
      clear hF hs ho ok0 ok1 ok2 h70
      go_enter Try.func8, Try.ntmps8
      go_wp2_with fail
      refine (chalklinelaw34_live.calls true _ rfl).mono ?_
      rintro e_ w1 ⟨rfl, hb1⟩
      have S1 := Aside0.mk (S.out.below hb1)
      have D1 := Aside0.mk (D.out.below hb1)
      have V1 := Aside0.mk (V.out.below hb1)
      clear hb1 S D V
      obtain ⟨⟨k0, k1⟩, _⟩ := S1.out.facts
      go_wp2_with fail
      refine (j_few D1.out F0.out.1).mono ?_
      rintro e_ w2 ⟨rfl, hb2⟩
      have S2 := Aside0.mk (S1.out.below hb2)
      have D2 := Aside0.mk (D1.out.below hb2)
      have V2 := Aside0.mk (V1.out.below hb2)
      clear hb2 S1 D1 V1 k0 k1
      obtain ⟨⟨k0, k1⟩, k2, k3, k4, k5⟩ := S2.out.facts
      go_wp2_with fail
      refine (j_fewv 5 (Pv.one (v := ⟨n, ⟨l⟩, m, t⟩) (V2.out.alloc (.cells #[.int .i64 n, .slice B l.length d, .int .i64 m, .bool t] 50)) (blk_new w2 (.cells #[.int .i64 n, .slice B l.length d, .int .i64 m, .bool t] 50))) 1 F0.out.2).mono ?_
      rintro e_ w3 ⟨rfl, hb3⟩
      have S3 := Aside0.mk ((S2.out.alloc (.cells #[.int .i64 n, .slice B l.length d, .int .i64 m, .bool t] 50)).below hb3)
      clear hb3 S2 D2 V2 k0 k1 k2 k3 k4 k5
      go_wp2
      go_ret
      exact ⟨rfl, S3.out.hb⟩
    | true =>
      obtain ⟨hl, hm⟩ := hF rfl
      have h70 := h70 rfl
      have r1 := Pure.jAppend s o hs ho (by omega) (by omega) n l m t ok0 ok1 ok2 20000000 (by omega)
      have r2 := Pure.jRead s o hs ho (by omega) (by omega)
      have r3 := Pure.jCheck s o hs ho (by omega) (by omega)
      by_cases he : (Pure.readI s o).2.2 = 0
      case neg =>
        have hE := bne_iff_ne.mpr he
        generalize (Pure.readI s o).2.2 = e at r3 hE he
        have F := Aside0.mk r3
        clear hF hs ho ok0 ok1 ok2 h70 r1 r2 r3 hl hm he
        go_enter Try.func8, Try.ntmps8
        go_wp2_with fail
        refine (chalklinelaw34_live.calls true _ rfl).mono ?_
        rintro e_ w1 ⟨rfl, hb1⟩
        have S1 := Aside0.mk (S.out.below hb1)
        have D1 := Aside0.mk (D.out.below hb1)
        have V1 := Aside0.mk (V.out.below hb1)
        clear hb1 S D V
        obtain ⟨⟨k0, k1⟩, _⟩ := S1.out.facts
        go_wp2_with fail
        refine (j_few D1.out F0.out.1).mono ?_
        rintro e_ w2 ⟨rfl, hb2⟩
        have S2 := Aside0.mk (S1.out.below hb2)
        have D2 := Aside0.mk (D1.out.below hb2)
        have V2 := Aside0.mk (V1.out.below hb2)
        clear hb2 S1 D1 V1 k0 k1
        obtain ⟨⟨k0, k1⟩, k2, k3, k4, k5⟩ := S2.out.facts
        go_wp2_with fail
        refine (j_fewv 5 (Pv.one (v := ⟨n, ⟨l⟩, m, t⟩) (V2.out.alloc (.cells #[.int .i64 n, .slice B l.length d, .int .i64 m, .bool t] 50)) (blk_new w2 (.cells #[.int .i64 n, .slice B l.length d, .int .i64 m, .bool t] 50))) 1 F0.out.2).mono ?_
        rintro e_ w3 ⟨rfl, hb3⟩
        have S3 := Aside0.mk ((S2.out.alloc (.cells #[.int .i64 n, .slice B l.length d, .int .i64 m, .bool t] 50)).below hb3)
        have D3 := Aside0.mk ((D2.out.alloc (.cells #[.int .i64 n, .slice B l.length d, .int .i64 m, .bool t] 50)).below hb3)
        have V3 := Aside0.mk ((V2.out.alloc (.cells #[.int .i64 n, .slice B l.length d, .int .i64 m, .bool t] 50)).below hb3)
        clear hb3 S2 D2 V2 k0 k1 k2 k3 k4 k5
        obtain ⟨⟨k0, k1⟩, k2, k3, k4, k5⟩ := S3.out.facts
        go_wp2_with fail
        refine (j_check D3.out F.out).mono ?_
        rintro e_ w4 ⟨rfl, hb4⟩
        have S4 := Aside0.mk (S3.out.below hb4)
        clear hb4 S3 D3 V3 k0 k1 k2 k3 k4 k5
        go_wp2
        go_ret
        exact ⟨rfl, S4.out.hb⟩
      obtain ⟨a, b, hr, ⟨la, lb⟩, ⟨wa, wb⟩, yes, no⟩ := Pure.next s o hs ho he hl hm n l m t ok0 ok1 ok2 h70
      rw [hr] at r2 r3
      have hft := Pure.fits_one ⟨n, ⟨l⟩, m, t⟩
      change chalklinelaw34_fits.f 3 [⟨n, ⟨l⟩, m, t⟩] = some (Pure.fitB m l.length) at hft
      have qe : (n == wrap64 (wrap64 ((a.length : Int) + (b.length : Int)) + 1)) = decide (n = (a.length : Int) + (b.length : Int) + 1) := by
        rw [Pure.w64 (n := (a.length : Int) + (b.length : Int)) (by omega) (by omega), Pure.w64 (by omega) (by omega)]
        rw [Bool.eq_iff_iff]
        simp
      by_cases hnx : n = (a.length : Int) + (b.length : Int) + 1 ∧ Pure.fitB m l.length = true
      case neg =>
        rw [no hnx] at r1
        have qn : (n == wrap64 (wrap64 ((a.length : Int) + (b.length : Int)) + 1)) = false ∨ ((n == wrap64 (wrap64 ((a.length : Int) + (b.length : Int)) + 1)) = true ∧ Pure.fitB m l.length = false) := by
          rw [qe]
          by_cases h1 : n = (a.length : Int) + (b.length : Int) + 1
          · refine .inr ⟨decide_eq_true h1, ?_⟩
            cases hf : Pure.fitB m l.length with
            | false => rfl
            | true => exact absurd ⟨h1, hf⟩ hnx
          · exact .inl (decide_eq_false h1)
        have F := Aside0.mk (And.intro r3 (And.intro r2 (And.intro r1 (Pure.same_refl [] []))))
        clear hF hs ho ok0 ok1 ok2 h70 r1 r2 r3 hl hm he hr la lb wa wb yes no qe hnx
        rcases qn with qn | ⟨qn, qf⟩
        · clear hft
          go_enter Try.func8, Try.ntmps8
          go_wp2_with fail
          refine (chalklinelaw34_live.calls true _ rfl).mono ?_
          rintro e_ w1 ⟨rfl, hb1⟩
          have S1 := Aside0.mk (S.out.below hb1)
          have D1 := Aside0.mk (D.out.below hb1)
          have V1 := Aside0.mk (V.out.below hb1)
          clear hb1 S D V
          obtain ⟨⟨k0, k1⟩, _⟩ := S1.out.facts
          go_wp2_with fail
          refine (j_few D1.out F0.out.1).mono ?_
          rintro e_ w2 ⟨rfl, hb2⟩
          have S2 := Aside0.mk (S1.out.below hb2)
          have D2 := Aside0.mk (D1.out.below hb2)
          have V2 := Aside0.mk (V1.out.below hb2)
          clear hb2 S1 D1 V1 k0 k1
          obtain ⟨⟨k0, k1⟩, k2, k3, k4, k5⟩ := S2.out.facts
          go_wp2_with fail
          refine (j_fewv 5 (Pv.one (v := ⟨n, ⟨l⟩, m, t⟩) (V2.out.alloc (.cells #[.int .i64 n, .slice B l.length d, .int .i64 m, .bool t] 50)) (blk_new w2 (.cells #[.int .i64 n, .slice B l.length d, .int .i64 m, .bool t] 50))) 1 F0.out.2).mono ?_
          rintro e_ w3 ⟨rfl, hb3⟩
          have S3 := Aside0.mk ((S2.out.alloc (.cells #[.int .i64 n, .slice B l.length d, .int .i64 m, .bool t] 50)).below hb3)
          have D3 := Aside0.mk ((D2.out.alloc (.cells #[.int .i64 n, .slice B l.length d, .int .i64 m, .bool t] 50)).below hb3)
          have V3 := Aside0.mk ((V2.out.alloc (.cells #[.int .i64 n, .slice B l.length d, .int .i64 m, .bool t] 50)).below hb3)
          clear hb3 S2 D2 V2 k0 k1 k2 k3 k4 k5
          obtain ⟨⟨k0, k1⟩, k2, k3, k4, k5⟩ := S3.out.facts
          go_wp2_with fail
          refine (j_check D3.out F.out.1).mono ?_
          rintro e_ w4 ⟨rfl, hb4⟩
          have S4 := Aside0.mk (S3.out.below hb4)
          have D4 := Aside0.mk (D3.out.below hb4)
          have V4 := Aside0.mk (V3.out.below hb4)
          clear hb4 S3 D3 V3 k0 k1 k2 k3 k4 k5
          obtain ⟨⟨k0, k1⟩, k2, k3, k4, k5⟩ := S4.out.facts
          go_wp2_with fail
          refine (j_read D4.out F.out.2.1).mono ?_
          rintro e_ w5 ⟨B1, d1, B2, d2, rfl, X5, Y5, hb5⟩
          have S5 := Aside0.mk (S4.out.below hb5)
          have D5 := Aside0.mk (D4.out.below hb5)
          have V5 := Aside0.mk (V4.out.below hb5)
          have R5 := Aside0.mk (And.intro X5 Y5)
          clear hb5 S4 D4 V4 X5 Y5 k0 k1 k2 k3 k4 k5
          obtain ⟨⟨k0, k1⟩, k2, k3, k4, k5⟩ := S5.out.facts
          go_wp2_with fail
          refine (j_append 20000000 D5.out V5.out n m t F.out.2.2.1).mono ?_
          rintro e_ w6 ⟨B3, d3, B4, d4, rfl, X6, hb6⟩
          have S6 := Aside0.mk ((S5.out.below hb6).alloc (.cells #[.slice B3 0 d3, .slice B4 0 d4] 24))
          have V6 := Aside0.mk ((V5.out.below hb6).alloc (.cells #[.slice B3 0 d3, .slice B4 0 d4] 24))
          have R6 := Aside0.mk (And.intro ((R5.out.1.below hb6).alloc (.cells #[.slice B3 0 d3, .slice B4 0 d4] 24)) ((R5.out.2.below hb6).alloc (.cells #[.slice B3 0 d3, .slice B4 0 d4] 24)))
          have E6 := Aside0.mk (And.intro (X6.alloc (.cells #[.slice B3 0 d3, .slice B4 0 d4] 24)) (blk_new w6 (.cells #[.slice B3 0 d3, .slice B4 0 d4] 24)))
          clear hb6 S5 D5 V5 R5 X6 k0 k1 k2 k3 k4 k5
          obtain ⟨_, k2, k3, k4, k5⟩ := S6.out.facts
          have x0 := dk0 E6.out.2
          have x1 := dk1 E6.out.2
          go_wp2_with fail
          refine (j_same E6.out.1 (B := none) (d := 0) (s' := []) (B' := none) (d' := 0) (o' := []) ⟨Kd.C_nil _ _, Nat.le_refl _, Kd.C_nil _ _, Nat.le_refl _⟩ F.out.2.2.2).mono ?_
          rintro e_ w8 ⟨rfl, hb8⟩
          have S8 := Aside0.mk (S6.out.below hb8)
          clear hb8 S6 E6
          go_wp2
          go_ret
          exact ⟨rfl, S8.out.hb⟩
        · rw [qf] at hft
          have FT := Aside0.mk hft
          clear hft qf
          go_enter Try.func8, Try.ntmps8
          go_wp2_with fail
          refine (chalklinelaw34_live.calls true _ rfl).mono ?_
          rintro e_ w1 ⟨rfl, hb1⟩
          have S1 := Aside0.mk (S.out.below hb1)
          have D1 := Aside0.mk (D.out.below hb1)
          have V1 := Aside0.mk (V.out.below hb1)
          clear hb1 S D V
          obtain ⟨⟨k0, k1⟩, _⟩ := S1.out.facts
          go_wp2_with fail
          refine (j_few D1.out F0.out.1).mono ?_
          rintro e_ w2 ⟨rfl, hb2⟩
          have S2 := Aside0.mk (S1.out.below hb2)
          have D2 := Aside0.mk (D1.out.below hb2)
          have V2 := Aside0.mk (V1.out.below hb2)
          clear hb2 S1 D1 V1 k0 k1
          obtain ⟨⟨k0, k1⟩, k2, k3, k4, k5⟩ := S2.out.facts
          go_wp2_with fail
          refine (j_fewv 5 (Pv.one (v := ⟨n, ⟨l⟩, m, t⟩) (V2.out.alloc (.cells #[.int .i64 n, .slice B l.length d, .int .i64 m, .bool t] 50)) (blk_new w2 (.cells #[.int .i64 n, .slice B l.length d, .int .i64 m, .bool t] 50))) 1 F0.out.2).mono ?_
          rintro e_ w3 ⟨rfl, hb3⟩
          have S3 := Aside0.mk ((S2.out.alloc (.cells #[.int .i64 n, .slice B l.length d, .int .i64 m, .bool t] 50)).below hb3)
          have D3 := Aside0.mk ((D2.out.alloc (.cells #[.int .i64 n, .slice B l.length d, .int .i64 m, .bool t] 50)).below hb3)
          have V3 := Aside0.mk ((V2.out.alloc (.cells #[.int .i64 n, .slice B l.length d, .int .i64 m, .bool t] 50)).below hb3)
          clear hb3 S2 D2 V2 k0 k1 k2 k3 k4 k5
          obtain ⟨⟨k0, k1⟩, k2, k3, k4, k5⟩ := S3.out.facts
          go_wp2_with fail
          refine (j_check D3.out F.out.1).mono ?_
          rintro e_ w4 ⟨rfl, hb4⟩
          have S4 := Aside0.mk (S3.out.below hb4)
          have D4 := Aside0.mk (D3.out.below hb4)
          have V4 := Aside0.mk (V3.out.below hb4)
          clear hb4 S3 D3 V3 k0 k1 k2 k3 k4 k5
          obtain ⟨⟨k0, k1⟩, k2, k3, k4, k5⟩ := S4.out.facts
          go_wp2_with fail
          refine (j_read D4.out F.out.2.1).mono ?_
          rintro e_ w5 ⟨B1, d1, B2, d2, rfl, X5, Y5, hb5⟩
          have S5 := Aside0.mk (S4.out.below hb5)
          have D5 := Aside0.mk (D4.out.below hb5)
          have V5 := Aside0.mk (V4.out.below hb5)
          have R5 := Aside0.mk (And.intro X5 Y5)
          clear hb5 S4 D4 V4 X5 Y5 k0 k1 k2 k3 k4 k5
          obtain ⟨⟨k0, k1⟩, k2, k3, k4, k5⟩ := S5.out.facts
          go_wp2_with fail
          refine (j_append 20000000 D5.out V5.out n m t F.out.2.2.1).mono ?_
          rintro e_ w6 ⟨B3, d3, B4, d4, rfl, X6, hb6⟩
          have S6 := Aside0.mk ((S5.out.below hb6).alloc (.cells #[.slice B3 0 d3, .slice B4 0 d4] 24))
          have V6 := Aside0.mk ((V5.out.below hb6).alloc (.cells #[.slice B3 0 d3, .slice B4 0 d4] 24))
          have R6 := Aside0.mk (And.intro ((R5.out.1.below hb6).alloc (.cells #[.slice B3 0 d3, .slice B4 0 d4] 24)) ((R5.out.2.below hb6).alloc (.cells #[.slice B3 0 d3, .slice B4 0 d4] 24)))
          have E6 := Aside0.mk (And.intro (X6.alloc (.cells #[.slice B3 0 d3, .slice B4 0 d4] 24)) (blk_new w6 (.cells #[.slice B3 0 d3, .slice B4 0 d4] 24)))
          clear hb6 S5 D5 V5 R5 X6 k0 k1 k2 k3 k4 k5
          obtain ⟨_, k2, k3, k4, k5⟩ := S6.out.facts
          have x0 := dk0 E6.out.2
          have x1 := dk1 E6.out.2
          go_wp2_with fail
          refine (j_fits 3 (Pv.one (g := w6.heap.size + 1) (v := ⟨n, ⟨l⟩, m, t⟩) (V6.out.alloc (.cells #[.int .i64 n, .slice B l.length d, .int .i64 m, .bool t] 50)) (blk_new' (by simp))) FT.out).mono ?_
          rintro e_ w7 ⟨rfl, hb7⟩
          have S7 := Aside0.mk ((S6.out.alloc (.cells #[.int .i64 n, .slice B l.length d, .int .i64 m, .bool t] 50)).below hb7)
          have E7 := Aside0.mk (And.intro ((E6.out.1.alloc (.cells #[.int .i64 n, .slice B l.length d, .int .i64 m, .bool t] 50)).below hb7) (blk_below (blk_alloc E6.out.2 (.cells #[.int .i64 n, .slice B l.length d, .int .i64 m, .bool t] 50)) hb7))
          clear hb7 S6 E6 V6 x0 x1 k2 k3 k4 k5
          have S6 := S7
          have E6 := E7
          clear S7 E7
          have x0 := dk0 E6.out.2
          have x1 := dk1 E6.out.2
          go_wp2_with fail
          refine (j_same E6.out.1 (B := none) (d := 0) (s' := []) (B' := none) (d' := 0) (o' := []) ⟨Kd.C_nil _ _, Nat.le_refl _, Kd.C_nil _ _, Nat.le_refl _⟩ F.out.2.2.2).mono ?_
          rintro e_ w8 ⟨rfl, hb8⟩
          have S8 := Aside0.mk (S6.out.below hb8)
          clear hb8 S6 E6
          go_wp2
          go_ret
          exact ⟨rfl, S8.out.hb⟩
      obtain ⟨o', y1, y2, y3, y4⟩ := yes hnx
      rw [y1] at r1
      have r4 := Pure.jRead s o' hs y3 (by omega) (by omega)
      rw [y2] at r4
      have q1 := Pure.versions_refl a la (fun u hu => Nat.le_trans (wa u hu) (by decide)) 20000000 (by omega)
      have q2 := Pure.versions_refl (b ++ [⟨n, ⟨l⟩, m, t⟩]) (by rw [List.length_append, List.length_singleton]; omega) (fun u hu => by
        rcases List.mem_append.1 hu with hu | hu
        · exact Nat.le_trans (wb u hu) (by decide)
        · rw [List.mem_singleton.1 hu]; show l.length ≤ 100000; omega) 20000000 (by omega)
      obtain ⟨bb, hbb⟩ : ∃ bb : List S50, b ++ [⟨n, ⟨l⟩, m, t⟩] = bb := ⟨_, rfl⟩
      rw [hbb] at r4 q2
      have HBB := Aside0.mk hbb
      clear hbb
      rw [hnx.2] at hft
      have qn : (n == wrap64 (wrap64 ((a.length : Int) + (b.length : Int)) + 1)) = true := by rw [qe]; exact decide_eq_true hnx.1
      have F := Aside0.mk (And.intro r3 (And.intro r2 (And.intro r1 (And.intro r4 (And.intro q1 q2)))))
      have FT := Aside0.mk hft
      have LB := Aside0.mk lb
      clear hF hs ho ok0 ok1 ok2 h70 r1 r2 r3 r4 q1 q2 hl hm he hr la lb wa wb yes no qe hnx hft y1 y2 y3 y4
      go_enter Try.func8, Try.ntmps8
      go_wp2_with fail
      refine (chalklinelaw34_live.calls true _ rfl).mono ?_
      rintro e_ w1 ⟨rfl, hb1⟩
      have S1 := Aside0.mk (S.out.below hb1)
      have D1 := Aside0.mk (D.out.below hb1)
      have V1 := Aside0.mk (V.out.below hb1)
      clear hb1 S D V
      obtain ⟨⟨k0, k1⟩, _⟩ := S1.out.facts
      go_wp2_with fail
      refine (j_few D1.out F0.out.1).mono ?_
      rintro e_ w2 ⟨rfl, hb2⟩
      have S2 := Aside0.mk (S1.out.below hb2)
      have D2 := Aside0.mk (D1.out.below hb2)
      have V2 := Aside0.mk (V1.out.below hb2)
      clear hb2 S1 D1 V1 k0 k1
      obtain ⟨⟨k0, k1⟩, k2, k3, k4, k5⟩ := S2.out.facts
      go_wp2_with fail
      refine (j_fewv 5 (Pv.one (v := ⟨n, ⟨l⟩, m, t⟩) (V2.out.alloc (.cells #[.int .i64 n, .slice B l.length d, .int .i64 m, .bool t] 50)) (blk_new w2 (.cells #[.int .i64 n, .slice B l.length d, .int .i64 m, .bool t] 50))) 1 F0.out.2).mono ?_
      rintro e_ w3 ⟨rfl, hb3⟩
      have S3 := Aside0.mk ((S2.out.alloc (.cells #[.int .i64 n, .slice B l.length d, .int .i64 m, .bool t] 50)).below hb3)
      have D3 := Aside0.mk ((D2.out.alloc (.cells #[.int .i64 n, .slice B l.length d, .int .i64 m, .bool t] 50)).below hb3)
      have V3 := Aside0.mk ((V2.out.alloc (.cells #[.int .i64 n, .slice B l.length d, .int .i64 m, .bool t] 50)).below hb3)
      clear hb3 S2 D2 V2 k0 k1 k2 k3 k4 k5
      obtain ⟨⟨k0, k1⟩, k2, k3, k4, k5⟩ := S3.out.facts
      go_wp2_with fail
      refine (j_check D3.out F.out.1).mono ?_
      rintro e_ w4 ⟨rfl, hb4⟩
      have S4 := Aside0.mk (S3.out.below hb4)
      have D4 := Aside0.mk (D3.out.below hb4)
      have V4 := Aside0.mk (V3.out.below hb4)
      clear hb4 S3 D3 V3 k0 k1 k2 k3 k4 k5
      obtain ⟨⟨k0, k1⟩, k2, k3, k4, k5⟩ := S4.out.facts
      go_wp2_with fail
      refine (j_read D4.out F.out.2.1).mono ?_
      rintro e_ w5 ⟨B1, d1, B2, d2, rfl, X5, Y5, hb5⟩
      have S5 := Aside0.mk (S4.out.below hb5)
      have D5 := Aside0.mk (D4.out.below hb5)
      have V5 := Aside0.mk (V4.out.below hb5)
      have R5 := Aside0.mk (And.intro X5 Y5)
      clear hb5 S4 D4 V4 X5 Y5 k0 k1 k2 k3 k4 k5
      obtain ⟨⟨k0, k1⟩, k2, k3, k4, k5⟩ := S5.out.facts
      go_wp2_with fail
      refine (j_append 20000000 D5.out V5.out n m t F.out.2.2.1).mono ?_
      rintro e_ w6 ⟨B3, d3, B4, d4, rfl, X6, hb6⟩
      have S6 := Aside0.mk ((S5.out.below hb6).alloc (.cells #[.slice B3 s.length d3, .slice B4 o'.length d4] 24))
      have V6 := Aside0.mk ((V5.out.below hb6).alloc (.cells #[.slice B3 s.length d3, .slice B4 o'.length d4] 24))
      have R6 := Aside0.mk (And.intro ((R5.out.1.below hb6).alloc (.cells #[.slice B3 s.length d3, .slice B4 o'.length d4] 24)) ((R5.out.2.below hb6).alloc (.cells #[.slice B3 s.length d3, .slice B4 o'.length d4] 24)))
      have E6 := Aside0.mk (And.intro (X6.alloc (.cells #[.slice B3 s.length d3, .slice B4 o'.length d4] 24)) (blk_new w6 (.cells #[.slice B3 s.length d3, .slice B4 o'.length d4] 24)))
      clear hb6 S5 D5 V5 R5 X6 k0 k1 k2 k3 k4 k5
      obtain ⟨_, k2, k3, k4, k5⟩ := S6.out.facts
      have x0 := dk0 E6.out.2
      have x1 := dk1 E6.out.2
      go_wp2_with fail
      refine (j_fits 3 (Pv.one (g := w6.heap.size + 1) (v := ⟨n, ⟨l⟩, m, t⟩) (V6.out.alloc (.cells #[.int .i64 n, .slice B l.length d, .int .i64 m, .bool t] 50)) (blk_new' (by simp))) FT.out).mono ?_
      rintro e_ w7 ⟨rfl, hb7⟩
      have S7 := Aside0.mk ((S6.out.alloc (.cells #[.int .i64 n, .slice B l.length d, .int .i64 m, .bool t] 50)).below hb7)
      have V7 := Aside0.mk ((V6.out.alloc (.cells #[.int .i64 n, .slice B l.length d, .int .i64 m, .bool t] 50)).below hb7)
      have E7 := Aside0.mk (And.intro ((E6.out.1.alloc (.cells #[.int .i64 n, .slice B l.length d, .int .i64 m, .bool t] 50)).below hb7) (blk_below (blk_alloc E6.out.2 (.cells #[.int .i64 n, .slice B l.length d, .int .i64 m, .bool t] 50)) hb7))
      have R7 := Aside0.mk (And.intro ((R6.out.1.alloc (.cells #[.int .i64 n, .slice B l.length d, .int .i64 m, .bool t] 50)).below hb7) ((R6.out.2.alloc (.cells #[.int .i64 n, .slice B l.length d, .int .i64 m, .bool t] 50)).below hb7))
      clear hb7 S6 E6 V6 R6 x0 x1 k2 k3 k4 k5
      have x0 := dk0 E7.out.2
      have x1 := dk1 E7.out.2
      go_wp2_with fail
      refine (j_read E7.out.1 F.out.2.2.2.1).mono ?_
      rintro e_ w8 ⟨B5, d5, B6, d6, rfl, X8, Y8, hb8⟩
      have S8 := Aside0.mk (S7.out.below hb8)
      have V8 := Aside0.mk (V7.out.below hb8)
      have R8 := Aside0.mk (And.intro (And.intro (R7.out.1.below hb8) (R7.out.2.below hb8)) (And.intro X8 Y8))
      clear hb8 S7 V7 E7 R7 X8 Y8 x0 x1
      obtain ⟨_, k2, k3, k4, k5⟩ := S8.out.facts
      have FB := Aside0.mk (And.intro (Kd.C_F heap50 R8.out.1.2.c0) (Kd.C_F heap50 R8.out.2.2.c0))
      have hzs := blk_lt S8.out.v
      go_upto_region 13 with fail
      go_region_held3 (fun W => W.cell? ⟨w.heap.size + 1, 0, none⟩ = some (.int .i64 n) ∧ W.cell? ⟨w.heap.size + 1, 1, none⟩ = some (.slice B l.length d) ∧ W.cell? ⟨w.heap.size + 1, 2, none⟩ = some (.int .i64 m) ∧ W.cell? ⟨w.heap.size + 1, 3, none⟩ = some (.bool t))
        (go_keep)
        (first
          | (go_at_call 23; (with_reducible refine (j_versions 20000000 (R8.out.2.1.below (by (with_reducible repeat (first | exact Below.refl _ _ | apply below_alloc | apply below_drew1 | apply pw_below_drewN | refine below_step ?_ hb9 | refine below_step ?_ hb10)))) (R8.out.1.1.below (by (with_reducible repeat (first | exact Below.refl _ _ | apply below_alloc | apply below_drew1 | apply pw_below_drewN | refine below_step ?_ hb9 | refine below_step ?_ hb10)))) F.out.2.2.2.2.1).mono ?_); rintro e_ w9 ⟨rfl, hb9⟩; have S9 := Aside0.mk (S8.out.below (below_step (by (with_reducible repeat (first | exact Below.refl _ _ | apply below_alloc | apply below_drew1 | apply pw_below_drewN | refine below_step ?_ hb9 | refine below_step ?_ hb10))) hb9)); obtain ⟨_, n2, n3, n4, n5⟩ := S9.out.facts)
          | (refine Kd.N_append_rows_step k50 (w0 := w) w.heap.size (by rfl) (.const (.slice none 0 0)) (.tmp 88) 33 50 (.agg #[.int .i64 0, .slice none 0 0, .int .i64 0, .bool false]) 48 rfl Try.underlying33 info50 rfl (by decide) (by decide) (.slice none 0 0) [] b B2 b.length d2 (fun _ => True) (fun k => k < w8.heap.size) rfl rfl (Kd.N_nil _ _ _ _ _) (Kd.F_below FB.out.1 (by (with_reducible repeat (first | exact Below.refl _ _ | apply below_alloc | apply below_drew1 | apply pw_below_drewN | refine below_step ?_ hb9 | refine below_step ?_ hb10)))) (fun k hk => ⟨trivial, by simp [Value.ownBlock]⟩) (fun _ _ => trivial) (below_step S8.out.hb (by (with_reducible repeat (first | exact Below.refl _ _ | apply below_alloc | apply below_drew1 | apply pw_below_drewN | refine below_step ?_ hb9 | refine below_step ?_ hb10)))) (Below.size (below_step S8.out.hb (by (with_reducible repeat (first | exact Below.refl _ _ | apply below_alloc | apply below_drew1 | apply pw_below_drewN | refine below_step ?_ hb9 | refine below_step ?_ hb10))))) (by have := LB.out; simp; omega) ?_; intro v1 w10 hN hB hg hat; have S10 := Aside0.mk ((S9.out.below (by (with_reducible repeat (first | exact Below.refl _ _ | apply below_alloc | apply below_drew1 | apply pw_below_drewN)))).below (below_new hg)); obtain ⟨_, o2, o3, o4, o5⟩ := S10.out.facts; have hb10 := below_new hg; have N10 := Aside0.mk hN; have QQ := Aside0.mk (own_span hat (Kd.N_lt hN)); clear hN hB hg hat)
          | (refine Kd.N_append_rows_step k50 (w0 := w) w.heap.size (by rfl) (.tmp 89) (.tmp 91) 33 50 (.agg #[.int .i64 0, .slice none 0 0, .int .i64 0, .bool false]) 48 rfl Try.underlying33 info50 rfl (by decide) (by decide) v1 b [(⟨n, ⟨l⟩, m, t⟩ : S50)] _ 1 1 (fun _ => True) _ rfl rfl (Kd.N_below N10.out (by (with_reducible repeat (first | exact Below.refl _ _ | apply below_alloc | apply below_drew1 | apply pw_below_drewN)))) (one_F (v := ⟨n, ⟨l⟩, m, t⟩) (by repeat (first | ((with_reducible refine blk_new' ?_); simp; done) | (with_reducible refine blk_alloc ?_ _) | (with_reducible refine blk_drew ?_) | (with_reducible refine blk_drewN ?_ _) | (with_reducible refine blk_below ?_ hb10))) VF.out.1 (Kd.F_below VF.out.2 (below_step S8.out.hb (by (with_reducible repeat (first | exact Below.refl _ _ | apply below_alloc | apply below_drew1 | apply pw_below_drewN | refine below_step ?_ hb9 | refine below_step ?_ hb10)))))) (fun k hk => ⟨trivial, fun e => by have h1 := QQ.out k e.symm; have h2 := Kd.N_base N10.out k e.symm; (try simp at h1); rcases hk with hk | hk; (all_goals (try simp at hk)); (all_goals omega)⟩) (fun _ _ => trivial) (below_step S8.out.hb (by (with_reducible repeat (first | exact Below.refl _ _ | apply below_alloc | apply below_drew1 | apply pw_below_drewN | refine below_step ?_ hb9 | refine below_step ?_ hb10)))) (Below.size (below_step S8.out.hb (by (with_reducible repeat (first | exact Below.refl _ _ | apply below_alloc | apply below_drew1 | apply pw_below_drewN | refine below_step ?_ hb9 | refine below_step ?_ hb10))))) (by have := LB.out; simp; omega) ?_; intro v2 w11 hN hB hg hat; have h9 := hb9.size; (try simp at h9); have hlow : ∀ k, v1.ownBlock = some k → w8.heap.size ≤ k := (fun k hk => by have h1 := (QQ.out k hk).1; (try simp at h1); omega); have S11 := Aside0.mk (Lv.grown (S10.out.below (by (with_reducible repeat (first | exact Below.refl _ _ | apply below_alloc | apply below_drew1 | apply pw_below_drewN)))) hB hg (fun k hk => by have := hlow k hk; omega)); have O11 := Aside0.mk (Vr.mk (Kd.F_now (Kd.F_grown (Kd.F_below FB.out.2 (by (with_reducible repeat (first | exact Below.refl _ _ | apply below_alloc | apply below_drew1 | apply pw_below_drewN | refine below_step ?_ hb9 | refine below_step ?_ hb10)))) hg (fun k hk e => by have := hlow k e.symm; omega))) R8.out.2.2.l0); have hN2 : Kd.N k50 50 w11 w.heap.size (fun _ => True) v2 bb := (by rw [← HBB.out]; exact hN); obtain ⟨B7, d7, rfl, hc7, hC7⟩ := Kd.N_reads hN2; have P11 := Aside0.mk (Vr.mk hC7 hc7); clear hN hN2 hB hg hat hlow h9 hC7 hc7; obtain ⟨_, p2, p3, p4, p5⟩ := S11.out.facts)
          | (go_at_call 23; (with_reducible refine (j_versions 20000000 (O11.out.below (by (with_reducible repeat (first | exact Below.refl _ _ | apply below_alloc | apply below_drew1 | apply pw_below_drewN)))) (P11.out.below (by (with_reducible repeat (first | exact Below.refl _ _ | apply below_alloc | apply below_drew1 | apply pw_below_drewN)))) F.out.2.2.2.2.2).mono ?_); rintro e_ w12 ⟨rfl, hb12⟩; have S12 := Aside0.mk ((S11.out.below (by (with_reducible repeat (first | exact Below.refl _ _ | apply below_alloc | apply below_drew1 | apply pw_below_drewN)))).below hb12); obtain ⟨_, q2, q3, q4, q5⟩ := S12.out.facts))
      all_goals
        go_wp2
        go_ret
        exact ⟨rfl, S12.out.hb⟩
end Go.Proofs.Ytfcdaifaocgjfaa.Pr
