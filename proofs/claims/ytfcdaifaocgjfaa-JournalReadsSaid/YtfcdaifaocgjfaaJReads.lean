/- A part of the proof of JournalReads; no condition. -/
import Derived.Test.YtfcdaifaocgjfaaJK
import Derived.Test.YtfcdaifaocgjfaaJL
import Derived.Test.YtfcdaifaocgjfaaJr2
import Derived.Test.YtfcdaifaocgjfaaPr35
namespace Go.Proofs.Ytfcdaifaocgjfaa.Pr
open Go.RowKit Go.Proofs.YtfcdaifaocgjfaaW.PrintWords Go.Proofs.YtfcdaifaocgjfaaW.PrintLast Go.Proofs.YtfcdaifaocgjfaaW.PrintMore
set_option linter.unusedVariables false
set_option linter.unusedSimpArgs false
theorem j_refRead (k : Nat) {A A' : Option Addr} {c c' : Nat} {s o : List Int} {w : World} (D : Dk w A c s A' c' o) {r1 r2 : List S50} {r3 : Int} (h : chalklineref34_Read.f k s o = some (r1, r2, r3)) : Calls Try.prog 22 #[.agg #[.slice A s.length c, .slice A' o.length c']] w (RdR w r1 r2 r3) :=
  (chalklineref34_Read.calls k A c s A' c' o r1 r2 r3 w D.c0 D.l0 D.c1 D.l1 h).mono fun e w' ⟨v, v', he, hr, hr', hb⟩ => by
    obtain ⟨A, c, rfl, hc, hC⟩ := Kd.S_reads hr
    obtain ⟨A', c', rfl, hc', hC'⟩ := Kd.S_reads hr'
    exact ⟨A, c, A', c', he, ⟨hC, hc⟩, ⟨hC', hc'⟩, hb⟩
set_option maxHeartbeats 4000000 in
set_option maxRecDepth 100000 in
theorem c_JournalReads (A : Option Addr) (c : Nat) (s : List Int) (A' : Option Addr) (c' : Nat) (o : List Int) (w : World) (h0 : Kd.C (Kd.int .u8) w A s.length s) (hc : s.length ≤ c) (h1 : Kd.C (Kd.int .u8) w A' o.length o) (hc' : o.length ≤ c')
    (hs : ∀ x ∈ s, (Lit.int .u8 x).wf = true) (ho : ∀ x ∈ o, (Lit.int .u8 x).wf = true) (hl : s.length ≤ reachBytes) (hm : o.length ≤ reachBytes) :
    Calls Try.prog 5 #[.agg #[.slice A s.length c, .slice A' o.length c']] w fun e w' => e = .returned (.bool true) ∧ Below w.heap.size w w' := by
  have hs := Pure.bytes_wf hs
  have ho := Pure.bytes_wf ho
  simp only [reachBytes] at hl hm
  have hsm := Pure.readI_small s o hs ho
  have r1 := Pure.jRead s o hs ho (by omega) (by omega)
  have r2 := Pure.refRead s o hs ho (by omega) (by omega) 20000000 (by omega)
  have r3 := Pure.jCheck s o hs ho (by omega) (by omega)
  have q1 := Pure.versions_refl _ hsm.1.1 (fun v hv => Nat.le_trans (hsm.1.2 v hv) (by decide)) 20000000 (by omega)
  have q2 := Pure.versions_refl _ hsm.2.1 (fun v hv => Nat.le_trans (hsm.2.2 v hv) (by decide)) 20000000 (by omega)
  generalize Pure.readI s o = R at r1 r2 r3 q1 q2
  obtain ⟨x, y, e⟩ := R
  dsimp only at r1 r2 r3 q1 q2
  have hf := few_eq s o
  generalize (decide ((s.length : Int) ≤ 4000) && decide ((o.length : Int) ≤ 4000)) = fw at hf
  have ee : (e == e) = true := beq_self_eq_true e
  have F := Aside0.mk (And.intro hf (And.intro r1 (And.intro r2 (And.intro r3 (And.intro q1 q2)))))
  have S := Aside0.mk (Lw.start w #[.slice A s.length c, .slice A' o.length c'])
  have D := Aside0.mk ((Dk.mk h0 hc h1 hc').alloc (.cells #[.slice A s.length c, .slice A' o.length c'] 24))
  clear hs ho hl hm hsm r1 r2 r3 q1 q2 hf h0 hc h1 hc'
  cases hsum : decide (wrap64 ((s.length : Int) + (o.length : Int)) ≤ 1048576)
  all_goals cases fw
  all_goals
    go_enter Try.func5, Try.ntmps5
    go_wp2_with fail
    refine (chalklinelaw34_live.calls true _ rfl).mono ?_
    rintro e_ w1 ⟨rfl, hb1⟩
    have S1 := Aside0.mk (S.out.below hb1)
    have D1 := Aside0.mk (D.out.below hb1)
    clear hb1 S D
    have k0 := S1.out.k0
    have k1 := S1.out.k1
    go_wp2_with fail
    refine (j_few D1.out F.out.1).mono ?_
    rintro e_ w2 ⟨rfl, hb2⟩
    have S2 := Aside0.mk (S1.out.below hb2)
    have D2 := Aside0.mk (D1.out.below hb2)
    clear hb2 S1 D1 k0 k1
    have k0 := S2.out.k0
    have k1 := S2.out.k1
    go_wp2_with fail
    first
      | (go_ret; exact ⟨rfl, S2.out.hb⟩)
      | skip
  all_goals
    refine (j_read D2.out F.out.2.1).mono ?_
    rintro e_ w3 ⟨B1, d1, B2, d2, rfl, X1, Y1, hb3⟩
    have S3 := Aside0.mk (S2.out.below hb3)
    have D3 := Aside0.mk (D2.out.below hb3)
    have V3 := Aside0.mk (And.intro X1 Y1)
    clear hb3 S2 D2 k0 k1 X1 Y1
    have k0 := S3.out.k0
    have k1 := S3.out.k1
    go_wp2_with fail
    refine (j_refRead 20000000 D3.out F.out.2.2.1).mono ?_
    rintro e_ w4 ⟨B3, d3, B4, d4, rfl, X2, Y2, hb4⟩
    have S4 := Aside0.mk (S3.out.below hb4)
    have D4 := Aside0.mk (D3.out.below hb4)
    have V4 := Aside0.mk (And.intro (And.intro (V3.out.1.below hb4) (V3.out.2.below hb4)) (And.intro X2 Y2))
    clear hb4 S3 D3 V3 k0 k1 X2 Y2
    have k0 := S4.out.k0
    have k1 := S4.out.k1
    go_wp2_with fail
    refine (j_versions 20000000 V4.out.1.1 V4.out.2.1 F.out.2.2.2.2.1).mono ?_
    rintro e_ w5 ⟨rfl, hb5⟩
    have S5 := Aside0.mk (S4.out.below hb5)
    have D5 := Aside0.mk (D4.out.below hb5)
    have V5 := Aside0.mk (And.intro (V4.out.1.2.below hb5) (V4.out.2.2.below hb5))
    clear hb5 S4 D4 V4 k0 k1
    have k0 := S5.out.k0
    have k1 := S5.out.k1
    go_wp2_with fail
    refine (j_versions 20000000 V5.out.1 V5.out.2 F.out.2.2.2.2.2).mono ?_
    rintro e_ w6 ⟨rfl, hb6⟩
    have S6 := Aside0.mk (S5.out.below hb6)
    have D6 := Aside0.mk (D5.out.below hb6)
    clear hb6 S5 D5 V5 k0 k1
    have k0 := S6.out.k0
    have k1 := S6.out.k1
    go_wp2_with fail
    refine (j_check D6.out F.out.2.2.2.1).mono ?_
    rintro e_ w7 ⟨rfl, hb7⟩
    have S7 := Aside0.mk (S6.out.below hb7)
    clear hb7 S6 D6 k0 k1
    go_wp2
    go_ret
    exact ⟨rfl, S7.out.hb⟩
end Go.Proofs.Ytfcdaifaocgjfaa.Pr
