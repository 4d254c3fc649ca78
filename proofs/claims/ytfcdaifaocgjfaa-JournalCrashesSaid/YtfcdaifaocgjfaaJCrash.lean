/- A part of the proof of JournalCrashes; no condition. -/
import Derived.Test.YtfcdaifaocgjfaaJK
import Derived.Test.YtfcdaifaocgjfaaJL
import Derived.Test.YtfcdaifaocgjfaaJr3
import Derived.Test.YtfcdaifaocgjfaaPr37
namespace Go.Proofs.Ytfcdaifaocgjfaa.Pure
open Go.RowKit Go.Proofs.Ytfcdaifaocgjfaa.Pr Go.Proofs.YtfcdaifaocgjfaaW.PrintWords Go.Proofs.YtfcdaifaocgjfaaW.PrintLast Go.Proofs.YtfcdaifaocgjfaaW.PrintMore
theorem refJoin (a b : List Int) (h : a.length ≤ 1000000000) (h' : b.length ≤ 1000000000) : chalklineref34_join.f a b = some (a ++ b) := by unfold chalklineref34_join.f; rw [if_pos (by omega)]
theorem refCrash (s o : List Int) (hs : Pl.bytes s) (ho : Pl.bytes o) (hl : s.length ≤ 10000000) (hm : o.length ≤ 10000000) (a : Int) (k : Nat) (hk : 20000000 ≤ k) : chalklineref34_Crash.f k s o a = some (crashI s o a) := by
  unfold chalklineref34_Crash.f crashI
  rw [refCheck s o hs ho (by omega) (by omega) k (by omega), Option.bind_some]
  by_cases h0 : (readI s o).2.2 = 0
  · rw [if_pos h0, if_pos h0]
    by_cases h1 : a < 0
    · rw [if_pos h1, if_pos h1]
    rw [if_neg h1, if_neg h1]
    have hj := mn_in a o.length (by omega)
    have hc := cutI_le o ho a
    rw [if_pos hj.1, if_pos hj.2, refScan _ (bytes_take' ho _) (by rw [List.length_take]; omega) k (by rw [List.length_take]; omega), Option.bind_some, cutI_eq o ho a, if_pos (Int.natCast_nonneg _), if_pos (Int.ofNat_le.mpr hc), Int.toNat_natCast, refJoin _ _ (by omega) (by rw [List.length_take]; omega), Option.bind_some]
  · rw [if_neg h0, if_neg h0]
end Go.Proofs.Ytfcdaifaocgjfaa.Pure
namespace Go.Proofs.Ytfcdaifaocgjfaa.Pr
open Go.RowKit Go.Proofs.YtfcdaifaocgjfaaW.PrintWords Go.Proofs.YtfcdaifaocgjfaaW.PrintLast Go.Proofs.YtfcdaifaocgjfaaW.PrintMore
set_option linter.unusedVariables false
set_option linter.unusedSimpArgs false
theorem j_refCrash (k : Nat) {A A' : Option Addr} {c c' : Nat} {s o : List Int} {w : World} (D : Dk w A c s A' c' o) (n : Int) {r1 r2 : List Int} {r3 : Int} (h : chalklineref34_Crash.f k s o n = some (r1, r2, r3)) : Calls Try.prog 24 #[.agg #[.slice A s.length c, .slice A' o.length c'], .int .i64 n] w (DkR w r1 r2 r3) :=
  (chalklineref34_Crash.calls k A c s A' c' o n r1 r2 r3 w D.c0 D.l0 D.c1 D.l1 h).mono fun e w' ⟨v, v', he, hr, hr', hb⟩ => dkR (dk_ret he hr hr' hb)
set_option maxHeartbeats 4000000 in
set_option maxRecDepth 100000 in
theorem c_JournalCrashes (A : Option Addr) (c : Nat) (s : List Int) (A' : Option Addr) (c' : Nat) (o : List Int) (n : Int) (w : World) (h0 : Kd.C (Kd.int .u8) w A s.length s) (hc : s.length ≤ c) (h1 : Kd.C (Kd.int .u8) w A' o.length o) (hc' : o.length ≤ c')
    (hs : ∀ x ∈ s, (Lit.int .u8 x).wf = true) (ho : ∀ x ∈ o, (Lit.int .u8 x).wf = true) (_ : s.length ≤ reachBytes) (_ : o.length ≤ reachBytes) (_ : (Lit.int .i64 n).wf = true) :
    Calls Try.prog 6 #[.agg #[.slice A s.length c, .slice A' o.length c'], .int .i64 n] w fun e w' => e = .returned (.bool true) ∧ Below w.heap.size w w' := by
  have hs := Pure.bytes_wf hs
  have ho := Pure.bytes_wf ho
  have hf := few_eq s o
  have hF := @few_small s o
  generalize (decide ((s.length : Int) ≤ 4000) && decide ((o.length : Int) ≤ 4000)) = fw at hf hF
  have S := Aside0.mk (Lw.start w #[.slice A s.length c, .slice A' o.length c'])
  have D := Aside0.mk ((Dk.mk h0 hc h1 hc').alloc (.cells #[.slice A s.length c, .slice A' o.length c'] 24))
  have F0 := Aside0.mk hf
  clear hf h0 hc h1 hc'
  cases fw with
  | false =>
    clear hF hs ho
    go_enter Try.func6, Try.ntmps6
    go_wp2_with fail
    refine (chalklinelaw34_live.calls true _ rfl).mono ?_
    rintro e_ w1 ⟨rfl, hb1⟩
    have S1 := Aside0.mk (S.out.below hb1)
    have D1 := Aside0.mk (D.out.below hb1)
    clear hb1 S D
    have k0 := S1.out.k0
    have k1 := S1.out.k1
    go_wp2_with fail
    refine (j_few D1.out F0.out).mono ?_
    rintro e_ w2 ⟨rfl, hb2⟩
    have S2 := Aside0.mk (S1.out.below hb2)
    clear hb2 S1 D1 k0 k1
    go_wp2
    go_ret
    exact ⟨rfl, S2.out.hb⟩
  | true =>
    obtain ⟨hl, hm⟩ := hF rfl
    have r1 := Pure.jCrash s o hs ho (by omega) (by omega) n
    have r2 := Pure.refCrash s o hs ho (by omega) (by omega) n 20000000 (by omega)
    generalize Pure.crashI s o n = R at r1 r2
    obtain ⟨x, y, e⟩ := R
    have ee : (e == e) = true := beq_self_eq_true e
    have q := Pure.same_refl x y
    have F := Aside0.mk (And.intro r1 (And.intro r2 q))
    clear hF hs ho hl hm r1 r2 q
    go_enter Try.func6, Try.ntmps6
    go_wp2_with fail
    refine (chalklinelaw34_live.calls true _ rfl).mono ?_
    rintro e_ w1 ⟨rfl, hb1⟩
    have S1 := Aside0.mk (S.out.below hb1)
    have D1 := Aside0.mk (D.out.below hb1)
    clear hb1 S D
    have k0 := S1.out.k0
    have k1 := S1.out.k1
    go_wp2_with fail
    refine (j_few D1.out F0.out).mono ?_
    rintro e_ w2 ⟨rfl, hb2⟩
    have S2 := Aside0.mk (S1.out.below hb2)
    have D2 := Aside0.mk (D1.out.below hb2)
    clear hb2 S1 D1 k0 k1
    have k0 := S2.out.k0
    have k1 := S2.out.k1
    go_wp2_with fail
    refine (j_crash D2.out n F.out.1).mono ?_
    rintro e_ w3 ⟨B1, d1, B2, d2, rfl, X3, hb3⟩
    have S3 := Aside0.mk ((S2.out.below hb3).alloc (.cells #[.slice B1 x.length d1, .slice B2 y.length d2] 24))
    have D3 := Aside0.mk ((D2.out.below hb3).alloc (.cells #[.slice B1 x.length d1, .slice B2 y.length d2] 24))
    have E3 := Aside0.mk (And.intro (X3.alloc (.cells #[.slice B1 x.length d1, .slice B2 y.length d2] 24)) (blk_new w3 (.cells #[.slice B1 x.length d1, .slice B2 y.length d2] 24)))
    clear hb3 S2 D2 k0 k1 X3
    have k0 := S3.out.k0
    have k1 := S3.out.k1
    go_wp2_with fail
    refine (j_refCrash 20000000 D3.out n F.out.2.1).mono ?_
    rintro e_ w4 ⟨B3, d3, B4, d4, rfl, X4, hb4⟩
    have S4 := Aside0.mk ((S3.out.below hb4).alloc (.cells #[.slice B3 x.length d3, .slice B4 y.length d4] 24))
    have E4 := Aside0.mk (And.intro ((E3.out.1.below hb4).alloc (.cells #[.slice B3 x.length d3, .slice B4 y.length d4] 24)) (And.intro (blk_alloc (blk_below E3.out.2 hb4) (.cells #[.slice B3 x.length d3, .slice B4 y.length d4] 24)) (And.intro (X4.alloc (.cells #[.slice B3 x.length d3, .slice B4 y.length d4] 24)) (blk_new w4 (.cells #[.slice B3 x.length d3, .slice B4 y.length d4] 24)))))
    clear hb4 S3 D3 E3 k0 k1 X4
    have k0 := dk0 E4.out.2.1
    have k1 := dk1 E4.out.2.1
    have k2 := dk0 E4.out.2.2.2
    have k3 := dk1 E4.out.2.2.2
    go_wp2_with fail
    refine (j_same E4.out.1 E4.out.2.2.1 F.out.2.2).mono ?_
    rintro e_ w5 ⟨rfl, hb5⟩
    have B5 := Aside0.mk (below_step S4.out.hb hb5)
    clear hb5 S4 E4 k0 k1 k2 k3
    go_wp2
    go_ret
    exact ⟨rfl, B5.out⟩
end Go.Proofs.Ytfcdaifaocgjfaa.Pr
