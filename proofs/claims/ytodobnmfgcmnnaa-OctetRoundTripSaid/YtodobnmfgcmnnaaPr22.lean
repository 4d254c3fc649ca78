-- Written by this session's own program (wip/pp.sh: a patched run of the kit's print, with contracts of my own).
import Derived.Test.YtodobnmfgcmnnaaPr0
import Derived.Test.YtodobnmfgcmnnaaPr1
import Derived.Test.YtodobnmfgcmnnaaPr4
import Derived.Test.YtodobnmfgcmnnaaPr6
import Derived.Test.YtodobnmfgcmnnaaPr7
import Derived.Test.YtodobnmfgcmnnaaPr8
import Derived.Test.YtodobnmfgcmnnaaPr10
import Derived.Test.YtodobnmfgcmnnaaPr11
import Derived.Test.YtodobnmfgcmnnaaPr12
import Derived.Test.YtodobnmfgcmnnaaPr13
import Derived.Test.YtodobnmfgcmnnaaRoundP
namespace Go.Proofs.Ytodobnmfgcmnnaa.Pr
open Go.RowKit Go.Proofs.YtodobnmfgcmnnaaW.PrintWords Go.Proofs.YtodobnmfgcmnnaaW.PrintLast Go.Proofs.YtodobnmfgcmnnaaW.PrintMore
attribute [local go_sem] max2_int min2_int max_two min_two max_three min_three max_four min_four   -- for this text's walks alone
set_option linter.unusedVariables false
set_option linter.unusedSimpArgs false

-- HAND Derived.Test.YtodobnmfgcmnnaaRoundP
/-! ### chalklinelaw01_OctetRoundTrip: function 6 -/
def chalklinelaw01_OctetRoundTrip.ok (l0 : List Int) (a1 : Int) (l3 : List Int) : Bool := Oc.okB l0 && Oc.ok64 a1 && l3.all Oc.ok64
def chalklinelaw01_OctetRoundTrip.f (k : Nat) (l0 : List Int) (a1 : Int) (a2 : ByteArray) (l3 : List Int) : Option Bool := if chalklinelaw01_OctetRoundTrip.ok l0 a1 l3 = true ∧ 200 ≤ k then some true else none
set_option maxHeartbeats 8000000 in
set_option maxRecDepth 100000 in
theorem chalklinelaw01_OctetRoundTrip.calls (k : Nat) (A0 : Option Addr) (c0 : Nat) (l0 : List Int) (a1 : Int) (a2 : ByteArray) (A3 : Option Addr) (c3 : Nat) (l3 : List Int) (r : Bool) (w : World) (hr0 : Kd.C (Kd.int .u8) w A0 l0.length l0) (hc0 : l0.length ≤ c0) (hr3 : Kd.C (Kd.int .i64) w A3 l3.length l3) (hc3 : l3.length ≤ c3) (h : chalklinelaw01_OctetRoundTrip.f k l0 a1 a2 l3 = some r) :
    Calls Try.prog 6 #[.slice A0 l0.length c0, .int .i64 a1, .string a2, .slice A3 l3.length c3] w fun e w' => e = .returned (.bool r) ∧ Below w.heap.size w w' := by
  unfold chalklinelaw01_OctetRoundTrip.f at h
  by_cases hk : chalklinelaw01_OctetRoundTrip.ok l0 a1 l3 = true ∧ 200 ≤ k
  case neg => rw [if_neg hk] at h; cases h
  rw [if_pos hk] at h
  obtain rfl := Option.some.inj h
  clear h
  obtain ⟨hok, hk⟩ := hk
  unfold chalklinelaw01_OctetRoundTrip.ok at hok
  simp only [Bool.and_eq_true] at hok
  obtain ⟨⟨hb, hn⟩, hx⟩ := hok
  have hx : ∀ x ∈ l3, Oc.ok64 x = true := fun x h => List.all_eq_true.1 hx x h
  have HR0 := Aside0.mk hr0
  have HC0 := Aside0.mk hc0
  have HR3 := Aside0.mk hr3
  have HC3 := Aside0.mk hc3
  clear hr0 hc0 hr3 hc3
  by_cases g1 : (l0.length : Int) ≤ 3000
  case neg =>
    have b1 : decide ((l0.length : Int) ≤ 3000) = false := decide_eq_false g1
    clear g1 hb hn hx hk
    go_enter Try.func6, Try.ntmps6
    go_wp2_with fail
    refine (chalklinelaw01_live.calls true _ rfl).mono ?_
    rintro e w1 ⟨rfl, hb1⟩
    have B1 := Aside0.mk hb1
    clear hb1
    go_wp2_with fail
    refine (chalklinelaw01_few.calls A0 c0 l0 false _ (Kd.C_below HR0.out B1.out) HC0.out (by unfold chalklinelaw01_few.f; rw [b1])).mono ?_
    rintro e w2 ⟨rfl, ⟨nd, rfl⟩⟩
    go_wp2
    go_ret
    exact ⟨rfl, pw_below_drewN B1.out nd⟩
  have b1 : decide ((l0.length : Int) ≤ 3000) = true := decide_eq_true g1
  by_cases g2 : (a2.size : Int) > 300
  · have b2 : decide ((a2.size : Int) > 300) = true := decide_eq_true g2
    have b2' : decide ((300 : Int) < (a2.size : Int)) = true := decide_eq_true g2
    have b2'' : decide (300 < a2.size) = true := decide_eq_true (by omega)
    clear g1 g2 hb hn hx hk
    go_enter Try.func6, Try.ntmps6
    go_wp2_with fail
    refine (chalklinelaw01_live.calls true _ rfl).mono ?_
    rintro e w1 ⟨rfl, hb1⟩
    have B1 := Aside0.mk hb1
    clear hb1
    go_wp2_with fail
    refine (chalklinelaw01_few.calls A0 c0 l0 true _ (Kd.C_below HR0.out B1.out) HC0.out (by unfold chalklinelaw01_few.f; rw [b1])).mono ?_
    rintro e w2 ⟨rfl, ⟨nd, rfl⟩⟩
    go_wp2
    go_ret
    exact ⟨rfl, pw_below_drewN B1.out nd⟩
  have b2 : decide ((a2.size : Int) > 300) = false := decide_eq_false g2
  have b2' : decide ((300 : Int) < (a2.size : Int)) = false := decide_eq_false g2
  have b2'' : decide (300 < a2.size) = false := decide_eq_false (by omega)
  by_cases g3 : (l3.length : Int) > 100
  · have b3 : decide ((l3.length : Int) > 100) = true := decide_eq_true g3
    have b3' : decide ((100 : Int) < (l3.length : Int)) = true := decide_eq_true g3
    have b3'' : decide (100 < l3.length) = true := decide_eq_true (by omega)
    clear g1 g2 g3 hb hn hx hk
    go_enter Try.func6, Try.ntmps6
    go_wp2_with fail
    refine (chalklinelaw01_live.calls true _ rfl).mono ?_
    rintro e w1 ⟨rfl, hb1⟩
    have B1 := Aside0.mk hb1
    clear hb1
    go_wp2_with fail
    refine (chalklinelaw01_few.calls A0 c0 l0 true _ (Kd.C_below HR0.out B1.out) HC0.out (by unfold chalklinelaw01_few.f; rw [b1])).mono ?_
    rintro e w2 ⟨rfl, ⟨nd, rfl⟩⟩
    go_wp2
    go_ret
    exact ⟨rfl, pw_below_drewN B1.out nd⟩
  have b3 : decide ((l3.length : Int) > 100) = false := decide_eq_false g3
  have b3' : decide ((100 : Int) < (l3.length : Int)) = false := decide_eq_false g3
  have b3'' : decide (100 < l3.length) = false := decide_eq_false (by omega)
  obtain ⟨t1, t2, t3, t4, t5, t6, t7⟩ := Pure.trip l0 a1 a2 l3 hb hn hx (by omega) (by omega) (by omega)
  have p1 := Pure.octPut l0 a1 hn (by omega)
  have p2 := Pure.octPutT (Oc.putI l0 a1) a2 (by have := Pure.putI_length l0 a1 hn; omega) (by omega)
  have p3 := Pure.octPuts (Pure.putT (Oc.putI l0 a1) a2) l3 hx (by have := Pure.putI_length l0 a1 hn; have := Pure.putT_len (Oc.putI l0 a1) a2 (by omega); omega) (by omega)
  change octet_PutInts.f _ _ = some (Pure.all3 l0 a1 a2 l3) at p3
  have pi := Pure.ints_refl l3 (by omega) k (by omega)
  have ps := Pure.str_bytes a2
  generalize Pure.all3 l0 a1 a2 l3 = all at *
  generalize Pure.putT (Oc.putI l0 a1) a2 = X2 at *
  generalize Oc.putI l0 a1 = X1 at *
  have P1 := Aside0.mk p1
  have P2 := Aside0.mk p2
  have P3 := Aside0.mk p3
  have T1 := Aside0.mk t1
  have q2 : octet_GetText.f all (X1.length : Int) (a2.size : Int) = some (a2, (X2.length : Int), 0) := by rw [Pure.octText all _ _ t5, t2]; show some (strOfNums (bytesOf a2), _, _) = _; rw [ps]
  have q3 : octet_GetInts.f all (X2.length : Int) (l3.length : Int) = some (l3, (all.length : Int), 0) := by rw [Pure.octInts all _ _ t5 (by omega), t3]
  have Q2 := Aside0.mk q2
  have Q3 := Aside0.mk q3
  have T4 := Aside0.mk t4
  have T5 := Aside0.mk t5
  have PI := Aside0.mk pi
  have bl : decide ((all.length : Int) < (l0.length : Int)) = false := decide_eq_false (by omega)
  have bl' : decide (all.length < l0.length) = false := decide_eq_false (by omega)
  have T7 := Aside0.mk t7
  clear p1 p2 p3 t1 t2 t3 q2 q3 t4 t5 pi ps hb hn hx hk g1 g2 g3 t7 t6
  go_enter Try.func6, Try.ntmps6
  go_wp2_with fail
  refine (chalklinelaw01_live.calls true _ rfl).mono ?_
  rintro e w1 ⟨rfl, hb1⟩
  have B1 := Aside0.mk hb1
  clear hb1
  go_wp2_with fail
  refine (chalklinelaw01_few.calls A0 c0 l0 true _ (Kd.C_below HR0.out B1.out) HC0.out (by unfold chalklinelaw01_few.f; rw [b1])).mono ?_
  rintro e w2 ⟨rfl, hd2⟩
  have B2 := Aside0.mk (below_step B1.out hd2.below)
  clear hd2 B1
  go_wp2_with fail
  refine (octet_PutInt.calls A0 c0 l0 a1 X1 w2 (Kd.C_below HR0.out B2.out) HC0.out P1.out).mono ?_
  rintro e w3 ⟨v3, rfl, ho3, hb3⟩
  obtain ⟨A4, c4, rfl, hc4, hC4⟩ := Kd.R_reads ho3
  have B3 := Aside0.mk (below_step B2.out hb3)
  have C4 := Aside0.mk hC4
  have L4 := Aside0.mk hc4
  clear hb3 ho3 hC4 hc4 B2
  go_wp2_with fail
  refine (octet_PutText.calls A4 c4 X1 a2 X2 w3 C4.out L4.out P2.out).mono ?_
  rintro e w4 ⟨v4, rfl, ho4, hb4⟩
  obtain ⟨A5, c5, rfl, hc5, hC5⟩ := Kd.R_reads ho4
  have B4 := Aside0.mk (below_step B3.out hb4)
  have C5 := Aside0.mk hC5
  have L5 := Aside0.mk hc5
  clear hb4 ho4 hC5 hc5 B3 C4 L4
  go_wp2_with fail
  refine (octet_PutInts.calls A5 c5 X2 A3 c3 l3 all w4 C5.out L5.out (Kd.C_below HR3.out B4.out) HC3.out P3.out).mono ?_
  rintro e w5 ⟨v5, rfl, ho5, hb5⟩
  obtain ⟨A6, c6, rfl, hc6, hC6⟩ := Kd.R_reads ho5
  have B5 := Aside0.mk (below_step B4.out hb5)
  have C6 := Aside0.mk hC6
  have L6 := Aside0.mk hc6
  clear hb5 ho5 hC6 hc6 B4 C5 L5
  go_wp2_with fail
  refine (octet_GetInt.same A6 c6 all (l0.length : Int) a1 (X1.length : Int) 0 w5 C6.out L6.out T5.out T1.out).mono ?_
  rintro e w5 ⟨rfl, rfl⟩
  go_wp2_with fail
  refine (octet_GetText.calls A6 c6 all (X1.length : Int) (a2.size : Int) a2 (X2.length : Int) 0 w5 C6.out L6.out Q2.out).mono ?_
  rintro e w6 ⟨rfl, hb6⟩
  have B6 := Aside0.mk (below_step B5.out hb6)
  have C7 := Aside0.mk (Kd.C_below C6.out hb6)
  clear hb6 B5 C6
  go_wp2_with fail
  refine (octet_GetInts.calls A6 c6 all (X2.length : Int) (l3.length : Int) l3 (all.length : Int) 0 w6 C7.out L6.out Q3.out).mono ?_
  rintro e w7 ⟨v7, rfl, ho7, hb7⟩
  obtain ⟨A8, c8, rfl, hc8, hC8⟩ := Kd.R_reads ho7
  have B7 := Aside0.mk (below_step B6.out hb7)
  have C9 := Aside0.mk (Kd.C_below C7.out hb7)
  have D7 := Aside0.mk hC8
  have L8 := Aside0.mk hc8
  clear hb7 ho7 hC8 hc8 B6 C7
  have G25 := Aside0.mk (fun nq => Calls.quiet_of (w := w7) (n := nq) ((chalklineref01_Ints.calls k A8 c8 l3 A3 c3 l3 true (w7.drewN nq) (Kd.C_drewN D7.out nq) L8.out (Kd.C_drewN (Kd.C_below HR3.out B7.out) nq) HC3.out PI.out).mono (fun _ _ hh => ⟨hh.1, hh.2.out⟩)))
  obtain ⟨i0, hi, hz0, hz1, hz2⟩ := info_parts info5
  obtain ⟨hcut, hAc, hCc⟩ := print_take_of (P := Try.prog) (Value.int .u8) 0 22 5 .i64 Try.underlying22 hi hz1 A6 c6 all (l0.length : Int) (by omega) (by have := T7.out; omega) L6.out
  have hRt := hAc w7 (Kd.reads_of_C C9.out)
  rw [Int.toNat_natCast, T4.out] at hcut hRt
  have s1 : ∀ m, (convert 22 9 (.slice A6 l0.length c6)).run Try.prog (w7.drewN m) = .ok (.string (strOfNums l0)) (w7.drewN m) := fun m => Kd.C_string Try.underlying22 Try.underlying5 Try.underlying9 (Kd.C_drewN (Kd.C_of_reads (h1 := fun _ => rfl) hRt) m)
  have s2 : ∀ m, (convert 22 9 (.slice A0 l0.length c0)).run Try.prog (w7.drewN m) = .ok (.string (strOfNums l0)) (w7.drewN m) := fun m => Kd.C_string Try.underlying22 Try.underlying5 Try.underlying9 (Kd.C_drewN (Kd.C_below HR0.out B7.out) m)
  clear hAc hCc hRt hi hz0 hz1 hz2 D7 C9
  go_wp2_with fail
  go_quiet ((go_at_call 25; exact G25.out _))
  go_wp2
  go_ret
  exact ⟨rfl, pw_below_drewN B7.out _⟩

end Go.Proofs.Ytodobnmfgcmnnaa.Pr
