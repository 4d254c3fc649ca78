/- A part of the proof of JournalBack; no condition. -/
import Derived.Test.YtfcdaifaocgjfaaGa0
import Derived.Test.YtfcdaifaocgjfaaGa1
import Derived.Test.YtfcdaifaocgjfaaGa2
import Derived.Test.YtfcdaifaocgjfaaRdW
namespace Go.Proofs.Ytfcdaifaocgjfaa.Pr
open Go.RowKit Go.Proofs.YtfcdaifaocgjfaaW.PrintWords Go.Proofs.YtfcdaifaocgjfaaW.PrintLast Go.Proofs.YtfcdaifaocgjfaaW.PrintMore
attribute [local go_sem] max2_int min2_int max_two min_two max_three min_three max_four min_four   -- for this text's walks alone
set_option linter.unusedVariables false
set_option linter.unusedSimpArgs false
def rdNum (l : List Int) (a e : Int) : Int × Int × Int := if e = 0 then Oc.getI l a else (0, a, e)
def rdWk (l : List Int) (a e : Int) : List S76 × Int × Int := if e = 0 then week_Get_w l a else ([], a, e)
theorem rdNum_calls (A0 : Option Addr) (c0 : Nat) (l0 : List Int) (g : Nat) (a e : Int) (w : World) (hr0 : Kd.C (Kd.int .u8) w A0 l0.length l0) (hc0 : l0.length ≤ c0) (hb : Oc.okB l0 = true) (hg : w.heap[g]? = some (rdB A0 l0.length c0 a e)) :
    Calls Try.prog 65 #[.pointer (some ⟨g, 0, none⟩)] w fun e' w' => e' = .returned (.int .i64 (rdNum l0 a e).1) ∧ w'.heap[g]? = some (rdB A0 l0.length c0 (rdNum l0 a e).2.1 (rdNum l0 a e).2.2) ∧ w.grownBy w' (some g) := by
  unfold rdNum
  by_cases he : e = 0
  · subst he
    rw [if_pos rfl]
    exact rdNumber A0 c0 l0 g a w hr0 hc0 hb hg
  · rw [if_neg he]
    exact (rdNumber0 A0 c0 l0 g a e w he hg).mono fun _ _ ⟨h1, h2⟩ => ⟨h1, h2 ▸ hg, h2 ▸ World.grownBy.refl _ _⟩
theorem rdWk_calls (A0 : Option Addr) (c0 : Nat) (l0 : List Int) (g : Nat) (a e : Int) (w : World) (hr0 : Kd.C (Kd.int .u8) w A0 l0.length l0) (hc0 : l0.length ≤ c0) (hb : Oc.okB l0 = true) (hg : w.heap[g]? = some (rdB A0 l0.length c0 a e)) :
    Calls Try.prog 66 #[.pointer (some ⟨g, 0, none⟩)] w fun e' w' => ∃ v0_ : Value, e' = .returned (.agg #[v0_]) ∧ Kd.R k76 76 w' w.heap.size (fun _ => True) v0_ (rdWk l0 a e).1 ∧ w'.heap[g]? = some (rdB A0 l0.length c0 (rdWk l0 a e).2.1 (rdWk l0 a e).2.2) ∧ w.grownBy w' (some g) := by
  unfold rdWk
  by_cases he : e = 0
  · subst he
    rw [if_pos rfl]
    exact rdWeek A0 c0 l0 g a w hr0 hc0 hb hg
  · rw [if_neg he]
    have hgl : g < w.heap.size := (Array.getElem?_eq_some_iff.1 hg).1
    exact (rdWeek0 A0 c0 l0 g a e w he hg).mono fun _ _ ⟨h1, h2⟩ => ⟨_, h1, Kd.R_nil _ _ _ _ _, (h2.block g hgl).trans hg, ⟨h2.os, h2.tape, h2.output, h2.size, fun k hk _ => h2.block k hk⟩⟩
/-- What read tells of a record. -/
def rd1 (l : List Int) := rdNum l 0 0
def rd2 (l : List Int) := rdWk l (rd1 l).2.1 (rd1 l).2.2
def rd3 (l : List Int) := rdNum l (rd2 l).2.1 (rd2 l).2.2
def rd4 (l : List Int) := rdNum l (rd3 l).2.1 (rd3 l).2.2
def rdMay (no cost : Int) (n : Nat) : Bool := decide (1 ≤ no) && decide (no ≤ 1099511627776) && decide (0 ≤ cost) && decide (cost ≤ 1099511627776) && decide (n ≤ 64)
def rdOk (l : List Int) : Bool := decide ((rd4 l).2.2 = 0) && decide ((rd4 l).2.1 = (l.length : Int)) && decide (0 ≤ (rd4 l).1) && decide ((rd4 l).1 ≤ 1) && rdMay (rd1 l).1 (rd3 l).1 (rd2 l).1.length
def journal_read_r (l : List Int) : Int × List S76 × Int × Bool × Bool := ((rd1 l).1, (rd2 l).1, (rd3 l).1, (rd4 l).1 == 1, rdOk l)
theorem may_eq (no cost : Int) (ws : List S76) (b : Bool) : journal_may.f no ws cost b = some (rdMay no cost ws.length) := by
  unfold journal_may.f journal_within.f rdMay
  by_cases h1 : 1 ≤ no
  · rw [if_pos h1, Option.bind_some, decide_eq_true h1, Bool.true_and]
    by_cases h2 : no ≤ 1099511627776
    · rw [if_pos (decide_eq_true h2), decide_eq_true h2, Bool.true_and]
      by_cases h3 : 0 ≤ cost
      · rw [if_pos h3, Option.bind_some, decide_eq_true h3, Bool.true_and]
        by_cases h4 : cost ≤ 1099511627776
        · rw [if_pos (decide_eq_true h4), decide_eq_true h4, Bool.true_and]
          congr 1
          by_cases h5 : ws.length ≤ 64
          · rw [decide_eq_true h5, decide_eq_true (show (ws.length : Int) ≤ 64 by omega)]
          · rw [decide_eq_false h5, decide_eq_false (show ¬ (ws.length : Int) ≤ 64 by omega)]
        · rw [if_neg (by simpa using h4), decide_eq_false h4, Bool.false_and]
      · rw [if_neg h3, Option.bind_some, if_neg (by simp), decide_eq_false h3, Bool.false_and, Bool.false_and]
    · rw [if_neg (by simpa using h2), decide_eq_false h2, Bool.false_and, Bool.false_and, Bool.false_and]
  · rw [if_neg h1, Option.bind_some, if_neg (by simp), decide_eq_false h1, Bool.false_and, Bool.false_and, Bool.false_and, Bool.false_and]
/-- While a record is read: the result's own block B, the reader's block B + 1. -/
structure Rk (w : World) (A0 : Option Addr) (n c0 : Nat) (cs : Array Value) (a e : Int) (W : World) : Prop where
  hb : Below w.heap.size w W
  v : W.heap[w.heap.size]? = some (.cells cs 50)
  g : W.heap[w.heap.size + 1]? = some (rdB A0 n c0 a e)
  sz : w.heap.size + 2 ≤ W.heap.size
theorem Rk.next {w : World} {A0 : Option Addr} {n c0 : Nat} {cs : Array Value} {a e a' e' : Int} {W W' : World} (h : Rk w A0 n c0 cs a e W) (hg : W'.heap[w.heap.size + 1]? = some (rdB A0 n c0 a' e')) (hw : W.grownBy W' (some (w.heap.size + 1))) : Rk w A0 n c0 cs a' e' W' :=
  ⟨h.hb.grown hw (by have := h.sz; omega) (fun k e => by cases e; omega), (hw.block _ (by have := h.sz; omega) (fun e => by injection e with e; omega)).trans h.v, hg, Nat.le_trans h.sz hw.size⟩
theorem Rk.facts {w : World} {A0 : Option Addr} {n c0 : Nat} {x0 x1 x2 x3 : Value} {a e : Int} {W : World} (h : Rk w A0 n c0 #[x0, x1, x2, x3] a e W) :
    (W.cell? ⟨w.heap.size, 0, none⟩ = some x0 ∧ W.cell? ⟨w.heap.size, 1, none⟩ = some x1 ∧ W.cell? ⟨w.heap.size, 2, none⟩ = some x2 ∧ W.cell? ⟨w.heap.size, 3, none⟩ = some x3) ∧
    (W.frozen? ⟨w.heap.size, 0, none⟩ = false ∧ W.frozen? ⟨w.heap.size, 1, none⟩ = false ∧ W.frozen? ⟨w.heap.size, 2, none⟩ = false ∧ W.frozen? ⟨w.heap.size, 3, none⟩ = false) :=
  ⟨⟨by rw [World.cell?, h.v]; rfl, by rw [World.cell?, h.v]; rfl, by rw [World.cell?, h.v]; rfl, by rw [World.cell?, h.v]; rfl⟩, ⟨by rw [World.frozen?, h.v]; rfl, by rw [World.frozen?, h.v]; rfl, by rw [World.frozen?, h.v]; rfl, by rw [World.frozen?, h.v]; rfl⟩⟩
theorem Rk.set {w : World} {A0 : Option Addr} {n c0 : Nat} {cs : Array Value} {a e : Int} {W : World} (h : Rk w A0 n c0 cs a e W) (i : Nat) (u : Value) : Rk w A0 n c0 (cs.setIfInBounds i u) a e (W.setCell ⟨w.heap.size, i, none⟩ u) :=
  ⟨h.hb.setCell (Nat.le_refl _) _, by simp [World.setCell, Array.getElem?_modify, h.v], (Below.heap_setCell _ _ _ _ (by show w.heap.size + 1 ≠ w.heap.size; omega)).trans h.g, by simpa using h.sz⟩
theorem Rk.below {w : World} {A0 : Option Addr} {n c0 : Nat} {cs : Array Value} {a e : Int} {W W' : World} (h : Rk w A0 n c0 cs a e W) (hW : Below W.heap.size W W') : Rk w A0 n c0 cs a e W' :=
  ⟨below_step h.hb hW, (hW.block _ (by have := h.sz; omega)).trans h.v, (hW.block _ (by have := h.sz; omega)).trans h.g, Nat.le_trans h.sz hW.size⟩
theorem Rk.low {w : World} {A0 : Option Addr} {n c0 : Nat} {cs : Array Value} {a e : Int} {W W' : World} (h : Rk w A0 n c0 cs a e W) (hW : Below W.heap.size W W') : Below W.heap.size W W' := hW
theorem Rk.held {w : World} {A0 : Option Addr} {n c0 : Nat} {x0 x1 x2 x3 : Value} {a e : Int} {W : World} (h : Rk w A0 n c0 #[x0, x1, x2, x3] a e W) :
    W.cell? ⟨w.heap.size, 0, none⟩ = some x0 ∧ W.cell? ⟨w.heap.size, 1, none⟩ = some x1 ∧ W.cell? ⟨w.heap.size, 2, none⟩ = some x2 ∧ W.cell? ⟨w.heap.size, 3, none⟩ = some x3 ∧ W.cell? ⟨w.heap.size + 1, 1, none⟩ = some (.int .i64 a) ∧ W.cell? ⟨w.heap.size + 1, 2, none⟩ = some (.int .i64 e) :=
  ⟨h.facts.1.1, h.facts.1.2.1, h.facts.1.2.2.1, h.facts.1.2.2.2, (rd_facts h.g).2.1, (rd_facts h.g).2.2.1⟩
theorem within_eq (b : Int) : journal_within.f b 0 1 = some (decide (0 ≤ b) && decide (b ≤ 1)) := by
  unfold journal_within.f
  by_cases h : 0 ≤ b
  · rw [if_pos h, decide_eq_true h, Bool.true_and]
  · rw [if_neg h, decide_eq_false h, Bool.false_and]
theorem rdOk_may {l : List Int} (h1 : (rd4 l).2.2 = 0) (h2 : (rd4 l).2.1 = (l.length : Int)) (h3 : journal_within.f (rd4 l).1 0 1 = some true) : rdMay (rd1 l).1 (rd3 l).1 (rd2 l).1.length = rdOk l := by
  unfold rdOk
  rw [within_eq] at h3
  rw [decide_eq_true h1, decide_eq_true h2, Bool.true_and, Bool.true_and, Option.some.inj h3, Bool.true_and]
theorem rdOk_no3 {l : List Int} (h3 : journal_within.f (rd4 l).1 0 1 = some false) : false = rdOk l := by
  unfold rdOk
  rw [within_eq] at h3
  rw [Bool.and_assoc _ (decide (0 ≤ (rd4 l).1)), Option.some.inj h3, Bool.and_false, Bool.false_and]
theorem rdOk_no2 {l : List Int} (h2 : ¬ (rd4 l).2.1 = (l.length : Int)) : false = rdOk l := by
  unfold rdOk
  rw [decide_eq_false h2, Bool.and_false, Bool.false_and, Bool.false_and, Bool.false_and]
theorem rdOk_no1 {l : List Int} (h1 : ¬ (rd4 l).2.2 = 0) : false = rdOk l := by
  unfold rdOk
  rw [decide_eq_false h1, Bool.false_and, Bool.false_and, Bool.false_and, Bool.false_and]
set_option maxHeartbeats 40000000 in
set_option maxRecDepth 100000 in
theorem journal_read.calls_ (A0 : Option Addr) (c0 : Nat) (l0 : List Int) (w : World) (hr0 : Kd.C (Kd.int .u8) w A0 l0.length l0) (hc0 : l0.length ≤ c0) (hb : Oc.okB l0 = true) :
    Calls Try.prog 52 #[.slice A0 l0.length c0] w fun e w' => ∃ v1_ : Value, e = .returned (.tuple #[.agg #[.int .i64 (rd1 l0).1, v1_, .int .i64 (rd3 l0).1, .bool ((rd4 l0).1 == 1)], .bool (rdOk l0)]) ∧ Kd.R k76 76 w' w.heap.size (fun _ => True) v1_ (rd2 l0).1 ∧ Below w.heap.size w w' := by
  have GN := Aside0.mk (fun (g : Nat) (a e : Int) (W : World) (hW : Kd.C (Kd.int .u8) W A0 l0.length l0) (hg : W.heap[g]? = some (rdB A0 l0.length c0 a e)) => rdNum_calls A0 c0 l0 g a e W hW hc0 hb hg)
  have GW := Aside0.mk (fun (g : Nat) (a e : Int) (W : World) (hW : Kd.C (Kd.int .u8) W A0 l0.length l0) (hg : W.heap[g]? = some (rdB A0 l0.length c0 a e)) => rdWk_calls A0 c0 l0 g a e W hW hc0 hb hg)
  have HR := Aside0.mk hr0
  clear hr0 hc0 hb
  go_enter Try.func52, Try.ntmps52
  go_wp2_with fail
  have hs0 : (w.alloc (.cells #[.int .i64 0, .slice none 0 0, .int .i64 0, .bool false] 50)).heap.size = w.heap.size + 1 := by simp
  have h0 : Rk w A0 l0.length c0 #[.int .i64 0, .slice none 0 0, .int .i64 0, .bool false] 0 0 ((w.alloc (.cells #[.int .i64 0, .slice none 0 0, .int .i64 0, .bool false] 50)).alloc (.cells #[.slice A0 l0.length c0, .int .i64 0, .int .i64 0] 94)) :=
    ⟨below_alloc (below_alloc (Below.refl _ _) _) _, (Below.heap_alloc _ _ _ (by omega)).trans (heap_alloc_new w _), by have := heap_alloc_new (w.alloc (.cells #[.int .i64 0, .slice none 0 0, .int .i64 0, .bool false] 50)) (.cells #[.slice A0 l0.length c0, .int .i64 0, .int .i64 0] 94); rw [hs0] at this; exact this, by simp⟩
  have R0 := Aside0.mk h0
  clear h0 hs0
  generalize (w.alloc (.cells #[.int .i64 0, .slice none 0 0, .int .i64 0, .bool false] 50)).alloc (.cells #[.slice A0 l0.length c0, .int .i64 0, .int .i64 0] 94) = w0 at *
  refine (GN.out (w.heap.size + 1) 0 0 w0 (Kd.C_below HR.out R0.out.hb) R0.out.g).mono ?_
  rintro e w1 ⟨rfl, hg1, hw1⟩
  have R1 := Aside0.mk (R0.out.next hg1 hw1)
  clear hg1 hw1 R0
  change Aside0 (Rk w A0 l0.length c0 _ (rd1 l0).2.1 (rd1 l0).2.2 w1) at R1
  go_wp2_with fail
  refine (GW.out (w.heap.size + 1) (rd1 l0).2.1 (rd1 l0).2.2 w1 (Kd.C_below HR.out R1.out.hb) R1.out.g).mono ?_
  rintro e w2 ⟨v2, rfl, ho2, hg2, hw2⟩
  have R2 := Aside0.mk (R1.out.next hg2 hw2)
  change Aside0 (Rk w A0 l0.length c0 _ (rd2 l0).2.1 (rd2 l0).2.2 w2) at R2
  change Kd.R k76 76 w2 w1.heap.size (fun _ => True) v2 (rd2 l0).1 at ho2
  obtain ⟨A2, c2, rfl⟩ := Kd.R_slice ho2
  have O2 := Aside0.mk (Kd.R_mono (Kd.R_lower (Kd.R_bound ho2) (base' := w.heap.size) (by have := R1.out.sz; omega)) (ok' := fun k => k ≠ w.heap.size ∧ k ≠ w.heap.size + 1) (fun k hk => by have := hk.2.1; have := R1.out.sz; omega))
  clear hg2 hw2 R1 ho2
  go_wp2_with fail
  refine (GN.out (w.heap.size + 1) (rd2 l0).2.1 (rd2 l0).2.2 w2 (Kd.C_below HR.out R2.out.hb) R2.out.g).mono ?_
  rintro e w3 ⟨rfl, hg3, hw3⟩
  have R3 := Aside0.mk (R2.out.next hg3 hw3)
  change Aside0 (Rk w A0 l0.length c0 _ (rd3 l0).2.1 (rd3 l0).2.2 w3) at R3
  have O3 := Aside0.mk (Kd.R_grown O2.out hw3 (fun k hk e => by injection e with e; exact hk.2 e))
  clear hg3 hw3 R2 O2
  have e3 : (rdNum l0 (rd2 l0).2.1 (rd2 l0).2.2).1 = (rd3 l0).1 := rfl
  have e1 : (rdNum l0 0 0).1 = (rd1 l0).1 := rfl
  rw [e3]
  rw [e1]
  clear e3 e1
  obtain ⟨⟨k0, k1, k2, k3⟩, j0, j1, j2, j3⟩ := R3.out.facts
  have h4 := ((R3.out.set 0 (.int .i64 (rd1 l0).1)).set 1 (.slice A2 (rd2 l0).1.length c2)).set 2 (.int .i64 (rd3 l0).1)
  have R4 := Aside0.mk h4
  have O4 := Aside0.mk (Kd.R_far (Kd.R_far (Kd.R_far O3.out (p := ⟨w.heap.size, 0, none⟩) (fun k hk => hk.1) (.int .i64 (rd1 l0).1)) (p := ⟨w.heap.size, 1, none⟩) (fun k hk => hk.1) (.slice A2 (rd2 l0).1.length c2)) (p := ⟨w.heap.size, 2, none⟩) (fun k hk => hk.1) (.int .i64 (rd3 l0).1))
  clear h4 R3 O3
  obtain ⟨W4, hW4⟩ : ∃ W4, (((w3.setCell ⟨w.heap.size, 0, none⟩ (.int .i64 (rd1 l0).1)).setCell ⟨w.heap.size, 1, none⟩ (.slice A2 (rd2 l0).1.length c2)).setCell ⟨w.heap.size, 2, none⟩ (.int .i64 (rd3 l0).1)) = W4 := ⟨_, rfl⟩
  rw [hW4] at R4 O4
  have HW4 := Aside0.mk hW4
  clear hW4
  go_wp2_with fail
  rw [HW4.out]
  refine (GN.out (w.heap.size + 1) (rd3 l0).2.1 (rd3 l0).2.2 W4 (Kd.C_below HR.out R4.out.hb) R4.out.g).mono ?_
  rintro e w5 ⟨rfl, hg5, hw5⟩
  have R5 := Aside0.mk (R4.out.next hg5 hw5)
  change Aside0 (Rk w A0 l0.length c0 #[.int .i64 (rd1 l0).1, .slice A2 (rd2 l0).1.length c2, .int .i64 (rd3 l0).1, .bool false] (rd4 l0).2.1 (rd4 l0).2.2 w5) at R5
  have O5 := Aside0.mk (Kd.R_grown O4.out hw5 (fun k hk e => by injection e with e; exact hk.2 e))
  clear hg5 hw5 R4 O4 HW4 k0 k1 k2 k3 j0 j1 j2 j3
  obtain ⟨⟨k0, k1, k2, k3⟩, j0, j1, j2, j3⟩ := R5.out.facts
  have e4 : (rdNum l0 (rd3 l0).2.1 (rd3 l0).2.2).1 = (rd4 l0).1 := rfl
  rw [e4]
  clear e4
  have R6 := Aside0.mk (R5.out.set 3 (.bool ((rd4 l0).1 == 1)))
  change Aside0 (Rk w A0 l0.length c0 #[.int .i64 (rd1 l0).1, .slice A2 (rd2 l0).1.length c2, .int .i64 (rd3 l0).1, .bool ((rd4 l0).1 == 1)] (rd4 l0).2.1 (rd4 l0).2.2 _) at R6
  have O6 := Aside0.mk (Kd.R_far O5.out (p := ⟨w.heap.size, 3, none⟩) (fun k hk => hk.1) (.bool ((rd4 l0).1 == 1)))
  clear R5 O5
  obtain ⟨W6, hW6⟩ : ∃ W6, (w5.setCell ⟨w.heap.size, 3, none⟩ (.bool ((rd4 l0).1 == 1))) = W6 := ⟨_, rfl⟩
  rw [hW6] at R6 O6
  have HW6 := Aside0.mk hW6
  clear hW6
  go_wp2_with fail
  rw [HW6.out]
  clear HW6 k0 k1 k2 k3 j0 j1 j2 j3
  obtain ⟨⟨k0, k1, k2, k3⟩, j0, j1, j2, j3⟩ := R6.out.facts
  obtain ⟨g0, g1, g2, _, _⟩ := rd_facts R6.out.g
  have GI := Aside0.mk (fun (r : Bool) (W : World) (h : journal_within.f (rd4 l0).1 0 1 = some r) => journal_within.calls (rd4 l0).1 0 1 r W h)
  have GM := Aside0.mk (fun (W : World) (h1 : Kd.C k76 W A2 (rd2 l0).1.length (rd2 l0).1) (h2 : (rd2 l0).1.length ≤ c2) => journal_may.calls (rd1 l0).1 A2 c2 (rd2 l0).1 (rd3 l0).1 ((rd4 l0).1 == 1) _ W h1 h2 (may_eq _ _ _ _))
  clear k0 k1 k2 k3 j0 j1 j2 j3 g0 g1 g2
  by_cases d1 : (rd4 l0).2.2 = 0
  · have d1b : ((rd4 l0).2.2 == 0) = true := beq_iff_eq.mpr d1
    by_cases d2 : (rd4 l0).2.1 = (l0.length : Int)
    · have d2b : ((rd4 l0).2.1 == (l0.length : Int)) = true := beq_iff_eq.mpr d2
      by_cases d3 : (decide (0 ≤ (rd4 l0).1) && decide ((rd4 l0).1 ≤ 1)) = true
      · replace d3 := (within_eq _).trans (congrArg some d3)
        refine start_ (n := 25) (S := fun w' => w'.cell? ⟨w.heap.size, 0, none⟩ = some (.int .i64 (rd1 l0).1) ∧ w'.cell? ⟨w.heap.size, 1, none⟩ = some (.slice A2 (rd2 l0).1.length c2) ∧ w'.cell? ⟨w.heap.size, 2, none⟩ = some (.int .i64 (rd3 l0).1) ∧ w'.cell? ⟨w.heap.size, 3, none⟩ = some (.bool ((rd4 l0).1 == 1)) ∧ w'.cell? ⟨w.heap.size + 1, 1, none⟩ = some (.int .i64 (rd4 l0).2.1) ∧ w'.cell? ⟨w.heap.size + 1, 2, none⟩ = some (.int .i64 (rd4 l0).2.2)) (ds := [23]) #[false, false, false, false, false, false, false, false, false, false, false, false, false, false, false, false, false, false, false, false, false, false, false, false, false] (by kernel_rfl) rfl rfl (R6.out.below (below_drew (Below.refl _ _))).held (fun hHeld => ?_)
        have R7 := Aside0.mk (R6.out.below (below_drew (Below.refl _ _)))
        have O7 := Aside0.mk (Kd.R_drew O6.out)
        clear R6 O6
        generalize W6.drew = w7 at R7 O7 hHeld ⊢
        refine take_ (i := 0) (N := some 26) (v := ?_) (a' := ?_) #[true, false, false, false, false, false, false, false, false, false, false, false, false, false, false, false, false, false, false, false, false, false, false, false, false] rfl rfl (by kernel_rfl) (fun _ _ _ h => h) (Or.inl ⟨by rfl, ?_⟩) hHeld ?_ ?_
        rotate_left
        · rintro w' ⟨s0, s1, s2, s3, s4, s5⟩
          go_simp
          with_reducible rfl
        rotate_left
        · simp only [Act.put, List.setIfInBounds_toArray, List.set_cons_zero, List.set_cons_succ, i64_w, i32_w]
          rfl
        refine take_ (i := 1) (N := some 27) (v := ?_) (a' := ?_) #[true, true, false, false, false, false, false, false, false, false, false, false, false, false, false, false, false, false, false, false, false, false, false, false, false] rfl rfl (by kernel_rfl) (fun _ _ _ h => h) (Or.inl ⟨by rfl, ?_⟩) hHeld ?_ ?_
        rotate_left
        · rintro w' ⟨s0, s1, s2, s3, s4, s5⟩
          go_simp
          with_reducible rfl
        rotate_left
        · simp only [Act.put, List.setIfInBounds_toArray, List.set_cons_zero, List.set_cons_succ, i64_w, i32_w]
          rfl
        refine take_ (i := 2) (N := some 28) (v := ?_) (a' := ?_) #[true, true, true, false, false, false, false, false, false, false, false, false, false, false, false, false, false, false, false, false, false, false, false, false, false] rfl rfl (by kernel_rfl) (fun _ _ _ h => h) (Or.inl ⟨by rfl, ?_⟩) hHeld ?_ ?_
        rotate_left
        · rintro w' ⟨s0, s1, s2, s3, s4, s5⟩
          go_simp
          with_reducible rfl
        rotate_left
        · simp only [Act.put, List.setIfInBounds_toArray, List.set_cons_zero, List.set_cons_succ, i64_w, i32_w]
          rfl
        refine take_ (i := 3) (N := some 29) (v := ?_) (a' := ?_) #[true, true, true, true, false, false, false, false, false, false, false, false, false, false, false, false, false, false, false, false, false, false, false, false, false] rfl rfl (by kernel_rfl) (fun _ _ _ h => h) (Or.inl ⟨by rfl, ?_⟩) hHeld ?_ ?_
        rotate_left
        · rintro w' ⟨s0, s1, s2, s3, s4, s5⟩
          go_simp
          with_reducible rfl
        rotate_left
        · simp only [Act.put, List.setIfInBounds_toArray, List.set_cons_zero, List.set_cons_succ, i64_w, i32_w]
          rfl
        refine take_ (i := 4) (N := some 30) (v := ?_) (a' := ?_) #[true, true, true, true, true, false, false, false, false, false, false, false, false, false, false, false, false, false, false, false, false, false, false, false, false] rfl rfl (by kernel_rfl) (fun _ _ _ h => h) (Or.inl ⟨by rfl, ?_⟩) hHeld ?_ ?_
        rotate_left
        · rintro w' ⟨s0, s1, s2, s3, s4, s5⟩
          go_simp
          with_reducible rfl
        rotate_left
        · simp only [Act.put, List.setIfInBounds_toArray, List.set_cons_zero, List.set_cons_succ, i64_w, i32_w]
          rfl
        refine take_ (i := 5) (N := some 31) (v := ?_) (a' := ?_) #[true, true, true, true, true, true, false, false, false, false, false, false, false, false, false, false, false, false, false, false, false, false, false, false, false] rfl rfl (by kernel_rfl) (fun _ _ _ h => h) (Or.inl ⟨by rfl, ?_⟩) hHeld ?_ ?_
        rotate_left
        · rintro w' ⟨s0, s1, s2, s3, s4, s5⟩
          go_simp
          with_reducible rfl
        rotate_left
        · simp only [Act.put, List.setIfInBounds_toArray, List.set_cons_zero, List.set_cons_succ, i64_w, i32_w]
          rfl
        refine take_ (i := 6) (N := some 32) (v := ?_) (a' := ?_) #[true, true, true, true, true, true, true, false, false, false, false, false, false, false, false, false, false, false, false, false, false, false, false, false, false] rfl rfl (by kernel_rfl) (fun _ _ _ h => h) (Or.inl ⟨by rfl, ?_⟩) hHeld ?_ ?_
        rotate_left
        · rintro w' ⟨s0, s1, s2, s3, s4, s5⟩
          go_simp
          with_reducible rfl
        rotate_left
        · simp only [Act.put, List.setIfInBounds_toArray, List.set_cons_zero, List.set_cons_succ, i64_w, i32_w]
          rfl
        refine take_ (i := 7) (N := some 33) (v := ?_) (a' := ?_) #[true, true, true, true, true, true, true, true, false, false, false, false, false, false, false, false, false, false, false, false, false, false, false, false, false] rfl rfl (by kernel_rfl) (fun _ _ _ h => h) (Or.inl ⟨by rfl, ?_⟩) hHeld ?_ ?_
        rotate_left
        · rintro w' ⟨s0, s1, s2, s3, s4, s5⟩
          go_simp
          with_reducible rfl
        rotate_left
        · simp only [Act.put, List.setIfInBounds_toArray, List.set_cons_zero, List.set_cons_succ, i64_w, i32_w]
          rfl
        refine take_ (i := 8) (N := some 34) (v := ?_) (a' := ?_) #[true, true, true, true, true, true, true, true, true, false, false, false, false, false, false, false, false, false, false, false, false, false, false, false, false] rfl rfl (by kernel_rfl) (fun _ _ _ h => h) (Or.inl ⟨by rfl, ?_⟩) hHeld ?_ ?_
        rotate_left
        · rintro w' ⟨s0, s1, s2, s3, s4, s5⟩
          go_simp
          with_reducible rfl
        rotate_left
        · simp only [Act.put, List.setIfInBounds_toArray, List.set_cons_zero, List.set_cons_succ, i64_w, i32_w]
          rfl
        refine take_ (i := 9) (N := some 35) (v := ?_) (a' := ?_) #[true, true, true, true, true, true, true, true, true, true, false, false, false, false, false, false, false, false, false, false, false, false, false, false, false] rfl rfl (by kernel_rfl) (fun _ _ _ h => h) (Or.inl ⟨by rfl, ?_⟩) hHeld ?_ ?_
        rotate_left
        · rintro w' ⟨s0, s1, s2, s3, s4, s5⟩
          go_simp
          with_reducible rfl
        rotate_left
        · simp only [Act.put, List.setIfInBounds_toArray, List.set_cons_zero, List.set_cons_succ, i64_w, i32_w]
          rfl
        refine take_ (i := 10) (N := some 36) (v := ?_) (a' := ?_) #[true, true, true, true, true, true, true, true, true, true, true, false, false, false, false, false, false, false, false, false, false, false, false, false, false] rfl rfl (by kernel_rfl) (fun _ _ _ h => h) (Or.inl ⟨by rfl, ?_⟩) hHeld ?_ ?_
        rotate_left
        · rintro w' ⟨s0, s1, s2, s3, s4, s5⟩
          go_simp
          with_reducible rfl
        rotate_left
        · simp only [Act.put, List.setIfInBounds_toArray, List.set_cons_zero, List.set_cons_succ, i64_w, i32_w]
          rfl
        refine take_ (i := 11) (N := some 37) (v := ?_) (a' := ?_) #[true, true, true, true, true, true, true, true, true, true, true, true, false, false, false, false, false, false, false, false, false, false, false, false, false] rfl rfl (by kernel_rfl) (fun _ _ _ h => h) (Or.inl ⟨by rfl, ?_⟩) hHeld ?_ ?_
        rotate_left
        · rintro w' ⟨s0, s1, s2, s3, s4, s5⟩
          go_simp
          with_reducible rfl
        rotate_left
        · simp only [Act.put, List.setIfInBounds_toArray, List.set_cons_zero, List.set_cons_succ, i64_w, i32_w]
          rfl
        refine take_ (i := 12) (N := some 38) (v := ?_) (a' := ?_) #[true, true, true, true, true, true, true, true, true, true, true, true, true, false, false, false, false, false, false, false, false, false, false, false, false] rfl rfl (by kernel_rfl) (fun _ _ _ h => h) (Or.inl ⟨by rfl, ?_⟩) hHeld ?_ ?_
        rotate_left
        · rintro w' ⟨s0, s1, s2, s3, s4, s5⟩
          go_simp
          with_reducible rfl
        rotate_left
        · simp only [Act.put, List.setIfInBounds_toArray, List.set_cons_zero, List.set_cons_succ, i64_w, i32_w]
          rfl
        refine take_ (i := 13) (N := some 39) (v := ?_) (a' := ?_) #[true, true, true, true, true, true, true, true, true, true, true, true, true, true, false, false, false, false, false, false, false, false, false, false, false] rfl rfl (by kernel_rfl) (fun _ _ _ h => h) (Or.inl ⟨by rfl, ?_⟩) hHeld ?_ ?_
        rotate_left
        · rintro w' ⟨s0, s1, s2, s3, s4, s5⟩
          go_simp
          with_reducible rfl
        rotate_left
        · simp only [Act.put, List.setIfInBounds_toArray, List.set_cons_zero, List.set_cons_succ, i64_w, i32_w]
          rfl
        refine take_ (i := 14) (N := some 40) (v := ?_) (a' := ?_) #[true, true, true, true, true, true, true, true, true, true, true, true, true, true, true, false, false, false, false, false, false, false, false, false, false] rfl rfl (by kernel_rfl) (fun _ _ _ h => h) (Or.inl ⟨by rfl, ?_⟩) hHeld ?_ ?_
        rotate_left
        · rintro w' ⟨s0, s1, s2, s3, s4, s5⟩
          go_simp
          with_reducible rfl
        rotate_left
        · simp only [Act.put, List.setIfInBounds_toArray, List.set_cons_zero, List.set_cons_succ, i64_w, i32_w]
          rfl
        refine take_ (i := 15) (N := some 41) (v := ?_) (a' := ?_) #[true, true, true, true, true, true, true, true, true, true, true, true, true, true, true, true, false, false, false, false, false, false, false, false, false] rfl rfl (by kernel_rfl) (fun _ _ _ h => h) (Or.inl ⟨by rfl, ?_⟩) hHeld ?_ ?_
        rotate_left
        · rintro w' ⟨s0, s1, s2, s3, s4, s5⟩
          go_simp
          with_reducible rfl
        rotate_left
        · simp only [Act.put, List.setIfInBounds_toArray, List.set_cons_zero, List.set_cons_succ, i64_w, i32_w]
          rfl
        refine take_ (i := 16) (N := some 42) (v := ?_) (a' := ?_) #[true, true, true, true, true, true, true, true, true, true, true, true, true, true, true, true, true, false, false, false, false, false, false, false, false] rfl rfl (by kernel_rfl) (fun _ _ _ h => h) (Or.inl ⟨by rfl, ?_⟩) hHeld ?_ ?_
        rotate_left
        · rintro w' ⟨s0, s1, s2, s3, s4, s5⟩
          go_simp
          with_reducible rfl
        rotate_left
        · simp only [Act.put, List.setIfInBounds_toArray, List.set_cons_zero, List.set_cons_succ, i64_w, i32_w]
          rfl
        refine one_ (i := 17) (N := some 43) #[true, true, true, true, true, true, true, true, true, true, true, true, true, true, true, true, true, true, false, false, false, false, false, false, false] rfl rfl (by kernel_rfl) (by decide) (fun K hK => ?_)
        refine goes_ Try.func56 (by kernel_rfl) rfl #[.int .i64 (rd4 l0).1, .int .i64 0, .int .i64 1] (by rfl) rfl rfl (by (try simp only [List.map_toArray, List.map_cons, List.map_nil]); first | done | rfl) ?_
        refine (GI.out _ w7 d3).mono ?_
        rintro e w8 ⟨rfl, hd⟩
        refine ⟨_, rfl, ?_⟩
        have n1_ := Aside0.mk (R7.out.below hd.below)
        have n2_ := Aside0.mk (Kd.R_below O7.out (R7.out.low hd.below))
        clear R7 O7 hHeld
        have R7 := n1_
        have O7 := n2_
        clear n1_ n2_ hd
        refine hK.out _ _ R7.out.held (fun hHeld => ?_)
        clear hK K
        refine norm_ (a' := ?_) ?_ ?_
        rotate_left
        · show Act.put _ (some 43) _ = _
          simp only [Act.put, List.setIfInBounds_toArray, List.set_cons_zero, List.set_cons_succ, i64_w, i32_w]
          rfl
        refine take_ (i := 18) (N := some 44) (v := ?_) (a' := ?_) #[true, true, true, true, true, true, true, true, true, true, true, true, true, true, true, true, true, true, true, false, false, false, false, false, false] rfl rfl (by kernel_rfl) (fun _ _ _ h => h) (Or.inl ⟨by rfl, ?_⟩) hHeld ?_ ?_
        rotate_left
        · rintro w' ⟨s0, s1, s2, s3, s4, s5⟩
          go_simp
          with_reducible rfl
        rotate_left
        · simp only [Act.put, List.setIfInBounds_toArray, List.set_cons_zero, List.set_cons_succ, i64_w, i32_w]
          rfl
        refine take_ (i := 19) (N := some 45) (v := ?_) (a' := ?_) #[true, true, true, true, true, true, true, true, true, true, true, true, true, true, true, true, true, true, true, true, false, false, false, false, false] rfl rfl (by kernel_rfl) (fun _ _ _ h => h) (Or.inl ⟨by rfl, ?_⟩) hHeld ?_ ?_
        rotate_left
        · rintro w' ⟨s0, s1, s2, s3, s4, s5⟩
          go_simp
          with_reducible rfl
        rotate_left
        · simp only [Act.put, List.setIfInBounds_toArray, List.set_cons_zero, List.set_cons_succ, i64_w, i32_w]
          rfl
        refine take_ (i := 20) (N := some 46) (v := ?_) (a' := ?_) #[true, true, true, true, true, true, true, true, true, true, true, true, true, true, true, true, true, true, true, true, true, false, false, false, false] rfl rfl (by kernel_rfl) (fun _ _ _ h => h) (Or.inl ⟨by rfl, ?_⟩) hHeld ?_ ?_
        rotate_left
        · rintro w' ⟨s0, s1, s2, s3, s4, s5⟩
          go_simp
          with_reducible rfl
        rotate_left
        · simp only [Act.put, List.setIfInBounds_toArray, List.set_cons_zero, List.set_cons_succ, i64_w, i32_w]
          rfl
        refine one_ (i := 21) (N := some 47) #[true, true, true, true, true, true, true, true, true, true, true, true, true, true, true, true, true, true, true, true, true, true, false, false, false] rfl rfl (by kernel_rfl) (by decide) (fun K hK => ?_)
        refine goes_ Try.func42 (by kernel_rfl) rfl #[.agg #[.int .i64 (rd1 l0).1, .slice A2 (rd2 l0).1.length c2, .int .i64 (rd3 l0).1, .bool ((rd4 l0).1 == 1)]] (by rfl) rfl rfl (by (try simp only [List.map_toArray, List.map_cons, List.map_nil]); first | done | rfl) ?_
        refine (GM.out _ (Kd.R_reads' O7.out).2.2 (Kd.R_reads' O7.out).2.1).mono ?_
        rintro e w9 ⟨rfl, hd⟩
        refine ⟨_, rfl, ?_⟩
        have n1_ := Aside0.mk (R7.out.below hd)
        have n2_ := Aside0.mk (Kd.R_below O7.out (R7.out.low hd))
        clear R7 O7 hHeld
        have R7 := n1_
        have O7 := n2_
        clear n1_ n2_ hd
        refine hK.out _ _ R7.out.held (fun hHeld => ?_)
        clear hK K
        refine norm_ (a' := ?_) ?_ ?_
        rotate_left
        · show Act.put _ (some 47) _ = _
          simp only [Act.put, List.setIfInBounds_toArray, List.set_cons_zero, List.set_cons_succ, i64_w, i32_w]
          rfl
        refine pure_ (i := 22) (N := some 48) (v := ?_) (a' := ?_) #[true, true, true, true, true, true, true, true, true, true, true, true, true, true, true, true, true, true, true, true, true, true, true, false, false] rfl rfl (by kernel_rfl) (fun _ _ _ h => h) (Or.inl ⟨by rfl, ?_⟩) ?_ ?_
        rotate_left
        · intro w'
          go_simp
          with_reducible rfl
        rotate_left
        · simp only [Act.put, List.setIfInBounds_toArray, List.set_cons_zero, List.set_cons_succ, i64_w, i32_w]
          rfl
        refine last_ (i := 23) (N := none) #[true, true, true, true, true, true, true, true, true, true, true, true, true, true, true, true, true, true, true, true, true, true, true, true, false] rfl rfl (by kernel_rfl) (by decide) (fun K hK => ?_)
        clear hHeld
        obtain ⟨⟨k0, k1, k2, k3⟩, j0, j1, j2, j3⟩ := R7.out.facts
        refine skip_ (w1 := ?_) (by rfl) rfl ?_ ?_
        rotate_left
        · go_simp
          rfl
        refine hK.out _ _ ?_
        clear hK K
        have R8 := Aside0.mk ((((R7.out.set 0 (.int .i64 (rd1 l0).1)).set 1 (.slice A2 (rd2 l0).1.length c2)).set 2 (.int .i64 (rd3 l0).1)).set 3 (.bool ((rd4 l0).1 == 1)))
        change Aside0 (Rk w A0 l0.length c0 #[.int .i64 (rd1 l0).1, .slice A2 (rd2 l0).1.length c2, .int .i64 (rd3 l0).1, .bool ((rd4 l0).1 == 1)] (rd4 l0).2.1 (rd4 l0).2.2 _) at R8
        have O8 := Aside0.mk (Kd.R_far (Kd.R_far (Kd.R_far (Kd.R_far O7.out (p := ⟨w.heap.size, 0, none⟩) (fun k hk => hk.1) (.int .i64 (rd1 l0).1)) (p := ⟨w.heap.size, 1, none⟩) (fun k hk => hk.1) (.slice A2 (rd2 l0).1.length c2)) (p := ⟨w.heap.size, 2, none⟩) (fun k hk => hk.1) (.int .i64 (rd3 l0).1)) (p := ⟨w.heap.size, 3, none⟩) (fun k hk => hk.1) (.bool ((rd4 l0).1 == 1)))
        clear R7 O7 k0 k1 k2 k3 j0 j1 j2 j3
        generalize (((w9.setCell ⟨w.heap.size, 0, none⟩ (.int .i64 (rd1 l0).1)).setCell ⟨w.heap.size, 1, none⟩ (.slice A2 (rd2 l0).1.length c2)).setCell ⟨w.heap.size, 2, none⟩ (.int .i64 (rd3 l0).1)).setCell ⟨w.heap.size, 3, none⟩ (.bool ((rd4 l0).1 == 1)) = wz at R8 O8 ⊢
        refine pure_ (i := 24) (N := some 3) (v := ?_) (a' := ?_) #[true, true, true, true, true, true, true, true, true, true, true, true, true, true, true, true, true, true, true, true, true, true, true, true, true] rfl rfl (by kernel_rfl) (fun _ _ _ h => h) (Or.inl ⟨by rfl, ?_⟩) ?_ ?_
        rotate_left
        · intro w'
          go_simp
          with_reducible rfl
        rotate_left
        · simp only [Act.put, List.setIfInBounds_toArray, List.set_cons_zero, List.set_cons_succ, i64_w, i32_w]
          rfl
        refine done_ (by kernel_rfl) ?_
        try go_wp2
        refine bodyPost_ret (v := .tuple #[.agg #[.int .i64 (rd1 l0).1, .slice A2 (rd2 l0).1.length c2, .int .i64 (rd3 l0).1, .bool ((rd4 l0).1 == 1)], .bool (rdOk l0)]) ?_ rfl ⟨_, rfl, Kd.R_mono O8.out (fun _ _ => trivial), R8.out.hb⟩
        obtain ⟨⟨k0, k1, k2, k3⟩, j0, j1, j2, j3⟩ := R8.out.facts
        have hq := (rdOk_may d1 d2 d3)
        first | rw [← hq] | skip
        simp [results, Try.results52, go_sem, k0, k1, k2, k3]
      · replace d3 := (within_eq _).trans (congrArg some (Bool.eq_false_iff.mpr d3))
        refine start_ (n := 25) (S := fun w' => w'.cell? ⟨w.heap.size, 0, none⟩ = some (.int .i64 (rd1 l0).1) ∧ w'.cell? ⟨w.heap.size, 1, none⟩ = some (.slice A2 (rd2 l0).1.length c2) ∧ w'.cell? ⟨w.heap.size, 2, none⟩ = some (.int .i64 (rd3 l0).1) ∧ w'.cell? ⟨w.heap.size, 3, none⟩ = some (.bool ((rd4 l0).1 == 1)) ∧ w'.cell? ⟨w.heap.size + 1, 1, none⟩ = some (.int .i64 (rd4 l0).2.1) ∧ w'.cell? ⟨w.heap.size + 1, 2, none⟩ = some (.int .i64 (rd4 l0).2.2)) (ds := [23]) #[false, false, false, false, false, false, false, false, false, false, false, false, false, false, false, false, false, false, false, false, false, false, false, false, false] (by kernel_rfl) rfl rfl (R6.out.below (below_drew (Below.refl _ _))).held (fun hHeld => ?_)
        have R7 := Aside0.mk (R6.out.below (below_drew (Below.refl _ _)))
        have O7 := Aside0.mk (Kd.R_drew O6.out)
        clear R6 O6
        generalize W6.drew = w7 at R7 O7 hHeld ⊢
        refine take_ (i := 0) (N := some 26) (v := ?_) (a' := ?_) #[true, false, false, false, false, false, false, false, false, false, false, false, false, false, false, false, false, false, false, false, false, false, false, false, false] rfl rfl (by kernel_rfl) (fun _ _ _ h => h) (Or.inl ⟨by rfl, ?_⟩) hHeld ?_ ?_
        rotate_left
        · rintro w' ⟨s0, s1, s2, s3, s4, s5⟩
          go_simp
          with_reducible rfl
        rotate_left
        · simp only [Act.put, List.setIfInBounds_toArray, List.set_cons_zero, List.set_cons_succ, i64_w, i32_w]
          rfl
        refine take_ (i := 1) (N := some 27) (v := ?_) (a' := ?_) #[true, true, false, false, false, false, false, false, false, false, false, false, false, false, false, false, false, false, false, false, false, false, false, false, false] rfl rfl (by kernel_rfl) (fun _ _ _ h => h) (Or.inl ⟨by rfl, ?_⟩) hHeld ?_ ?_
        rotate_left
        · rintro w' ⟨s0, s1, s2, s3, s4, s5⟩
          go_simp
          with_reducible rfl
        rotate_left
        · simp only [Act.put, List.setIfInBounds_toArray, List.set_cons_zero, List.set_cons_succ, i64_w, i32_w]
          rfl
        refine take_ (i := 2) (N := some 28) (v := ?_) (a' := ?_) #[true, true, true, false, false, false, false, false, false, false, false, false, false, false, false, false, false, false, false, false, false, false, false, false, false] rfl rfl (by kernel_rfl) (fun _ _ _ h => h) (Or.inl ⟨by rfl, ?_⟩) hHeld ?_ ?_
        rotate_left
        · rintro w' ⟨s0, s1, s2, s3, s4, s5⟩
          go_simp
          with_reducible rfl
        rotate_left
        · simp only [Act.put, List.setIfInBounds_toArray, List.set_cons_zero, List.set_cons_succ, i64_w, i32_w]
          rfl
        refine take_ (i := 3) (N := some 29) (v := ?_) (a' := ?_) #[true, true, true, true, false, false, false, false, false, false, false, false, false, false, false, false, false, false, false, false, false, false, false, false, false] rfl rfl (by kernel_rfl) (fun _ _ _ h => h) (Or.inl ⟨by rfl, ?_⟩) hHeld ?_ ?_
        rotate_left
        · rintro w' ⟨s0, s1, s2, s3, s4, s5⟩
          go_simp
          with_reducible rfl
        rotate_left
        · simp only [Act.put, List.setIfInBounds_toArray, List.set_cons_zero, List.set_cons_succ, i64_w, i32_w]
          rfl
        refine take_ (i := 4) (N := some 30) (v := ?_) (a' := ?_) #[true, true, true, true, true, false, false, false, false, false, false, false, false, false, false, false, false, false, false, false, false, false, false, false, false] rfl rfl (by kernel_rfl) (fun _ _ _ h => h) (Or.inl ⟨by rfl, ?_⟩) hHeld ?_ ?_
        rotate_left
        · rintro w' ⟨s0, s1, s2, s3, s4, s5⟩
          go_simp
          with_reducible rfl
        rotate_left
        · simp only [Act.put, List.setIfInBounds_toArray, List.set_cons_zero, List.set_cons_succ, i64_w, i32_w]
          rfl
        refine take_ (i := 5) (N := some 31) (v := ?_) (a' := ?_) #[true, true, true, true, true, true, false, false, false, false, false, false, false, false, false, false, false, false, false, false, false, false, false, false, false] rfl rfl (by kernel_rfl) (fun _ _ _ h => h) (Or.inl ⟨by rfl, ?_⟩) hHeld ?_ ?_
        rotate_left
        · rintro w' ⟨s0, s1, s2, s3, s4, s5⟩
          go_simp
          with_reducible rfl
        rotate_left
        · simp only [Act.put, List.setIfInBounds_toArray, List.set_cons_zero, List.set_cons_succ, i64_w, i32_w]
          rfl
        refine take_ (i := 6) (N := some 32) (v := ?_) (a' := ?_) #[true, true, true, true, true, true, true, false, false, false, false, false, false, false, false, false, false, false, false, false, false, false, false, false, false] rfl rfl (by kernel_rfl) (fun _ _ _ h => h) (Or.inl ⟨by rfl, ?_⟩) hHeld ?_ ?_
        rotate_left
        · rintro w' ⟨s0, s1, s2, s3, s4, s5⟩
          go_simp
          with_reducible rfl
        rotate_left
        · simp only [Act.put, List.setIfInBounds_toArray, List.set_cons_zero, List.set_cons_succ, i64_w, i32_w]
          rfl
        refine take_ (i := 7) (N := some 33) (v := ?_) (a' := ?_) #[true, true, true, true, true, true, true, true, false, false, false, false, false, false, false, false, false, false, false, false, false, false, false, false, false] rfl rfl (by kernel_rfl) (fun _ _ _ h => h) (Or.inl ⟨by rfl, ?_⟩) hHeld ?_ ?_
        rotate_left
        · rintro w' ⟨s0, s1, s2, s3, s4, s5⟩
          go_simp
          with_reducible rfl
        rotate_left
        · simp only [Act.put, List.setIfInBounds_toArray, List.set_cons_zero, List.set_cons_succ, i64_w, i32_w]
          rfl
        refine take_ (i := 8) (N := some 34) (v := ?_) (a' := ?_) #[true, true, true, true, true, true, true, true, true, false, false, false, false, false, false, false, false, false, false, false, false, false, false, false, false] rfl rfl (by kernel_rfl) (fun _ _ _ h => h) (Or.inl ⟨by rfl, ?_⟩) hHeld ?_ ?_
        rotate_left
        · rintro w' ⟨s0, s1, s2, s3, s4, s5⟩
          go_simp
          with_reducible rfl
        rotate_left
        · simp only [Act.put, List.setIfInBounds_toArray, List.set_cons_zero, List.set_cons_succ, i64_w, i32_w]
          rfl
        refine take_ (i := 9) (N := some 35) (v := ?_) (a' := ?_) #[true, true, true, true, true, true, true, true, true, true, false, false, false, false, false, false, false, false, false, false, false, false, false, false, false] rfl rfl (by kernel_rfl) (fun _ _ _ h => h) (Or.inl ⟨by rfl, ?_⟩) hHeld ?_ ?_
        rotate_left
        · rintro w' ⟨s0, s1, s2, s3, s4, s5⟩
          go_simp
          with_reducible rfl
        rotate_left
        · simp only [Act.put, List.setIfInBounds_toArray, List.set_cons_zero, List.set_cons_succ, i64_w, i32_w]
          rfl
        refine take_ (i := 10) (N := some 36) (v := ?_) (a' := ?_) #[true, true, true, true, true, true, true, true, true, true, true, false, false, false, false, false, false, false, false, false, false, false, false, false, false] rfl rfl (by kernel_rfl) (fun _ _ _ h => h) (Or.inl ⟨by rfl, ?_⟩) hHeld ?_ ?_
        rotate_left
        · rintro w' ⟨s0, s1, s2, s3, s4, s5⟩
          go_simp
          with_reducible rfl
        rotate_left
        · simp only [Act.put, List.setIfInBounds_toArray, List.set_cons_zero, List.set_cons_succ, i64_w, i32_w]
          rfl
        refine take_ (i := 11) (N := some 37) (v := ?_) (a' := ?_) #[true, true, true, true, true, true, true, true, true, true, true, true, false, false, false, false, false, false, false, false, false, false, false, false, false] rfl rfl (by kernel_rfl) (fun _ _ _ h => h) (Or.inl ⟨by rfl, ?_⟩) hHeld ?_ ?_
        rotate_left
        · rintro w' ⟨s0, s1, s2, s3, s4, s5⟩
          go_simp
          with_reducible rfl
        rotate_left
        · simp only [Act.put, List.setIfInBounds_toArray, List.set_cons_zero, List.set_cons_succ, i64_w, i32_w]
          rfl
        refine take_ (i := 12) (N := some 38) (v := ?_) (a' := ?_) #[true, true, true, true, true, true, true, true, true, true, true, true, true, false, false, false, false, false, false, false, false, false, false, false, false] rfl rfl (by kernel_rfl) (fun _ _ _ h => h) (Or.inl ⟨by rfl, ?_⟩) hHeld ?_ ?_
        rotate_left
        · rintro w' ⟨s0, s1, s2, s3, s4, s5⟩
          go_simp
          with_reducible rfl
        rotate_left
        · simp only [Act.put, List.setIfInBounds_toArray, List.set_cons_zero, List.set_cons_succ, i64_w, i32_w]
          rfl
        refine take_ (i := 13) (N := some 39) (v := ?_) (a' := ?_) #[true, true, true, true, true, true, true, true, true, true, true, true, true, true, false, false, false, false, false, false, false, false, false, false, false] rfl rfl (by kernel_rfl) (fun _ _ _ h => h) (Or.inl ⟨by rfl, ?_⟩) hHeld ?_ ?_
        rotate_left
        · rintro w' ⟨s0, s1, s2, s3, s4, s5⟩
          go_simp
          with_reducible rfl
        rotate_left
        · simp only [Act.put, List.setIfInBounds_toArray, List.set_cons_zero, List.set_cons_succ, i64_w, i32_w]
          rfl
        refine take_ (i := 14) (N := some 40) (v := ?_) (a' := ?_) #[true, true, true, true, true, true, true, true, true, true, true, true, true, true, true, false, false, false, false, false, false, false, false, false, false] rfl rfl (by kernel_rfl) (fun _ _ _ h => h) (Or.inl ⟨by rfl, ?_⟩) hHeld ?_ ?_
        rotate_left
        · rintro w' ⟨s0, s1, s2, s3, s4, s5⟩
          go_simp
          with_reducible rfl
        rotate_left
        · simp only [Act.put, List.setIfInBounds_toArray, List.set_cons_zero, List.set_cons_succ, i64_w, i32_w]
          rfl
        refine take_ (i := 15) (N := some 41) (v := ?_) (a' := ?_) #[true, true, true, true, true, true, true, true, true, true, true, true, true, true, true, true, false, false, false, false, false, false, false, false, false] rfl rfl (by kernel_rfl) (fun _ _ _ h => h) (Or.inl ⟨by rfl, ?_⟩) hHeld ?_ ?_
        rotate_left
        · rintro w' ⟨s0, s1, s2, s3, s4, s5⟩
          go_simp
          with_reducible rfl
        rotate_left
        · simp only [Act.put, List.setIfInBounds_toArray, List.set_cons_zero, List.set_cons_succ, i64_w, i32_w]
          rfl
        refine take_ (i := 16) (N := some 42) (v := ?_) (a' := ?_) #[true, true, true, true, true, true, true, true, true, true, true, true, true, true, true, true, true, false, false, false, false, false, false, false, false] rfl rfl (by kernel_rfl) (fun _ _ _ h => h) (Or.inl ⟨by rfl, ?_⟩) hHeld ?_ ?_
        rotate_left
        · rintro w' ⟨s0, s1, s2, s3, s4, s5⟩
          go_simp
          with_reducible rfl
        rotate_left
        · simp only [Act.put, List.setIfInBounds_toArray, List.set_cons_zero, List.set_cons_succ, i64_w, i32_w]
          rfl
        refine one_ (i := 17) (N := some 43) #[true, true, true, true, true, true, true, true, true, true, true, true, true, true, true, true, true, true, false, false, false, false, false, false, false] rfl rfl (by kernel_rfl) (by decide) (fun K hK => ?_)
        refine goes_ Try.func56 (by kernel_rfl) rfl #[.int .i64 (rd4 l0).1, .int .i64 0, .int .i64 1] (by rfl) rfl rfl (by (try simp only [List.map_toArray, List.map_cons, List.map_nil]); first | done | rfl) ?_
        refine (GI.out _ w7 d3).mono ?_
        rintro e w8 ⟨rfl, hd⟩
        refine ⟨_, rfl, ?_⟩
        have n1_ := Aside0.mk (R7.out.below hd.below)
        have n2_ := Aside0.mk (Kd.R_below O7.out (R7.out.low hd.below))
        clear R7 O7 hHeld
        have R7 := n1_
        have O7 := n2_
        clear n1_ n2_ hd
        refine hK.out _ _ R7.out.held (fun hHeld => ?_)
        clear hK K
        refine norm_ (a' := ?_) ?_ ?_
        rotate_left
        · show Act.put _ (some 43) _ = _
          simp only [Act.put, List.setIfInBounds_toArray, List.set_cons_zero, List.set_cons_succ, i64_w, i32_w]
          rfl
        refine take_ (i := 18) (N := some 44) (v := ?_) (a' := ?_) #[true, true, true, true, true, true, true, true, true, true, true, true, true, true, true, true, true, true, true, false, false, false, false, false, false] rfl rfl (by kernel_rfl) (fun _ _ _ h => h) (Or.inl ⟨by rfl, ?_⟩) hHeld ?_ ?_
        rotate_left
        · rintro w' ⟨s0, s1, s2, s3, s4, s5⟩
          go_simp
          with_reducible rfl
        rotate_left
        · simp only [Act.put, List.setIfInBounds_toArray, List.set_cons_zero, List.set_cons_succ, i64_w, i32_w]
          rfl
        refine take_ (i := 19) (N := some 45) (v := ?_) (a' := ?_) #[true, true, true, true, true, true, true, true, true, true, true, true, true, true, true, true, true, true, true, true, false, false, false, false, false] rfl rfl (by kernel_rfl) (fun _ _ _ h => h) (Or.inl ⟨by rfl, ?_⟩) hHeld ?_ ?_
        rotate_left
        · rintro w' ⟨s0, s1, s2, s3, s4, s5⟩
          go_simp
          with_reducible rfl
        rotate_left
        · simp only [Act.put, List.setIfInBounds_toArray, List.set_cons_zero, List.set_cons_succ, i64_w, i32_w]
          rfl
        refine take_ (i := 20) (N := some 46) (v := undef) (a' := ?_) #[true, true, true, true, true, true, true, true, true, true, true, true, true, true, true, true, true, true, true, true, true, false, false, false, false] rfl rfl (by kernel_rfl) (fun _ _ _ h => h) (Or.inr ⟨by rfl, rfl⟩) hHeld ?_ ?_
        rotate_left
        · simp only [Act.put, List.setIfInBounds_toArray, List.set_cons_zero, List.set_cons_succ, i64_w, i32_w]
          rfl
        refine one_ (i := 21) (N := some 47) #[true, true, true, true, true, true, true, true, true, true, true, true, true, true, true, true, true, true, true, true, true, true, false, false, false] rfl rfl (by kernel_rfl) (by decide) (fun K hK => ?_)
        refine off_ (by rfl) ?_
        refine hK.out _ _ hHeld (fun hHeld => ?_)
        clear hK K
        refine norm_ (a' := ?_) ?_ ?_
        rotate_left
        · show Act.put _ (some 47) _ = _
          simp only [Act.put, List.setIfInBounds_toArray, List.set_cons_zero, List.set_cons_succ, i64_w, i32_w]
          rfl
        refine pure_ (i := 22) (N := some 48) (v := ?_) (a' := ?_) #[true, true, true, true, true, true, true, true, true, true, true, true, true, true, true, true, true, true, true, true, true, true, true, false, false] rfl rfl (by kernel_rfl) (fun _ _ _ h => h) (Or.inl ⟨by rfl, ?_⟩) ?_ ?_
        rotate_left
        · intro w'
          go_simp
          with_reducible rfl
        rotate_left
        · simp only [Act.put, List.setIfInBounds_toArray, List.set_cons_zero, List.set_cons_succ, i64_w, i32_w]
          rfl
        refine last_ (i := 23) (N := none) #[true, true, true, true, true, true, true, true, true, true, true, true, true, true, true, true, true, true, true, true, true, true, true, true, false] rfl rfl (by kernel_rfl) (by decide) (fun K hK => ?_)
        clear hHeld
        obtain ⟨⟨k0, k1, k2, k3⟩, j0, j1, j2, j3⟩ := R7.out.facts
        refine skip_ (w1 := ?_) (by rfl) rfl ?_ ?_
        rotate_left
        · go_simp
          rfl
        refine hK.out _ _ ?_
        clear hK K
        have R8 := Aside0.mk ((((R7.out.set 0 (.int .i64 (rd1 l0).1)).set 1 (.slice A2 (rd2 l0).1.length c2)).set 2 (.int .i64 (rd3 l0).1)).set 3 (.bool ((rd4 l0).1 == 1)))
        change Aside0 (Rk w A0 l0.length c0 #[.int .i64 (rd1 l0).1, .slice A2 (rd2 l0).1.length c2, .int .i64 (rd3 l0).1, .bool ((rd4 l0).1 == 1)] (rd4 l0).2.1 (rd4 l0).2.2 _) at R8
        have O8 := Aside0.mk (Kd.R_far (Kd.R_far (Kd.R_far (Kd.R_far O7.out (p := ⟨w.heap.size, 0, none⟩) (fun k hk => hk.1) (.int .i64 (rd1 l0).1)) (p := ⟨w.heap.size, 1, none⟩) (fun k hk => hk.1) (.slice A2 (rd2 l0).1.length c2)) (p := ⟨w.heap.size, 2, none⟩) (fun k hk => hk.1) (.int .i64 (rd3 l0).1)) (p := ⟨w.heap.size, 3, none⟩) (fun k hk => hk.1) (.bool ((rd4 l0).1 == 1)))
        clear R7 O7 k0 k1 k2 k3 j0 j1 j2 j3
        generalize (((w8.setCell ⟨w.heap.size, 0, none⟩ (.int .i64 (rd1 l0).1)).setCell ⟨w.heap.size, 1, none⟩ (.slice A2 (rd2 l0).1.length c2)).setCell ⟨w.heap.size, 2, none⟩ (.int .i64 (rd3 l0).1)).setCell ⟨w.heap.size, 3, none⟩ (.bool ((rd4 l0).1 == 1)) = wz at R8 O8 ⊢
        refine pure_ (i := 24) (N := some 3) (v := ?_) (a' := ?_) #[true, true, true, true, true, true, true, true, true, true, true, true, true, true, true, true, true, true, true, true, true, true, true, true, true] rfl rfl (by kernel_rfl) (fun _ _ _ h => h) (Or.inl ⟨by rfl, ?_⟩) ?_ ?_
        rotate_left
        · intro w'
          go_simp
          with_reducible rfl
        rotate_left
        · simp only [Act.put, List.setIfInBounds_toArray, List.set_cons_zero, List.set_cons_succ, i64_w, i32_w]
          rfl
        refine done_ (by kernel_rfl) ?_
        try go_wp2
        refine bodyPost_ret (v := .tuple #[.agg #[.int .i64 (rd1 l0).1, .slice A2 (rd2 l0).1.length c2, .int .i64 (rd3 l0).1, .bool ((rd4 l0).1 == 1)], .bool (rdOk l0)]) ?_ rfl ⟨_, rfl, Kd.R_mono O8.out (fun _ _ => trivial), R8.out.hb⟩
        obtain ⟨⟨k0, k1, k2, k3⟩, j0, j1, j2, j3⟩ := R8.out.facts
        have hq := (rdOk_no3 d3)
        first | rw [← hq] | skip
        simp [results, Try.results52, go_sem, k0, k1, k2, k3]
    · have d2b : ((rd4 l0).2.1 == (l0.length : Int)) = false := beq_eq_false_iff_ne.mpr d2
      refine start_ (n := 25) (S := fun w' => w'.cell? ⟨w.heap.size, 0, none⟩ = some (.int .i64 (rd1 l0).1) ∧ w'.cell? ⟨w.heap.size, 1, none⟩ = some (.slice A2 (rd2 l0).1.length c2) ∧ w'.cell? ⟨w.heap.size, 2, none⟩ = some (.int .i64 (rd3 l0).1) ∧ w'.cell? ⟨w.heap.size, 3, none⟩ = some (.bool ((rd4 l0).1 == 1)) ∧ w'.cell? ⟨w.heap.size + 1, 1, none⟩ = some (.int .i64 (rd4 l0).2.1) ∧ w'.cell? ⟨w.heap.size + 1, 2, none⟩ = some (.int .i64 (rd4 l0).2.2)) (ds := [23]) #[false, false, false, false, false, false, false, false, false, false, false, false, false, false, false, false, false, false, false, false, false, false, false, false, false] (by kernel_rfl) rfl rfl (R6.out.below (below_drew (Below.refl _ _))).held (fun hHeld => ?_)
      have R7 := Aside0.mk (R6.out.below (below_drew (Below.refl _ _)))
      have O7 := Aside0.mk (Kd.R_drew O6.out)
      clear R6 O6
      generalize W6.drew = w7 at R7 O7 hHeld ⊢
      refine take_ (i := 0) (N := some 26) (v := ?_) (a' := ?_) #[true, false, false, false, false, false, false, false, false, false, false, false, false, false, false, false, false, false, false, false, false, false, false, false, false] rfl rfl (by kernel_rfl) (fun _ _ _ h => h) (Or.inl ⟨by rfl, ?_⟩) hHeld ?_ ?_
      rotate_left
      · rintro w' ⟨s0, s1, s2, s3, s4, s5⟩
        go_simp
        with_reducible rfl
      rotate_left
      · simp only [Act.put, List.setIfInBounds_toArray, List.set_cons_zero, List.set_cons_succ, i64_w, i32_w]
        rfl
      refine take_ (i := 1) (N := some 27) (v := ?_) (a' := ?_) #[true, true, false, false, false, false, false, false, false, false, false, false, false, false, false, false, false, false, false, false, false, false, false, false, false] rfl rfl (by kernel_rfl) (fun _ _ _ h => h) (Or.inl ⟨by rfl, ?_⟩) hHeld ?_ ?_
      rotate_left
      · rintro w' ⟨s0, s1, s2, s3, s4, s5⟩
        go_simp
        with_reducible rfl
      rotate_left
      · simp only [Act.put, List.setIfInBounds_toArray, List.set_cons_zero, List.set_cons_succ, i64_w, i32_w]
        rfl
      refine take_ (i := 2) (N := some 28) (v := ?_) (a' := ?_) #[true, true, true, false, false, false, false, false, false, false, false, false, false, false, false, false, false, false, false, false, false, false, false, false, false] rfl rfl (by kernel_rfl) (fun _ _ _ h => h) (Or.inl ⟨by rfl, ?_⟩) hHeld ?_ ?_
      rotate_left
      · rintro w' ⟨s0, s1, s2, s3, s4, s5⟩
        go_simp
        with_reducible rfl
      rotate_left
      · simp only [Act.put, List.setIfInBounds_toArray, List.set_cons_zero, List.set_cons_succ, i64_w, i32_w]
        rfl
      refine take_ (i := 3) (N := some 29) (v := ?_) (a' := ?_) #[true, true, true, true, false, false, false, false, false, false, false, false, false, false, false, false, false, false, false, false, false, false, false, false, false] rfl rfl (by kernel_rfl) (fun _ _ _ h => h) (Or.inl ⟨by rfl, ?_⟩) hHeld ?_ ?_
      rotate_left
      · rintro w' ⟨s0, s1, s2, s3, s4, s5⟩
        go_simp
        with_reducible rfl
      rotate_left
      · simp only [Act.put, List.setIfInBounds_toArray, List.set_cons_zero, List.set_cons_succ, i64_w, i32_w]
        rfl
      refine take_ (i := 4) (N := some 30) (v := ?_) (a' := ?_) #[true, true, true, true, true, false, false, false, false, false, false, false, false, false, false, false, false, false, false, false, false, false, false, false, false] rfl rfl (by kernel_rfl) (fun _ _ _ h => h) (Or.inl ⟨by rfl, ?_⟩) hHeld ?_ ?_
      rotate_left
      · rintro w' ⟨s0, s1, s2, s3, s4, s5⟩
        go_simp
        with_reducible rfl
      rotate_left
      · simp only [Act.put, List.setIfInBounds_toArray, List.set_cons_zero, List.set_cons_succ, i64_w, i32_w]
        rfl
      refine take_ (i := 5) (N := some 31) (v := ?_) (a' := ?_) #[true, true, true, true, true, true, false, false, false, false, false, false, false, false, false, false, false, false, false, false, false, false, false, false, false] rfl rfl (by kernel_rfl) (fun _ _ _ h => h) (Or.inl ⟨by rfl, ?_⟩) hHeld ?_ ?_
      rotate_left
      · rintro w' ⟨s0, s1, s2, s3, s4, s5⟩
        go_simp
        with_reducible rfl
      rotate_left
      · simp only [Act.put, List.setIfInBounds_toArray, List.set_cons_zero, List.set_cons_succ, i64_w, i32_w]
        rfl
      refine take_ (i := 6) (N := some 32) (v := ?_) (a' := ?_) #[true, true, true, true, true, true, true, false, false, false, false, false, false, false, false, false, false, false, false, false, false, false, false, false, false] rfl rfl (by kernel_rfl) (fun _ _ _ h => h) (Or.inl ⟨by rfl, ?_⟩) hHeld ?_ ?_
      rotate_left
      · rintro w' ⟨s0, s1, s2, s3, s4, s5⟩
        go_simp
        with_reducible rfl
      rotate_left
      · simp only [Act.put, List.setIfInBounds_toArray, List.set_cons_zero, List.set_cons_succ, i64_w, i32_w]
        rfl
      refine take_ (i := 7) (N := some 33) (v := ?_) (a' := ?_) #[true, true, true, true, true, true, true, true, false, false, false, false, false, false, false, false, false, false, false, false, false, false, false, false, false] rfl rfl (by kernel_rfl) (fun _ _ _ h => h) (Or.inl ⟨by rfl, ?_⟩) hHeld ?_ ?_
      rotate_left
      · rintro w' ⟨s0, s1, s2, s3, s4, s5⟩
        go_simp
        with_reducible rfl
      rotate_left
      · simp only [Act.put, List.setIfInBounds_toArray, List.set_cons_zero, List.set_cons_succ, i64_w, i32_w]
        rfl
      refine take_ (i := 8) (N := some 34) (v := ?_) (a' := ?_) #[true, true, true, true, true, true, true, true, true, false, false, false, false, false, false, false, false, false, false, false, false, false, false, false, false] rfl rfl (by kernel_rfl) (fun _ _ _ h => h) (Or.inl ⟨by rfl, ?_⟩) hHeld ?_ ?_
      rotate_left
      · rintro w' ⟨s0, s1, s2, s3, s4, s5⟩
        go_simp
        with_reducible rfl
      rotate_left
      · simp only [Act.put, List.setIfInBounds_toArray, List.set_cons_zero, List.set_cons_succ, i64_w, i32_w]
        rfl
      refine take_ (i := 9) (N := some 35) (v := ?_) (a' := ?_) #[true, true, true, true, true, true, true, true, true, true, false, false, false, false, false, false, false, false, false, false, false, false, false, false, false] rfl rfl (by kernel_rfl) (fun _ _ _ h => h) (Or.inl ⟨by rfl, ?_⟩) hHeld ?_ ?_
      rotate_left
      · rintro w' ⟨s0, s1, s2, s3, s4, s5⟩
        go_simp
        with_reducible rfl
      rotate_left
      · simp only [Act.put, List.setIfInBounds_toArray, List.set_cons_zero, List.set_cons_succ, i64_w, i32_w]
        rfl
      refine take_ (i := 10) (N := some 36) (v := ?_) (a' := ?_) #[true, true, true, true, true, true, true, true, true, true, true, false, false, false, false, false, false, false, false, false, false, false, false, false, false] rfl rfl (by kernel_rfl) (fun _ _ _ h => h) (Or.inl ⟨by rfl, ?_⟩) hHeld ?_ ?_
      rotate_left
      · rintro w' ⟨s0, s1, s2, s3, s4, s5⟩
        go_simp
        with_reducible rfl
      rotate_left
      · simp only [Act.put, List.setIfInBounds_toArray, List.set_cons_zero, List.set_cons_succ, i64_w, i32_w]
        rfl
      refine take_ (i := 11) (N := some 37) (v := ?_) (a' := ?_) #[true, true, true, true, true, true, true, true, true, true, true, true, false, false, false, false, false, false, false, false, false, false, false, false, false] rfl rfl (by kernel_rfl) (fun _ _ _ h => h) (Or.inl ⟨by rfl, ?_⟩) hHeld ?_ ?_
      rotate_left
      · rintro w' ⟨s0, s1, s2, s3, s4, s5⟩
        go_simp
        with_reducible rfl
      rotate_left
      · simp only [Act.put, List.setIfInBounds_toArray, List.set_cons_zero, List.set_cons_succ, i64_w, i32_w]
        rfl
      refine take_ (i := 12) (N := some 38) (v := ?_) (a' := ?_) #[true, true, true, true, true, true, true, true, true, true, true, true, true, false, false, false, false, false, false, false, false, false, false, false, false] rfl rfl (by kernel_rfl) (fun _ _ _ h => h) (Or.inl ⟨by rfl, ?_⟩) hHeld ?_ ?_
      rotate_left
      · rintro w' ⟨s0, s1, s2, s3, s4, s5⟩
        go_simp
        with_reducible rfl
      rotate_left
      · simp only [Act.put, List.setIfInBounds_toArray, List.set_cons_zero, List.set_cons_succ, i64_w, i32_w]
        rfl
      refine take_ (i := 13) (N := some 39) (v := ?_) (a' := ?_) #[true, true, true, true, true, true, true, true, true, true, true, true, true, true, false, false, false, false, false, false, false, false, false, false, false] rfl rfl (by kernel_rfl) (fun _ _ _ h => h) (Or.inl ⟨by rfl, ?_⟩) hHeld ?_ ?_
      rotate_left
      · rintro w' ⟨s0, s1, s2, s3, s4, s5⟩
        go_simp
        with_reducible rfl
      rotate_left
      · simp only [Act.put, List.setIfInBounds_toArray, List.set_cons_zero, List.set_cons_succ, i64_w, i32_w]
        rfl
      refine take_ (i := 14) (N := some 40) (v := ?_) (a' := ?_) #[true, true, true, true, true, true, true, true, true, true, true, true, true, true, true, false, false, false, false, false, false, false, false, false, false] rfl rfl (by kernel_rfl) (fun _ _ _ h => h) (Or.inl ⟨by rfl, ?_⟩) hHeld ?_ ?_
      rotate_left
      · rintro w' ⟨s0, s1, s2, s3, s4, s5⟩
        go_simp
        with_reducible rfl
      rotate_left
      · simp only [Act.put, List.setIfInBounds_toArray, List.set_cons_zero, List.set_cons_succ, i64_w, i32_w]
        rfl
      refine take_ (i := 15) (N := some 41) (v := ?_) (a' := ?_) #[true, true, true, true, true, true, true, true, true, true, true, true, true, true, true, true, false, false, false, false, false, false, false, false, false] rfl rfl (by kernel_rfl) (fun _ _ _ h => h) (Or.inl ⟨by rfl, ?_⟩) hHeld ?_ ?_
      rotate_left
      · rintro w' ⟨s0, s1, s2, s3, s4, s5⟩
        go_simp
        with_reducible rfl
      rotate_left
      · simp only [Act.put, List.setIfInBounds_toArray, List.set_cons_zero, List.set_cons_succ, i64_w, i32_w]
        rfl
      refine take_ (i := 16) (N := some 42) (v := undef) (a' := ?_) #[true, true, true, true, true, true, true, true, true, true, true, true, true, true, true, true, true, false, false, false, false, false, false, false, false] rfl rfl (by kernel_rfl) (fun _ _ _ h => h) (Or.inr ⟨by rfl, rfl⟩) hHeld ?_ ?_
      rotate_left
      · simp only [Act.put, List.setIfInBounds_toArray, List.set_cons_zero, List.set_cons_succ, i64_w, i32_w]
        rfl
      refine one_ (i := 17) (N := some 43) #[true, true, true, true, true, true, true, true, true, true, true, true, true, true, true, true, true, true, false, false, false, false, false, false, false] rfl rfl (by kernel_rfl) (by decide) (fun K hK => ?_)
      refine off_ (by rfl) ?_
      refine hK.out _ _ hHeld (fun hHeld => ?_)
      clear hK K
      refine norm_ (a' := ?_) ?_ ?_
      rotate_left
      · show Act.put _ (some 43) _ = _
        simp only [Act.put, List.setIfInBounds_toArray, List.set_cons_zero, List.set_cons_succ, i64_w, i32_w]
        rfl
      refine take_ (i := 18) (N := some 44) (v := ?_) (a' := ?_) #[true, true, true, true, true, true, true, true, true, true, true, true, true, true, true, true, true, true, true, false, false, false, false, false, false] rfl rfl (by kernel_rfl) (fun _ _ _ h => h) (Or.inl ⟨by rfl, ?_⟩) hHeld ?_ ?_
      rotate_left
      · rintro w' ⟨s0, s1, s2, s3, s4, s5⟩
        go_simp
        with_reducible rfl
      rotate_left
      · simp only [Act.put, List.setIfInBounds_toArray, List.set_cons_zero, List.set_cons_succ, i64_w, i32_w]
        rfl
      refine take_ (i := 19) (N := some 45) (v := ?_) (a' := ?_) #[true, true, true, true, true, true, true, true, true, true, true, true, true, true, true, true, true, true, true, true, false, false, false, false, false] rfl rfl (by kernel_rfl) (fun _ _ _ h => h) (Or.inl ⟨by rfl, ?_⟩) hHeld ?_ ?_
      rotate_left
      · rintro w' ⟨s0, s1, s2, s3, s4, s5⟩
        go_simp
        with_reducible rfl
      rotate_left
      · simp only [Act.put, List.setIfInBounds_toArray, List.set_cons_zero, List.set_cons_succ, i64_w, i32_w]
        rfl
      refine take_ (i := 20) (N := some 46) (v := undef) (a' := ?_) #[true, true, true, true, true, true, true, true, true, true, true, true, true, true, true, true, true, true, true, true, true, false, false, false, false] rfl rfl (by kernel_rfl) (fun _ _ _ h => h) (Or.inr ⟨by rfl, rfl⟩) hHeld ?_ ?_
      rotate_left
      · simp only [Act.put, List.setIfInBounds_toArray, List.set_cons_zero, List.set_cons_succ, i64_w, i32_w]
        rfl
      refine one_ (i := 21) (N := some 47) #[true, true, true, true, true, true, true, true, true, true, true, true, true, true, true, true, true, true, true, true, true, true, false, false, false] rfl rfl (by kernel_rfl) (by decide) (fun K hK => ?_)
      refine off_ (by rfl) ?_
      refine hK.out _ _ hHeld (fun hHeld => ?_)
      clear hK K
      refine norm_ (a' := ?_) ?_ ?_
      rotate_left
      · show Act.put _ (some 47) _ = _
        simp only [Act.put, List.setIfInBounds_toArray, List.set_cons_zero, List.set_cons_succ, i64_w, i32_w]
        rfl
      refine pure_ (i := 22) (N := some 48) (v := ?_) (a' := ?_) #[true, true, true, true, true, true, true, true, true, true, true, true, true, true, true, true, true, true, true, true, true, true, true, false, false] rfl rfl (by kernel_rfl) (fun _ _ _ h => h) (Or.inl ⟨by rfl, ?_⟩) ?_ ?_
      rotate_left
      · intro w'
        go_simp
        with_reducible rfl
      rotate_left
      · simp only [Act.put, List.setIfInBounds_toArray, List.set_cons_zero, List.set_cons_succ, i64_w, i32_w]
        rfl
      refine last_ (i := 23) (N := none) #[true, true, true, true, true, true, true, true, true, true, true, true, true, true, true, true, true, true, true, true, true, true, true, true, false] rfl rfl (by kernel_rfl) (by decide) (fun K hK => ?_)
      clear hHeld
      obtain ⟨⟨k0, k1, k2, k3⟩, j0, j1, j2, j3⟩ := R7.out.facts
      refine skip_ (w1 := ?_) (by rfl) rfl ?_ ?_
      rotate_left
      · go_simp
        rfl
      refine hK.out _ _ ?_
      clear hK K
      have R8 := Aside0.mk ((((R7.out.set 0 (.int .i64 (rd1 l0).1)).set 1 (.slice A2 (rd2 l0).1.length c2)).set 2 (.int .i64 (rd3 l0).1)).set 3 (.bool ((rd4 l0).1 == 1)))
      change Aside0 (Rk w A0 l0.length c0 #[.int .i64 (rd1 l0).1, .slice A2 (rd2 l0).1.length c2, .int .i64 (rd3 l0).1, .bool ((rd4 l0).1 == 1)] (rd4 l0).2.1 (rd4 l0).2.2 _) at R8
      have O8 := Aside0.mk (Kd.R_far (Kd.R_far (Kd.R_far (Kd.R_far O7.out (p := ⟨w.heap.size, 0, none⟩) (fun k hk => hk.1) (.int .i64 (rd1 l0).1)) (p := ⟨w.heap.size, 1, none⟩) (fun k hk => hk.1) (.slice A2 (rd2 l0).1.length c2)) (p := ⟨w.heap.size, 2, none⟩) (fun k hk => hk.1) (.int .i64 (rd3 l0).1)) (p := ⟨w.heap.size, 3, none⟩) (fun k hk => hk.1) (.bool ((rd4 l0).1 == 1)))
      clear R7 O7 k0 k1 k2 k3 j0 j1 j2 j3
      generalize (((w7.setCell ⟨w.heap.size, 0, none⟩ (.int .i64 (rd1 l0).1)).setCell ⟨w.heap.size, 1, none⟩ (.slice A2 (rd2 l0).1.length c2)).setCell ⟨w.heap.size, 2, none⟩ (.int .i64 (rd3 l0).1)).setCell ⟨w.heap.size, 3, none⟩ (.bool ((rd4 l0).1 == 1)) = wz at R8 O8 ⊢
      refine pure_ (i := 24) (N := some 3) (v := ?_) (a' := ?_) #[true, true, true, true, true, true, true, true, true, true, true, true, true, true, true, true, true, true, true, true, true, true, true, true, true] rfl rfl (by kernel_rfl) (fun _ _ _ h => h) (Or.inl ⟨by rfl, ?_⟩) ?_ ?_
      rotate_left
      · intro w'
        go_simp
        with_reducible rfl
      rotate_left
      · simp only [Act.put, List.setIfInBounds_toArray, List.set_cons_zero, List.set_cons_succ, i64_w, i32_w]
        rfl
      refine done_ (by kernel_rfl) ?_
      try go_wp2
      refine bodyPost_ret (v := .tuple #[.agg #[.int .i64 (rd1 l0).1, .slice A2 (rd2 l0).1.length c2, .int .i64 (rd3 l0).1, .bool ((rd4 l0).1 == 1)], .bool (rdOk l0)]) ?_ rfl ⟨_, rfl, Kd.R_mono O8.out (fun _ _ => trivial), R8.out.hb⟩
      obtain ⟨⟨k0, k1, k2, k3⟩, j0, j1, j2, j3⟩ := R8.out.facts
      have hq := (rdOk_no2 d2)
      first | rw [← hq] | skip
      simp [results, Try.results52, go_sem, k0, k1, k2, k3]
  · have d1b : ((rd4 l0).2.2 == 0) = false := beq_eq_false_iff_ne.mpr d1
    refine start_ (n := 25) (S := fun w' => w'.cell? ⟨w.heap.size, 0, none⟩ = some (.int .i64 (rd1 l0).1) ∧ w'.cell? ⟨w.heap.size, 1, none⟩ = some (.slice A2 (rd2 l0).1.length c2) ∧ w'.cell? ⟨w.heap.size, 2, none⟩ = some (.int .i64 (rd3 l0).1) ∧ w'.cell? ⟨w.heap.size, 3, none⟩ = some (.bool ((rd4 l0).1 == 1)) ∧ w'.cell? ⟨w.heap.size + 1, 1, none⟩ = some (.int .i64 (rd4 l0).2.1) ∧ w'.cell? ⟨w.heap.size + 1, 2, none⟩ = some (.int .i64 (rd4 l0).2.2)) (ds := [23]) #[false, false, false, false, false, false, false, false, false, false, false, false, false, false, false, false, false, false, false, false, false, false, false, false, false] (by kernel_rfl) rfl rfl (R6.out.below (below_drew (Below.refl _ _))).held (fun hHeld => ?_)
    have R7 := Aside0.mk (R6.out.below (below_drew (Below.refl _ _)))
    have O7 := Aside0.mk (Kd.R_drew O6.out)
    clear R6 O6
    generalize W6.drew = w7 at R7 O7 hHeld ⊢
    refine take_ (i := 0) (N := some 26) (v := ?_) (a' := ?_) #[true, false, false, false, false, false, false, false, false, false, false, false, false, false, false, false, false, false, false, false, false, false, false, false, false] rfl rfl (by kernel_rfl) (fun _ _ _ h => h) (Or.inl ⟨by rfl, ?_⟩) hHeld ?_ ?_
    rotate_left
    · rintro w' ⟨s0, s1, s2, s3, s4, s5⟩
      go_simp
      with_reducible rfl
    rotate_left
    · simp only [Act.put, List.setIfInBounds_toArray, List.set_cons_zero, List.set_cons_succ, i64_w, i32_w]
      rfl
    refine take_ (i := 1) (N := some 27) (v := ?_) (a' := ?_) #[true, true, false, false, false, false, false, false, false, false, false, false, false, false, false, false, false, false, false, false, false, false, false, false, false] rfl rfl (by kernel_rfl) (fun _ _ _ h => h) (Or.inl ⟨by rfl, ?_⟩) hHeld ?_ ?_
    rotate_left
    · rintro w' ⟨s0, s1, s2, s3, s4, s5⟩
      go_simp
      with_reducible rfl
    rotate_left
    · simp only [Act.put, List.setIfInBounds_toArray, List.set_cons_zero, List.set_cons_succ, i64_w, i32_w]
      rfl
    refine take_ (i := 2) (N := some 28) (v := ?_) (a' := ?_) #[true, true, true, false, false, false, false, false, false, false, false, false, false, false, false, false, false, false, false, false, false, false, false, false, false] rfl rfl (by kernel_rfl) (fun _ _ _ h => h) (Or.inl ⟨by rfl, ?_⟩) hHeld ?_ ?_
    rotate_left
    · rintro w' ⟨s0, s1, s2, s3, s4, s5⟩
      go_simp
      with_reducible rfl
    rotate_left
    · simp only [Act.put, List.setIfInBounds_toArray, List.set_cons_zero, List.set_cons_succ, i64_w, i32_w]
      rfl
    refine take_ (i := 3) (N := some 29) (v := ?_) (a' := ?_) #[true, true, true, true, false, false, false, false, false, false, false, false, false, false, false, false, false, false, false, false, false, false, false, false, false] rfl rfl (by kernel_rfl) (fun _ _ _ h => h) (Or.inl ⟨by rfl, ?_⟩) hHeld ?_ ?_
    rotate_left
    · rintro w' ⟨s0, s1, s2, s3, s4, s5⟩
      go_simp
      with_reducible rfl
    rotate_left
    · simp only [Act.put, List.setIfInBounds_toArray, List.set_cons_zero, List.set_cons_succ, i64_w, i32_w]
      rfl
    refine take_ (i := 4) (N := some 30) (v := ?_) (a' := ?_) #[true, true, true, true, true, false, false, false, false, false, false, false, false, false, false, false, false, false, false, false, false, false, false, false, false] rfl rfl (by kernel_rfl) (fun _ _ _ h => h) (Or.inl ⟨by rfl, ?_⟩) hHeld ?_ ?_
    rotate_left
    · rintro w' ⟨s0, s1, s2, s3, s4, s5⟩
      go_simp
      with_reducible rfl
    rotate_left
    · simp only [Act.put, List.setIfInBounds_toArray, List.set_cons_zero, List.set_cons_succ, i64_w, i32_w]
      rfl
    refine take_ (i := 5) (N := some 31) (v := ?_) (a' := ?_) #[true, true, true, true, true, true, false, false, false, false, false, false, false, false, false, false, false, false, false, false, false, false, false, false, false] rfl rfl (by kernel_rfl) (fun _ _ _ h => h) (Or.inl ⟨by rfl, ?_⟩) hHeld ?_ ?_
    rotate_left
    · rintro w' ⟨s0, s1, s2, s3, s4, s5⟩
      go_simp
      with_reducible rfl
    rotate_left
    · simp only [Act.put, List.setIfInBounds_toArray, List.set_cons_zero, List.set_cons_succ, i64_w, i32_w]
      rfl
    refine take_ (i := 6) (N := some 32) (v := ?_) (a' := ?_) #[true, true, true, true, true, true, true, false, false, false, false, false, false, false, false, false, false, false, false, false, false, false, false, false, false] rfl rfl (by kernel_rfl) (fun _ _ _ h => h) (Or.inl ⟨by rfl, ?_⟩) hHeld ?_ ?_
    rotate_left
    · rintro w' ⟨s0, s1, s2, s3, s4, s5⟩
      go_simp
      with_reducible rfl
    rotate_left
    · simp only [Act.put, List.setIfInBounds_toArray, List.set_cons_zero, List.set_cons_succ, i64_w, i32_w]
      rfl
    refine take_ (i := 7) (N := some 33) (v := undef) (a' := ?_) #[true, true, true, true, true, true, true, true, false, false, false, false, false, false, false, false, false, false, false, false, false, false, false, false, false] rfl rfl (by kernel_rfl) (fun _ _ _ h => h) (Or.inr ⟨by rfl, rfl⟩) hHeld ?_ ?_
    rotate_left
    · simp only [Act.put, List.setIfInBounds_toArray, List.set_cons_zero, List.set_cons_succ, i64_w, i32_w]
      rfl
    refine take_ (i := 8) (N := some 34) (v := undef) (a' := ?_) #[true, true, true, true, true, true, true, true, true, false, false, false, false, false, false, false, false, false, false, false, false, false, false, false, false] rfl rfl (by kernel_rfl) (fun _ _ _ h => h) (Or.inr ⟨by rfl, rfl⟩) hHeld ?_ ?_
    rotate_left
    · simp only [Act.put, List.setIfInBounds_toArray, List.set_cons_zero, List.set_cons_succ, i64_w, i32_w]
      rfl
    refine take_ (i := 9) (N := some 35) (v := undef) (a' := ?_) #[true, true, true, true, true, true, true, true, true, true, false, false, false, false, false, false, false, false, false, false, false, false, false, false, false] rfl rfl (by kernel_rfl) (fun _ _ _ h => h) (Or.inr ⟨by rfl, rfl⟩) hHeld ?_ ?_
    rotate_left
    · simp only [Act.put, List.setIfInBounds_toArray, List.set_cons_zero, List.set_cons_succ, i64_w, i32_w]
      rfl
    refine take_ (i := 10) (N := some 36) (v := undef) (a' := ?_) #[true, true, true, true, true, true, true, true, true, true, true, false, false, false, false, false, false, false, false, false, false, false, false, false, false] rfl rfl (by kernel_rfl) (fun _ _ _ h => h) (Or.inr ⟨by rfl, rfl⟩) hHeld ?_ ?_
    rotate_left
    · simp only [Act.put, List.setIfInBounds_toArray, List.set_cons_zero, List.set_cons_succ, i64_w, i32_w]
      rfl
    refine take_ (i := 11) (N := some 37) (v := undef) (a' := ?_) #[true, true, true, true, true, true, true, true, true, true, true, true, false, false, false, false, false, false, false, false, false, false, false, false, false] rfl rfl (by kernel_rfl) (fun _ _ _ h => h) (Or.inr ⟨by rfl, rfl⟩) hHeld ?_ ?_
    rotate_left
    · simp only [Act.put, List.setIfInBounds_toArray, List.set_cons_zero, List.set_cons_succ, i64_w, i32_w]
      rfl
    refine take_ (i := 12) (N := some 38) (v := undef) (a' := ?_) #[true, true, true, true, true, true, true, true, true, true, true, true, true, false, false, false, false, false, false, false, false, false, false, false, false] rfl rfl (by kernel_rfl) (fun _ _ _ h => h) (Or.inr ⟨by rfl, rfl⟩) hHeld ?_ ?_
    rotate_left
    · simp only [Act.put, List.setIfInBounds_toArray, List.set_cons_zero, List.set_cons_succ, i64_w, i32_w]
      rfl
    refine take_ (i := 13) (N := some 39) (v := undef) (a' := ?_) #[true, true, true, true, true, true, true, true, true, true, true, true, true, true, false, false, false, false, false, false, false, false, false, false, false] rfl rfl (by kernel_rfl) (fun _ _ _ h => h) (Or.inr ⟨by rfl, rfl⟩) hHeld ?_ ?_
    rotate_left
    · simp only [Act.put, List.setIfInBounds_toArray, List.set_cons_zero, List.set_cons_succ, i64_w, i32_w]
      rfl
    refine take_ (i := 14) (N := some 40) (v := ?_) (a' := ?_) #[true, true, true, true, true, true, true, true, true, true, true, true, true, true, true, false, false, false, false, false, false, false, false, false, false] rfl rfl (by kernel_rfl) (fun _ _ _ h => h) (Or.inl ⟨by rfl, ?_⟩) hHeld ?_ ?_
    rotate_left
    · rintro w' ⟨s0, s1, s2, s3, s4, s5⟩
      go_simp
      with_reducible rfl
    rotate_left
    · simp only [Act.put, List.setIfInBounds_toArray, List.set_cons_zero, List.set_cons_succ, i64_w, i32_w]
      rfl
    refine take_ (i := 15) (N := some 41) (v := ?_) (a' := ?_) #[true, true, true, true, true, true, true, true, true, true, true, true, true, true, true, true, false, false, false, false, false, false, false, false, false] rfl rfl (by kernel_rfl) (fun _ _ _ h => h) (Or.inl ⟨by rfl, ?_⟩) hHeld ?_ ?_
    rotate_left
    · rintro w' ⟨s0, s1, s2, s3, s4, s5⟩
      go_simp
      with_reducible rfl
    rotate_left
    · simp only [Act.put, List.setIfInBounds_toArray, List.set_cons_zero, List.set_cons_succ, i64_w, i32_w]
      rfl
    refine take_ (i := 16) (N := some 42) (v := undef) (a' := ?_) #[true, true, true, true, true, true, true, true, true, true, true, true, true, true, true, true, true, false, false, false, false, false, false, false, false] rfl rfl (by kernel_rfl) (fun _ _ _ h => h) (Or.inr ⟨by rfl, rfl⟩) hHeld ?_ ?_
    rotate_left
    · simp only [Act.put, List.setIfInBounds_toArray, List.set_cons_zero, List.set_cons_succ, i64_w, i32_w]
      rfl
    refine one_ (i := 17) (N := some 43) #[true, true, true, true, true, true, true, true, true, true, true, true, true, true, true, true, true, true, false, false, false, false, false, false, false] rfl rfl (by kernel_rfl) (by decide) (fun K hK => ?_)
    refine off_ (by rfl) ?_
    refine hK.out _ _ hHeld (fun hHeld => ?_)
    clear hK K
    refine norm_ (a' := ?_) ?_ ?_
    rotate_left
    · show Act.put _ (some 43) _ = _
      simp only [Act.put, List.setIfInBounds_toArray, List.set_cons_zero, List.set_cons_succ, i64_w, i32_w]
      rfl
    refine take_ (i := 18) (N := some 44) (v := ?_) (a' := ?_) #[true, true, true, true, true, true, true, true, true, true, true, true, true, true, true, true, true, true, true, false, false, false, false, false, false] rfl rfl (by kernel_rfl) (fun _ _ _ h => h) (Or.inl ⟨by rfl, ?_⟩) hHeld ?_ ?_
    rotate_left
    · rintro w' ⟨s0, s1, s2, s3, s4, s5⟩
      go_simp
      with_reducible rfl
    rotate_left
    · simp only [Act.put, List.setIfInBounds_toArray, List.set_cons_zero, List.set_cons_succ, i64_w, i32_w]
      rfl
    refine take_ (i := 19) (N := some 45) (v := ?_) (a' := ?_) #[true, true, true, true, true, true, true, true, true, true, true, true, true, true, true, true, true, true, true, true, false, false, false, false, false] rfl rfl (by kernel_rfl) (fun _ _ _ h => h) (Or.inl ⟨by rfl, ?_⟩) hHeld ?_ ?_
    rotate_left
    · rintro w' ⟨s0, s1, s2, s3, s4, s5⟩
      go_simp
      with_reducible rfl
    rotate_left
    · simp only [Act.put, List.setIfInBounds_toArray, List.set_cons_zero, List.set_cons_succ, i64_w, i32_w]
      rfl
    refine take_ (i := 20) (N := some 46) (v := undef) (a' := ?_) #[true, true, true, true, true, true, true, true, true, true, true, true, true, true, true, true, true, true, true, true, true, false, false, false, false] rfl rfl (by kernel_rfl) (fun _ _ _ h => h) (Or.inr ⟨by rfl, rfl⟩) hHeld ?_ ?_
    rotate_left
    · simp only [Act.put, List.setIfInBounds_toArray, List.set_cons_zero, List.set_cons_succ, i64_w, i32_w]
      rfl
    refine one_ (i := 21) (N := some 47) #[true, true, true, true, true, true, true, true, true, true, true, true, true, true, true, true, true, true, true, true, true, true, false, false, false] rfl rfl (by kernel_rfl) (by decide) (fun K hK => ?_)
    refine off_ (by rfl) ?_
    refine hK.out _ _ hHeld (fun hHeld => ?_)
    clear hK K
    refine norm_ (a' := ?_) ?_ ?_
    rotate_left
    · show Act.put _ (some 47) _ = _
      simp only [Act.put, List.setIfInBounds_toArray, List.set_cons_zero, List.set_cons_succ, i64_w, i32_w]
      rfl
    refine pure_ (i := 22) (N := some 48) (v := ?_) (a' := ?_) #[true, true, true, true, true, true, true, true, true, true, true, true, true, true, true, true, true, true, true, true, true, true, true, false, false] rfl rfl (by kernel_rfl) (fun _ _ _ h => h) (Or.inl ⟨by rfl, ?_⟩) ?_ ?_
    rotate_left
    · intro w'
      go_simp
      with_reducible rfl
    rotate_left
    · simp only [Act.put, List.setIfInBounds_toArray, List.set_cons_zero, List.set_cons_succ, i64_w, i32_w]
      rfl
    refine last_ (i := 23) (N := none) #[true, true, true, true, true, true, true, true, true, true, true, true, true, true, true, true, true, true, true, true, true, true, true, true, false] rfl rfl (by kernel_rfl) (by decide) (fun K hK => ?_)
    clear hHeld
    obtain ⟨⟨k0, k1, k2, k3⟩, j0, j1, j2, j3⟩ := R7.out.facts
    refine skip_ (w1 := ?_) (by rfl) rfl ?_ ?_
    rotate_left
    · go_simp
      rfl
    refine hK.out _ _ ?_
    clear hK K
    have R8 := Aside0.mk ((((R7.out.set 0 (.int .i64 (rd1 l0).1)).set 1 (.slice A2 (rd2 l0).1.length c2)).set 2 (.int .i64 (rd3 l0).1)).set 3 (.bool ((rd4 l0).1 == 1)))
    change Aside0 (Rk w A0 l0.length c0 #[.int .i64 (rd1 l0).1, .slice A2 (rd2 l0).1.length c2, .int .i64 (rd3 l0).1, .bool ((rd4 l0).1 == 1)] (rd4 l0).2.1 (rd4 l0).2.2 _) at R8
    have O8 := Aside0.mk (Kd.R_far (Kd.R_far (Kd.R_far (Kd.R_far O7.out (p := ⟨w.heap.size, 0, none⟩) (fun k hk => hk.1) (.int .i64 (rd1 l0).1)) (p := ⟨w.heap.size, 1, none⟩) (fun k hk => hk.1) (.slice A2 (rd2 l0).1.length c2)) (p := ⟨w.heap.size, 2, none⟩) (fun k hk => hk.1) (.int .i64 (rd3 l0).1)) (p := ⟨w.heap.size, 3, none⟩) (fun k hk => hk.1) (.bool ((rd4 l0).1 == 1)))
    clear R7 O7 k0 k1 k2 k3 j0 j1 j2 j3
    generalize (((w7.setCell ⟨w.heap.size, 0, none⟩ (.int .i64 (rd1 l0).1)).setCell ⟨w.heap.size, 1, none⟩ (.slice A2 (rd2 l0).1.length c2)).setCell ⟨w.heap.size, 2, none⟩ (.int .i64 (rd3 l0).1)).setCell ⟨w.heap.size, 3, none⟩ (.bool ((rd4 l0).1 == 1)) = wz at R8 O8 ⊢
    refine pure_ (i := 24) (N := some 3) (v := ?_) (a' := ?_) #[true, true, true, true, true, true, true, true, true, true, true, true, true, true, true, true, true, true, true, true, true, true, true, true, true] rfl rfl (by kernel_rfl) (fun _ _ _ h => h) (Or.inl ⟨by rfl, ?_⟩) ?_ ?_
    rotate_left
    · intro w'
      go_simp
      with_reducible rfl
    rotate_left
    · simp only [Act.put, List.setIfInBounds_toArray, List.set_cons_zero, List.set_cons_succ, i64_w, i32_w]
      rfl
    refine done_ (by kernel_rfl) ?_
    try go_wp2
    refine bodyPost_ret (v := .tuple #[.agg #[.int .i64 (rd1 l0).1, .slice A2 (rd2 l0).1.length c2, .int .i64 (rd3 l0).1, .bool ((rd4 l0).1 == 1)], .bool (rdOk l0)]) ?_ rfl ⟨_, rfl, Kd.R_mono O8.out (fun _ _ => trivial), R8.out.hb⟩
    obtain ⟨⟨k0, k1, k2, k3⟩, j0, j1, j2, j3⟩ := R8.out.facts
    have hq := (rdOk_no1 d1)
    first | rw [← hq] | skip
    simp [results, Try.results52, go_sem, k0, k1, k2, k3]
def journal_read.f (l0 : List Int) : Option (Int × List S76 × Int × Bool × Bool) := if Oc.okB l0 = true then some (journal_read_r l0) else none
theorem journal_read.calls (A0 : Option Addr) (c0 : Nat) (l0 : List Int) (r1 : Int) (r2 : List S76) (r3 : Int) (r4 : Bool) (r5 : Bool) (w : World) (hr0 : Kd.C (Kd.int .u8) w A0 l0.length l0) (hc0 : l0.length ≤ c0) (h : journal_read.f l0 = some (r1, r2, r3, r4, r5)) :
    Calls Try.prog 52 #[.slice A0 l0.length c0] w fun e w' => ∃ v1_ : Value, e = .returned (.tuple #[.agg #[.int .i64 r1, v1_, .int .i64 r3, .bool r4], .bool r5]) ∧ Kd.R k76 76 w' w.heap.size (fun _ => True) v1_ r2 ∧ Below w.heap.size w w' := by
  unfold journal_read.f at h
  split at h
  · rename_i hb
    have h1 := Option.some.inj h
    unfold journal_read_r at h1
    simp only [Prod.mk.injEq] at h1
    obtain ⟨rfl, rfl, rfl, rfl, rfl⟩ := h1
    exact journal_read.calls_ A0 c0 l0 w hr0 hc0 hb
  · exact absurd h (by simp)
end Go.Proofs.Ytfcdaifaocgjfaa.Pr
