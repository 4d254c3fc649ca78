/- Parts of the proof of JournalBack; no condition. -/
import Derived.Test.YtfcdaifaocgjfaaPr24
import Derived.Test.YtfcdaifaocgjfaaPr13
import Derived.Test.YtfcdaifaocgjfaaPr10
import Derived.Test.YtfcdaifaocgjfaaGa3
import Derived.Test.YtfcdaifaocgjfaaGa1
import Derived.Test.YtfcdaifaocgjfaaGa0
section
namespace Go.Proofs.Ytfcdaifaocgjfaa.Pr
open Go.RowKit Go.Proofs.YtfcdaifaocgjfaaW.PrintWords Go.Proofs.YtfcdaifaocgjfaaW.PrintLast Go.Proofs.YtfcdaifaocgjfaaW.PrintMore
set_option linter.unusedVariables false
theorem CV {A : Option Addr} {c : Nat} {l : List Int} {w : World} (h : Kd.C (Kd.int .u8) w A l.length l) (hc : l.length ≤ c) : Kd.V (Kd.int .u8) 5 w w.heap.size (fun k => k < w.heap.size) (.slice A l.length c) l := Kd.V_mk hc (Kd.C_F (Kd.heap_int .u8) h)
/-- A disk and an error, made. -/
def DkRet (w : World) (r1 r2 : List Int) (r3 : Int) (e : Ending) (w' : World) : Prop := ∃ (A : Option Addr) (c : Nat) (A' : Option Addr) (c' : Nat), e = .returned (.tuple #[.agg #[.slice A r1.length c, .slice A' r2.length c'], .int .i64 r3]) ∧ (r1.length ≤ c ∧ r2.length ≤ c') ∧ Kd.C (Kd.int .u8) w' A r1.length r1 ∧ Kd.C (Kd.int .u8) w' A' r2.length r2 ∧ Below w.heap.size w w'
theorem dk_none {w w' : World} {r3 : Int} (hb : Below w.heap.size w w') : DkRet w [] [] r3 (.returned (.tuple #[.agg #[.slice none 0 0, .slice none 0 0], .int .i64 r3])) w' :=
  ⟨none, 0, none, 0, rfl, ⟨Nat.le_refl _, Nat.le_refl _⟩, Kd.C_nil _ _, Kd.C_nil _ _, hb⟩
theorem dk_ret {w w' : World} {r1 r2 : List Int} {r3 : Int} {e : Ending} {P P' : Nat → Prop} {v v' : Value} (he : e = .returned (.tuple #[.agg #[v, v'], .int .i64 r3])) (h : Kd.R (Kd.int .u8) 5 w' w.heap.size P v r1) (h' : Kd.R (Kd.int .u8) 5 w' w.heap.size P' v' r2) (hb : Below w.heap.size w w') : DkRet w r1 r2 r3 e w' := by
  obtain ⟨A, c, rfl, hc, hC⟩ := Kd.R_reads h
  obtain ⟨A', c', rfl, hc', hC'⟩ := Kd.R_reads h'
  exact ⟨A, c, A', c', he, ⟨hc, hc'⟩, hC, hC', hb⟩
theorem c_sync (A0 : Option Addr) (c0 : Nat) (l0 : List Int) (A1 : Option Addr) (c1 : Nat) (l1 : List Int) (r1 r2 : List Int) (r3 : Int) (w : World) (h0 : Kd.C (Kd.int .u8) w A0 l0.length l0) (hc0 : l0.length ≤ c0) (h1 : Kd.C (Kd.int .u8) w A1 l1.length l1) (hc1 : l1.length ≤ c1) (h : journal_Sync.f l0 l1 = some (r1, r2, r3)) :
    Calls Try.prog 15 #[.agg #[.slice A0 l0.length c0, .slice A1 l1.length c1]] w (DkRet w r1 r2 r3) :=
  (journal_Sync.calls _ A0 c0 l0 _ A1 c1 l1 r1 r2 r3 w (CV h0 hc0) (CV h1 hc1) h).mono fun e w' ⟨v, v', he, hr, hr', hb⟩ => dk_ret he hr hr' hb
theorem c_crash (A0 : Option Addr) (c0 : Nat) (l0 : List Int) (A1 : Option Addr) (c1 : Nat) (l1 : List Int) (n : Int) (r1 r2 : List Int) (r3 : Int) (w : World) (h0 : Kd.C (Kd.int .u8) w A0 l0.length l0) (hc0 : l0.length ≤ c0) (h1 : Kd.C (Kd.int .u8) w A1 l1.length l1) (hc1 : l1.length ≤ c1) (h : journal_Crash.f l0 l1 n = some (r1, r2, r3)) :
    Calls Try.prog 13 #[.agg #[.slice A0 l0.length c0, .slice A1 l1.length c1], .int .i64 n] w (DkRet w r1 r2 r3) :=
  (journal_Crash.calls _ A0 c0 l0 _ A1 c1 l1 n r1 r2 r3 w (CV h0 hc0) (CV h1 hc1) h).mono fun e w' ⟨v, v', he, hr, hr', hb⟩ => dk_ret he hr hr' hb
/-- Versions and an error, made. -/
def RdRet (w : World) (r1 r2 : List S50) (r3 : Int) (e : Ending) (w' : World) : Prop := ∃ (A : Option Addr) (c : Nat) (A' : Option Addr) (c' : Nat), e = .returned (.tuple #[.slice A r1.length c, .slice A' r2.length c', .int .i64 r3]) ∧ (r1.length ≤ c ∧ r2.length ≤ c') ∧ Kd.C k50 w' A r1.length r1 ∧ Kd.C k50 w' A' r2.length r2 ∧ Below w.heap.size w w'
theorem c_read (A0 : Option Addr) (c0 : Nat) (l0 : List Int) (A1 : Option Addr) (c1 : Nat) (l1 : List Int) (r1 r2 : List S50) (r3 : Int) (w : World) (h0 : Kd.C (Kd.int .u8) w A0 l0.length l0) (hc0 : l0.length ≤ c0) (h1 : Kd.C (Kd.int .u8) w A1 l1.length l1) (hc1 : l1.length ≤ c1) (h : journal_Read.f l0 l1 = some (r1, r2, r3)) :
    Calls Try.prog 21 #[.agg #[.slice A0 l0.length c0, .slice A1 l1.length c1]] w (RdRet w r1 r2 r3) :=
  (journal_Read.calls A0 c0 l0 A1 c1 l1 r1 r2 r3 w h0 hc0 h1 hc1 h).mono fun e w' ⟨v, v', he, hr, hr', hb⟩ => by
    obtain ⟨A, c, rfl, hc, hC⟩ := Kd.S_reads hr
    obtain ⟨A', c', rfl, hc', hC'⟩ := Kd.S_reads hr'
    exact ⟨A, c, A', c', he, ⟨hc, hc'⟩, hC, hC', hb⟩
/-- A slice of slices and an int, made. -/
def ScRet (w : World) (r1 : List (List Int)) (r2 : Int) (e : Ending) (w' : World) : Prop := ∃ (A : Option Addr) (c : Nat), e = .returned (.tuple #[.slice A r1.length c, .int .i64 r2]) ∧ r1.length ≤ c ∧ Kd.C (Kd.slice 5 (Kd.int .u8)) w' A r1.length r1 ∧ Below w.heap.size w w'
theorem c_scan (A0 : Option Addr) (c0 : Nat) (l0 : List Int) (r1 : List (List Int)) (r2 : Int) (w : World) (h0 : Kd.C (Kd.int .u8) w A0 l0.length l0) (hc0 : l0.length ≤ c0) (h : seal_Scan.f l0 = some (r1, r2)) :
    Calls Try.prog 30 #[.slice A0 l0.length c0] w (ScRet w r1 r2) :=
  (seal_Scan.calls A0 c0 l0 r1 r2 w h0 hc0 h).mono fun e w' ⟨v, he, hr, hb⟩ => by
    obtain ⟨A, c, rfl, hc, hC⟩ := Kd.S_reads hr
    exact ⟨A, c, he, hc, hC, hb⟩
theorem one_version {w : World} {g : Nat} {n m : Int} {b : Bool} {A : Option Addr} {c : Nat} {l : List S76} (h : w.heap[g]? = some (.cells #[.int .i64 n, .slice A l.length c, .int .i64 m, .bool b] 50)) (hc : l.length ≤ c) (hC : Kd.C k76 w A l.length l) : Kd.C k50 w (some ⟨g, 0, none⟩) [(⟨n, ⟨l⟩, m, b⟩ : S50)].length [(⟨n, ⟨l⟩, m, b⟩ : S50)] := by
  refine ⟨rfl, by simp, fun _ => ⟨_, rfl, fun j p hj => ?_⟩⟩
  match j, hj with
  | 0, hj =>
    obtain rfl : (⟨n, ⟨l⟩, m, b⟩ : S50) = p := Option.some.inj hj
    refine ⟨[.int .i64 n, .slice A l.length c, .int .i64 m, .bool b], rfl, k50_mk w ⟨n, ⟨l⟩, m, b⟩ hc hC, fun i u hu => ?_⟩
    have := blk_cell h i
    rw [show (⟨g, 0, none⟩ : Addr).add (0 * k50.sz + i) = ⟨g, i, none⟩ by rw [add_plain]; simp]
    rw [this]
    simpa using hu
  | j + 1, hj => simp at hj
theorem dk0 {w : World} {g : Nat} {a b : Value} (h : w.heap[g]? = some (.cells #[a, b] 24)) : w.cell? ⟨g, 0, none⟩ = some a := (blk_cell h 0).trans rfl
theorem dk1 {w : World} {g : Nat} {a b : Value} (h : w.heap[g]? = some (.cells #[a, b] 24)) : w.cell? ⟨g, 1, none⟩ = some b := (blk_cell h 1).trans rfl
end Go.Proofs.Ytfcdaifaocgjfaa.Pr
end
section
namespace Go.Proofs.Ytfcdaifaocgjfaa.Pr
open Go.RowKit Go.Proofs.YtfcdaifaocgjfaaW.PrintWords Go.Proofs.YtfcdaifaocgjfaaW.PrintLast Go.Proofs.YtfcdaifaocgjfaaW.PrintMore
attribute [local go_sem] max2_int min2_int max_two min_two max_three min_three max_four min_four   -- for this text's walks alone
set_option linter.unusedVariables false
set_option linter.unusedSimpArgs false
theorem eqA76 (d : Nat) (w : World) (x0 y0 : Int) (x1 y1 : Int) :
    (Op.equalIn (d + 2) 76 (.agg #[.int .i64 x0, .int .i64 x1]) (.agg #[.int .i64 y0, .int .i64 y1])).run Try.prog w = .ok (x0 == y0 && (x1 == y1)) w := by
  refine eqA_of Try.underlying76 (by kernel_rfl) ?_
  refine eqf_cons (by rfl) (by go_simp; rfl) (by go_simp; rfl) (by go_simp) ?_
  exact eqf_last (by rfl) (by go_simp; rfl) (by go_simp; rfl) (by go_simp)
end Go.Proofs.Ytfcdaifaocgjfaa.Pr
end
