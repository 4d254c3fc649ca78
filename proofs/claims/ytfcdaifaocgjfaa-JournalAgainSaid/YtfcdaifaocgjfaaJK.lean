/- A part of the proof of JournalAgain; no condition. -/
import Derived.Test.YtfcdaifaocgjfaaJC
import Derived.Test.YtfcdaifaocgjfaaPr24
import Derived.Test.YtfcdaifaocgjfaaPr15
namespace Go.Proofs.Ytfcdaifaocgjfaa.Pr
open Go.RowKit Go.Proofs.YtfcdaifaocgjfaaW.PrintWords Go.Proofs.YtfcdaifaocgjfaaW.PrintLast Go.Proofs.YtfcdaifaocgjfaaW.PrintMore
set_option linter.unusedVariables false
/-- A disk's bytes, where they are read. -/
structure Dk (W : World) (A : Option Addr) (c : Nat) (s : List Int) (A' : Option Addr) (c' : Nat) (o : List Int) : Prop where
  c0 : Kd.C (Kd.int .u8) W A s.length s
  l0 : s.length ≤ c
  c1 : Kd.C (Kd.int .u8) W A' o.length o
  l1 : o.length ≤ c'
theorem Dk.below {W W' : World} {A A' : Option Addr} {c c' : Nat} {s o : List Int} (h : Dk W A c s A' c' o) (hb : Below W.heap.size W W') : Dk W' A c s A' c' o := ⟨Kd.C_below h.c0 hb, h.l0, Kd.C_below h.c1 hb, h.l1⟩
theorem Dk.alloc {W : World} {A A' : Option Addr} {c c' : Nat} {s o : List Int} (h : Dk W A c s A' c' o) (x : Obj) : Dk (W.alloc x) A c s A' c' o := h.below (below_alloc (Below.refl _ _) x)
/-- Versions, where they are read. -/
structure Vr (W : World) (A : Option Addr) (c : Nat) (l : List S50) : Prop where
  c0 : Kd.C k50 W A l.length l
  l0 : l.length ≤ c
theorem Vr.below {W W' : World} {A : Option Addr} {c : Nat} {l : List S50} (h : Vr W A c l) (hb : Below W.heap.size W W') : Vr W' A c l := ⟨Kd.C_below h.c0 hb, h.l0⟩
theorem Vr.alloc {W : World} {A : Option Addr} {c : Nat} {l : List S50} (h : Vr W A c l) (x : Obj) : Vr (W.alloc x) A c l := h.below (below_alloc (Below.refl _ _) x)
def DkR (w : World) (r1 r2 : List Int) (r3 : Int) (e : Ending) (w' : World) : Prop := ∃ (A : Option Addr) (c : Nat) (A' : Option Addr) (c' : Nat), e = .returned (.tuple #[.agg #[.slice A r1.length c, .slice A' r2.length c'], .int .i64 r3]) ∧ Dk w' A c r1 A' c' r2 ∧ Below w.heap.size w w'
theorem dkR {w w' : World} {r1 r2 : List Int} {r3 : Int} {e : Ending} (h : DkRet w r1 r2 r3 e w') : DkR w r1 r2 r3 e w' := by
  obtain ⟨A, c, A', c', he, ⟨h1, h2⟩, h3, h4, hb⟩ := h
  exact ⟨A, c, A', c', he, ⟨h3, h1, h4, h2⟩, hb⟩
def RdR (w : World) (r1 r2 : List S50) (r3 : Int) (e : Ending) (w' : World) : Prop := ∃ (A : Option Addr) (c : Nat) (A' : Option Addr) (c' : Nat), e = .returned (.tuple #[.slice A r1.length c, .slice A' r2.length c', .int .i64 r3]) ∧ Vr w' A c r1 ∧ Vr w' A' c' r2 ∧ Below w.heap.size w w'
variable {A A' B B' : Option Addr} {c c' d d' : Nat} {s o s' o' : List Int} {w : World}
theorem j_read (D : Dk w A c s A' c' o) {r1 r2 : List S50} {r3 : Int} (h : journal_Read.f s o = some (r1, r2, r3)) : Calls Try.prog 21 #[.agg #[.slice A s.length c, .slice A' o.length c']] w (RdR w r1 r2 r3) :=
  (c_read A c s A' c' o r1 r2 r3 w D.c0 D.l0 D.c1 D.l1 h).mono fun e w' ⟨A, c, A', c', he, ⟨h1, h2⟩, h3, h4, hb⟩ => ⟨A, c, A', c', he, ⟨h3, h1⟩, ⟨h4, h2⟩, hb⟩
theorem j_check (D : Dk w A c s A' c' o) {r : Int} (h : journal_Check.f s o = some r) : Calls Try.prog 20 #[.agg #[.slice A s.length c, .slice A' o.length c']] w fun e w' => e = .returned (.int .i64 r) ∧ Below w.heap.size w w' := journal_Check.calls A c s A' c' o r w D.c0 D.l0 D.c1 D.l1 h
theorem j_sync (D : Dk w A c s A' c' o) {r1 r2 : List Int} {r3 : Int} (h : journal_Sync.f s o = some (r1, r2, r3)) : Calls Try.prog 15 #[.agg #[.slice A s.length c, .slice A' o.length c']] w (DkR w r1 r2 r3) :=
  (c_sync A c s A' c' o r1 r2 r3 w D.c0 D.l0 D.c1 D.l1 h).mono fun _ _ h => dkR h
theorem j_crash (D : Dk w A c s A' c' o) (n : Int) {r1 r2 : List Int} {r3 : Int} (h : journal_Crash.f s o n = some (r1, r2, r3)) : Calls Try.prog 13 #[.agg #[.slice A s.length c, .slice A' o.length c'], .int .i64 n] w (DkR w r1 r2 r3) :=
  (c_crash A c s A' c' o n r1 r2 r3 w D.c0 D.l0 D.c1 D.l1 h).mono fun _ _ h => dkR h
theorem j_few (D : Dk w A c s A' c' o) {r : Bool} (h : chalklineref34_Few.f s o = some r) : Calls Try.prog 12 #[.agg #[.slice A s.length c, .slice A' o.length c']] w fun e w' => e = .returned (.bool r) ∧ Below w.heap.size w w' := chalklineref34_Few.calls A c s A' c' o r w D.c0 D.l0 D.c1 D.l1 h
theorem j_same (D : Dk w A c s A' c' o) (E : Dk w B d s' B' d' o') {r : Bool} (h : chalklineref34_Same.f s o s' o' = some r) : Calls Try.prog 14 #[.agg #[.slice A s.length c, .slice A' o.length c'], .agg #[.slice B s'.length d, .slice B' o'.length d']] w fun e w' => e = .returned (.bool r) ∧ Below w.heap.size w w' := chalklineref34_Same.calls A c s A' c' o B d s' B' d' o' r w D.c0 D.l0 D.c1 D.l1 E.c0 E.l0 E.c1 E.l1 h
theorem j_versions (k : Nat) {l m : List S50} (D : Vr w A c l) (E : Vr w B d m) {r : Bool} (h : chalklineref34_Versions.f k l m = some r) : Calls Try.prog 23 #[.slice A l.length c, .slice B m.length d] w fun e w' => e = .returned (.bool r) ∧ Below w.heap.size w w' := chalklineref34_Versions.calls k A c l B d m r w D.c0 D.l0 E.c0 E.l0 h
/-- While a law over a disk runs: the disk's own block. -/
structure Lw (w : World) (D : Array Value) (W : World) : Prop where
  hb : Below w.heap.size w W
  d : W.heap[w.heap.size]? = some (.cells D 24)
theorem Lw.start (w : World) (D : Array Value) : Lw w D (w.alloc (.cells D 24)) := ⟨below_alloc (Below.refl _ _) _, blk_new _ _⟩
theorem Lw.below {W W' : World} {D : Array Value} (h : Lw w D W) (hb : Below W.heap.size W W') : Lw w D W' := ⟨below_step h.hb hb, blk_below h.d hb⟩
theorem Lw.alloc {W : World} {D : Array Value} (h : Lw w D W) (x : Obj) : Lw w D (W.alloc x) := h.below (below_alloc (Below.refl _ _) x)
theorem Lw.k0 {W : World} {a b : Value} (h : Lw w #[a, b] W) : W.cell? ⟨w.heap.size, 0, none⟩ = some a := dk0 h.d
theorem Lw.k1 {W : World} {a b : Value} (h : Lw w #[a, b] W) : W.cell? ⟨w.heap.size, 1, none⟩ = some b := dk1 h.d
theorem few_eq (s o : List Int) : chalklineref34_Few.f s o = some (decide ((s.length : Int) ≤ 4000) && decide ((o.length : Int) ≤ 4000)) := by
  unfold chalklineref34_Few.f
  by_cases h : (s.length : Int) ≤ 4000
  · rw [if_pos h, decide_eq_true h, Bool.true_and]
  · rw [if_neg h, decide_eq_false h, Bool.false_and]
theorem few_small {s o : List Int} (h : (decide ((s.length : Int) ≤ 4000) && decide ((o.length : Int) ≤ 4000)) = true) : s.length ≤ 4000 ∧ o.length ≤ 4000 := by
  simp only [Bool.and_eq_true, decide_eq_true_eq] at h
  omega
end Go.Proofs.Ytfcdaifaocgjfaa.Pr
