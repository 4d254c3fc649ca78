/- A part of the proof of JournalAgain; no condition. -/
import Derived.Test.YtfcdaifaocgjfaaJr2
import Derived.Test.YtfcdaifaocgjfaaPr13
import Derived.Test.YtfcdaifaocgjfaaPr24
namespace Go.Proofs.Ytfcdaifaocgjfaa.Pure
open Go.RowKit Go.Proofs.Ytfcdaifaocgjfaa.Pr Go.Proofs.YtfcdaifaocgjfaaW.PrintWords Go.Proofs.YtfcdaifaocgjfaaW.PrintLast Go.Proofs.YtfcdaifaocgjfaaW.PrintMore
theorem same_refl (a b : List Int) : chalklineref34_Same.f a b a b = some true := by
  unfold chalklineref34_Same.f
  rw [if_pos rfl, beq_self_eq_true]
theorem bytes_take' {l : List Int} (h : Pl.bytes l) (n : Nat) : Pl.bytes (l.take n) := fun x hx => h x (List.mem_of_mem_take hx)
/-- The bytes of complete frames among the first a. -/
def cutI (o : List Int) (a : Int) : Nat := (Pl.scanI (o.take (mn a (o.length : Int)).toNat)).2.toNat
theorem mn_in (a : Int) (n : Nat) (h : 0 ≤ a) : 0 ≤ mn a (n : Int) ∧ mn a (n : Int) ≤ n := by unfold mn; split <;> omega
theorem cutI_le (o : List Int) (ho : Pl.bytes o) (a : Int) : cutI o a ≤ o.length := by
  unfold cutI
  obtain ⟨g, h1, h2, _⟩ := scan_spec (o.take (mn a (o.length : Int)).toNat) (bytes_take' ho _)
  rw [h1, Int.toNat_natCast]
  rw [List.length_take] at h2
  omega
theorem cutI_eq (o : List Int) (ho : Pl.bytes o) (a : Int) : (Pl.scanI (o.take (mn a (o.length : Int)).toNat)).2 = (cutI o a : Int) := by
  unfold cutI
  obtain ⟨g, h1, _⟩ := scan_spec (o.take (mn a (o.length : Int)).toNat) (bytes_take' ho _)
  rw [h1, Int.toNat_natCast]
def crashI (s o : List Int) (a : Int) : List Int × List Int × Int :=
  if (readI s o).2.2 = 0 then if a < 0 then ([], [], 1) else (s ++ o.take (cutI o a), [], 0) else ([], [], (readI s o).2.2)
def syncI (s o : List Int) : List Int × List Int × Int := if (readI s o).2.2 = 0 then (s ++ o, [], 0) else ([], [], (readI s o).2.2)
theorem jCrash (s o : List Int) (hs : Pl.bytes s) (ho : Pl.bytes o) (hl : s.length ≤ 1000000000) (hm : o.length ≤ 1000000000) (a : Int) : journal_Crash.f s o a = some (crashI s o a) := by
  unfold journal_Crash.f crashI
  rw [jCheck s o hs ho (by omega) (by omega), Option.bind_some]
  by_cases h0 : (readI s o).2.2 = 0
  · rw [if_pos h0, if_pos h0]
    by_cases h1 : a < 0
    · rw [if_pos h1, if_pos h1]
    rw [if_neg h1, if_neg h1]
    have hj := mn_in a o.length (by omega)
    have hc := cutI_le o ho a
    rw [if_pos hj.1, if_pos hj.2, show seal_Scan.f (o.take (mn a (o.length : Int)).toNat) = some (Pl.scanI (o.take (mn a (o.length : Int)).toNat)) from by unfold seal_Scan.f; rw [if_pos (by rw [List.length_take]; omega)], Option.bind_some, cutI_eq o ho a, if_pos (Int.natCast_nonneg _), if_pos (Int.ofNat_le.mpr hc), Int.toNat_natCast]
    unfold slices_Concat_byte_byte.f
    have e : [s, o.take (cutI o a)].flatten = s ++ o.take (cutI o a) := by simp
    rw [e, if_pos (by rw [List.length_append, List.length_take]; omega), Option.bind_some, h0]
  · rw [if_neg h0, if_neg h0]
theorem jSync (s o : List Int) (hs : Pl.bytes s) (ho : Pl.bytes o) (hl : s.length ≤ 1000000000) (hm : o.length ≤ 1000000000) : journal_Sync.f s o = some (syncI s o) := by
  unfold journal_Sync.f syncI
  rw [jCheck s o hs ho (by omega) (by omega), Option.bind_some]
  by_cases h0 : (readI s o).2.2 = 0
  · rw [if_pos h0, if_pos h0]
    unfold slices_Concat_byte_byte.f
    have e : [s, o].flatten = s ++ o := by simp
    rw [e, if_pos (by rw [List.length_append]; omega), Option.bind_some, h0]
  · rw [if_neg h0, if_neg h0]
end Go.Proofs.Ytfcdaifaocgjfaa.Pure
