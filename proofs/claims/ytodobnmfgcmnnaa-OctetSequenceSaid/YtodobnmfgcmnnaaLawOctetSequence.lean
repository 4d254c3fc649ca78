-- Written by this session's own program (wip/lawrow.py).
import Derived.Test.YtodobnmfgcmnnaaRows
import Derived.Test.YtodobnmfgcmnnaaPr25
import Derived.Test.YtodobnmfgcmnnaaOpenRows
import Derived.Test.YtodobnmfgcmnnaaPureOctetSequence
import Derived.WalkKit
import Derived.ProofKit
import Derived.OpenShut
import Derived.ShutString
import Derived.ChangeOld
import Derived.Below
import Derived.SizedLaws
import Derived.Test.YtodobnmfgcmnnaaWSized
namespace Go.Proofs.Ytodobnmfgcmnnaa.octetSequence
open Go.ChangeShapes Go.WideShapes Go.ChangeAt Go.RowKit Go.Proofs.YtodobnmfgcmnnaaW.PrintWords Go.Proofs.YtodobnmfgcmnnaaW.PrintLast Go.Proofs.YtodobnmfgcmnnaaW.PrintMore
open Go.ChangeMaps (open_string shut_string)
set_option linter.unusedVariables false
theorem own : ownKnob Try.prog.godebug = none := by kernel_rfl
theorem laidOut : laidOutB Try.prog = true := by kernel_rfl
set_option maxRecDepth 100000 in
theorem lifted (os : Os) (started : os.Started) (H : Type) (enc : TypeId × Value → H) :
    ReturnsInHanded {} Try.checked os 10 .any (Rows.octetSequenceSpec.pre6 enc Try.prog Try.f10 Rows.octetSequenceRow.domain false) (Rows.octetSequenceSpec.post enc Try.prog Try.f10 false true false false) := by
  refine returnsInHanded_of_change_sized (C := Try.checked) own started (by kernel_rfl) Try.func10
    (ChangeSpec.witness6 (enc := enc) (C := Try.checked) false ⟨#[], #[.slice none 0 0, .slice none 0 0], []⟩ 8 (by kernel_rfl) (by kernel_rfl) (by kernel_rfl) (by kernel_rfl)) ?_
  intro W base args ds gs before hval0 hW hcnd hsz0 _
  have hval : ∀ (j : Nat) t v, Try.f10.params[j]? = some t → args[j]? = some v → Value.okWide Try.prog W .any base t v := hval0
  have hW' := hW
  obtain ⟨p, q, hA0, hV, rfl, hfz, hnd⟩ := hW
  have hA : DataW.TrodAll enc Try.prog W 0 (fun _ => true) true Try.f10.params.toList args.toList ds p := hA0
  have hsz : (DataW.weightsEach Try.prog (Try.f10.params.toList ++ Rows.octetSequenceSpec.plain.varTypes Try.prog) (ds ++ gs)).all (· ≤ reachBytes) = true := hsz0
  rw [Try.params10] at hA hval hsz
  obtain ⟨v0, vs0, d0, ds0, p0, q0, hargs, rfl, rfl, h0, r0⟩ := trodAll_cons hA
  obtain ⟨v1, vs1, d1, ds1, p1, q1, rfl, rfl, rfl, h1, r1⟩ := trodAll_cons r0
  obtain ⟨rfl, rfl, rfl⟩ := trodAll_nil r1
  obtain rfl : args = #[v0, v1] := by cases args; simp_all
  obtain ⟨rfl, rfl⟩ := trodVars_none hV
  obtain ⟨a0, len0, cap0, rfl⟩ := okWide_slice Try.underlying43 (hval 0 43 v0 rfl rfl)
  have k0 := h0
  have lt0 : ∀ x ∈ p0, x.block < W.heap.size := by obtain ⟨m, hm⟩ := k0; exact DataW.trod_lt m _ _ _ hm
  obtain ⟨l0, rfl, hc0, hm0, hC0, hw0, hz0⟩ : ∃ l : List (List Int), len0 = l.length ∧ l.length ≤ cap0 ∧ l.length ≤ maxLen ∧ Kd.C (Kd.slice 3 (Kd.int .i64)) W a0 l.length l ∧ (∀ x ∈ l, ∀ y ∈ x, (Lit.int .i64 y).wf = true) ∧ ∀ x ∈ l, x.length * Try.prog.bytesOf 3 ≤ reachBytes := by
    obtain ⟨fuel, hf⟩ := h0
    exact Ra.openBB Try.underlying43 (by kernel_rfl) Try.underlying34 Try.underlying3 (by kernel_rfl) (by simpa [Value.cells] using hf) (fun n hn => by simpa using List.all_eq_true.1 hsz n (DataW.weights_mem_each (j := 0) (t := 43) rfl rfl n hn))
  obtain ⟨a1, len1, cap1, rfl⟩ := okWide_slice Try.underlying22 (hval 1 22 v1 rfl rfl)
  have k1 := h1
  have lt1 : ∀ x ∈ p1, x.block < W.heap.size := by obtain ⟨m, hm⟩ := k1; exact DataW.trod_lt m _ _ _ hm
  obtain ⟨l1, rfl, hc1, hC1, hw1, hz1⟩ : ∃ l : List Int, len1 = l.length ∧ l.length ≤ cap1 ∧ Kd.C (Kd.int .u8) W a1 l.length l ∧ (∀ y ∈ l, (Lit.int .u8 y).wf = true) ∧ l.length * Try.prog.bytesOf 5 ≤ reachBytes := by
    obtain ⟨fuel, hf⟩ := h1
    obtain ⟨l, A, c, hcs, h1, h2, h3, h4⟩ := Ra.openB Try.underlying22 Try.underlying5 (by kernel_rfl) hf (fun n hn => by simpa using List.all_eq_true.1 hsz n (DataW.weights_mem_each (j := 1) (t := 22) rfl rfl n hn))
    simp [Value.cells] at hcs
    obtain ⟨rfl, rfl, rfl⟩ := hcs
    exact ⟨l, rfl, h1, h2, h3, h4⟩
  clear hA0 hval0 hsz0
  obtain ⟨k, hk⟩ := Pure.OctetSequence l0 l1 hm0 hw0 hz0 hw1 hz1
  refine (Pr.chalklinelaw01_OctetSequence.calls k a0 cap0 l0 a1 cap1 l1 true W hC0 hc0 hC1 hc1 hk).mono fun e W' ⟨he, bel⟩ => ?_
  subst he
  exact ⟨_, rfl, _, _, _, [], _, [], hW', trodAll_mk1 (shut_bool Try.underlying4 _), (trodAll_cons_mk (Below.trod laidOut (by kernel_rfl) (of_decide_eq_true (by kernel_rfl)) k0 bel lt0) (trodAll_cons_mk (Below.trod laidOut (by kernel_rfl) (of_decide_eq_true (by kernel_rfl)) k1 bel lt1) trodAll_mk0)), rfl, bel.frame _, fun h => by cases h⟩
theorem over : Rows.octetSequenceRow.holds Try.pinned (OpenSpec.ofChange Rows.octetSequenceSpec) :=
  OpenClaim.holds_of_wide 10 Try.f10 rfl rfl rfl rfl rfl rfl rfl ⟨rfl, rfl, rfl, rfl, rfl⟩ rfl rfl rfl rfl rfl (by kernel_rfl) Try.func10 (by kernel_rfl)
    (of_decide_eq_true (by kernel_rfl)) (by unfold Func.isWrapper; first | (rw [if_pos (by decide +kernel)]; kernel_rfl) | (rw [if_neg (by decide +kernel)]; exact ⟨rfl, rfl⟩))
    (fun os started H enc _ => lifted os started H enc)
theorem proved : Rows.OctetSequenceSaid := over
#print axioms proved
end Go.Proofs.Ytodobnmfgcmnnaa.octetSequence
namespace Go.Proofs.Ytodobnmfgcmnnaa
/-- The row, under a short name, for the claim. -/
theorem octetSequence_holds : Rows.OctetSequenceSaid := octetSequence.proved
end Go.Proofs.Ytodobnmfgcmnnaa
