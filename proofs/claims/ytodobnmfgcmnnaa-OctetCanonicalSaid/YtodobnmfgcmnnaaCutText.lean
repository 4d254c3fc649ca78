/- The text between two places, cut out and made a string. -/
import Derived.Test.YtodobnmfgcmnnaaOcB
namespace Go.Proofs.Ytodobnmfgcmnnaa.Pr
open Go.RowKit Go.Proofs.YtodobnmfgcmnnaaW.PrintWords Go.Proofs.YtodobnmfgcmnnaaW.PrintLast Go.Proofs.YtodobnmfgcmnnaaW.PrintMore
/-- The text between two places, cut out and made a string. -/
theorem cut_text (A0 : Option Addr) (c0 : Nat) (l0 : List Int) (a n : Int) (w : World) (hr0 : Kd.C (Kd.int .u8) w A0 l0.length l0) (hc0 : l0.length ≤ c0) (h0 : 0 ≤ a) (h1 : 0 ≤ n) (h2 : a + n ≤ l0.length) :
    ∃ (A1 : Option Addr) (c1 m : Nat), (∀ W : World, (Instr.slice 22 (.slice A0 l0.length c0) (some (.int .i64 a)) (some (.int .i64 (a + n))) none).run Try.prog W = .ok (.slice A1 m c1) W) ∧
      (convert 22 9 (.slice A1 m c1)).run Try.prog w = .ok (.string (strOfNums ((l0.drop a.toNat).take n.toNat))) w := by
  obtain ⟨i0, hi, hz0, hz1, hz2⟩ := info_parts info5
  obtain ⟨A1, hcut, hA1, hC1⟩ := print_mid_int (P := Try.prog) (k := .u8) 22 5 Try.underlying22 hi hz1 A0 c0 l0 a (a + n) h0 (by omega) h2 hc0
  have hmid : (l0.take (a + n).toNat).drop a.toNat = (l0.drop a.toNat).take n.toNat := by
    rw [show (a + n).toNat = a.toNat + n.toNat by omega, List.drop_take, Nat.add_sub_cancel_left]
  have hR := hA1 w (Kd.reads_of_C hr0)
  rw [hmid] at hcut hR
  exact ⟨A1, _, _, hcut, Kd.C_string Try.underlying22 Try.underlying5 Try.underlying9 (Kd.C_of_reads (h1 := fun _ => rfl) hR)⟩
end Go.Proofs.Ytodobnmfgcmnnaa.Pr
