/- OctetTruncated: a part of an encoding, cut before its end, is too short; every input that the statement's guard lets in; no condition. -/
import Derived.Test.YtodobnmfgcmnnaaByteP
import Derived.Test.YtodobnmfgcmnnaaPr23
namespace Go.Proofs.Ytodobnmfgcmnnaa.Pure
open Go.RowKit Go.Proofs.Ytodobnmfgcmnnaa.Pr Go.Proofs.YtodobnmfgcmnnaaW.PrintWords Go.Proofs.YtodobnmfgcmnnaaW.PrintLast
theorem cut_mod (cut : Int) (n : Nat) (h : 0 ≤ cut) (hn : 0 < n) : ∃ j : Nat, Int.tmod cut (n : Int) = j ∧ j < n := by
  obtain ⟨c, rfl⟩ := Int.eq_ofNat_of_zero_le h
  exact ⟨c % n, rfl, Nat.mod_lt _ hn⟩
theorem OctetTruncated : chalklinelaw01_OctetTruncated.Pure := by
  intro n s xs cut hn hs _ _ hx hc
  have hn := ok64_of hn
  have hx : ∀ x ∈ xs, Oc.ok64 x = true := fun x h => ok64_of (hx x h)
  refine ⟨2, ?_⟩
  unfold chalklinelaw01_OctetTruncated.f chalklinelaw01_live.f
  rw [Option.bind_some, if_pos rfl]
  have yes : chalklinelaw01_OctetTruncated.j0 2 n s xs cut true = some true := by rw [chalklinelaw01_OctetTruncated.j0, if_pos rfl]
  by_cases c1 : (s.size : Int) > 300
  · rw [if_pos c1]; exact yes
  rw [if_neg c1]
  by_cases c2 : (xs.length : Int) > 100
  · rw [if_pos c2]; exact yes
  rw [if_neg c2]
  by_cases c3 : cut < 0
  · rw [decide_eq_true c3]; exact yes
  rw [decide_eq_false c3, chalklinelaw01_OctetTruncated.j0, if_neg (by simp), octPut [] n hn (by simp), Option.bind_some, octPutT [] s (by simp) (by omega), Option.bind_some, octPuts [] xs hx (by simp) (by omega), Option.bind_some]
  have l1 : 0 < (Oc.putI [] n).length := by have := List.length_pos_iff.2 (Oc.grp_ne (Oc.zz n)); simp [Oc.putI]; omega
  have l2 : 0 < (putT [] s).length := by have := List.length_pos_iff.2 (Oc.grp_ne (Oc.zz (s.size : Int))); simp [putT, Oc.putI]; omega
  have l3 : 0 < (Oc.putIs [] xs).length := by have := List.length_pos_iff.2 (Oc.grp_ne (Oc.zz (xs.length : Int))); rw [Oc.putIs_C]; simp; omega
  have m1 := putI_length [] n hn
  have m3 := putIs_len [] xs hx (by omega)
  have o1 := okB_putI [] n rfl
  have o2 := okB_putT [] s rfl
  have o3 := okB_putIs [] xs rfl
  obtain ⟨j1, e1, h1⟩ := cut_mod cut _ (by omega) l1
  obtain ⟨j2, e2, h2⟩ := cut_mod cut _ (by omega) l2
  obtain ⟨j3, e3, h3⟩ := cut_mod cut _ (by omega) l3
  have g1 : Oc.getI ((Oc.putI [] n).take j1) 0 = (0, 0, 10) := by
    have := Oc.getI_cut [] n hn j1 (by simpa [Oc.putI] using h1)
    simpa [Oc.putI] using this
  have g2 : Oc.getT ((putT [] s).take j2) 0 (s.size : Int) = ([], 0, 10) := by
    have := Oc.getT_cut (bytesOf s) (by rw [bytesOf_length]; omega) j2 (by rw [bytesOf_length]; exact h2)
    rw [bytesOf_length] at this
    exact this
  have g3 : Oc.getIs ((Oc.putIs [] xs).take j3) 0 (xs.length : Int) = ([], 0, 10) := Oc.getIs_cut xs hx (by omega) j3 h3
  rw [if_neg (by omega), if_neg (by omega), show (((Oc.putIs [] xs).length : Int) == 0) = false from beq_eq_false_iff_ne.2 (by omega), chalklinelaw01_OctetTruncated.j1, if_neg (by simp)]
  rw [if_neg (by omega), e1, if_pos (by omega), if_pos (by omega), Int.toNat_natCast, octGet _ _ (okB_take _ _ o1), g1, Option.bind_some]
  rw [if_neg (by omega), e2, if_pos (by omega), if_pos (by omega), Int.toNat_natCast, octText _ _ _ (okB_take _ _ o2), g2, Option.bind_some]
  rw [if_neg (by omega), e3, if_pos (by omega), if_pos (by omega), Int.toNat_natCast, octInts _ _ _ (okB_take _ _ o3) (by rw [List.length_take]; simp at m3; omega), g3, Option.bind_some]
  rfl
end Go.Proofs.Ytodobnmfgcmnnaa.Pure
