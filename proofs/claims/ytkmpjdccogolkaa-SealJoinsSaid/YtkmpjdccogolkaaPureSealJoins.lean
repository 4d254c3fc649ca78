/- SealJoins: the scan of two byte slices in a row, the first all frames, gives the payloads of both; every pair of byte slices that the statement's guard lets in; no condition. -/
import Derived.Test.YtkmpjdccogolkaaScanP
import Derived.Test.YtkmpjdccogolkaaBackP
import Derived.Test.YtkmpjdccogolkaaPr23
namespace Go.Proofs.Ytkmpjdccogolkaa.Pure
open Go.RowKit Go.Proofs.Ytkmpjdccogolkaa.Pr Go.Proofs.YtkmpjdccogolkaaW.PrintWords Go.Proofs.YtkmpjdccogolkaaW.PrintLast
theorem scan_shape : ∀ (n : Nat) (pre rest : List Int) (acc : List (List Int)), Pl.bytes (pre ++ rest) → rest.length < n →
    ∃ (m : List (List Int)) (post : List Int), Pl.scanF n (pre ++ rest) pre.length acc = (acc ++ m, ((pre.length + (Pl.F m).length : Nat) : Int)) ∧ rest = Pl.F m ++ post ∧ (∀ x ∈ m, x.length ≤ 65536) ∧
      (Pl.openI ((pre ++ Pl.F m) ++ post) (pre ++ Pl.F m).length).2.2 ≠ 0 := by
  intro n
  induction n with
  | zero => intro pre rest acc _ h; omega
  | succ n ih =>
    intro pre rest acc hb hn
    rcases Pl.openI_spec (pre ++ rest) hb pre.length with ⟨e, he, hne⟩ | ⟨body, a, ha, ho, hle, hlen, hfr, _⟩
    · refine ⟨[], rest, ?_, rfl, (fun x hx => by cases hx), ?_⟩
      · rw [Pl.scanF, he, if_neg hne]; simp [Pl.F]
      · rw [Pl.F_nil, List.append_nil, he]; exact hne
    · obtain rfl : a = pre.length := by omega
      rw [List.drop_left] at hfr
      have hr : rest = Pl.frameI body ++ rest.drop (8 + body.length) := by rw [← hfr, List.take_append_drop]
      have hfl := Pl.frameI_length body
      rw [List.length_append] at hle
      obtain ⟨m, post, h1, h2, h3, h4⟩ := ih (pre ++ Pl.frameI body) (rest.drop (8 + body.length)) (acc ++ [body]) (by rw [List.append_assoc, ← hr]; exact hb) (by rw [List.length_drop]; omega)
      refine ⟨body :: m, post, ?_, ?_, ?_, ?_⟩
      · rw [Pl.scanF, ho, if_pos rfl]
        rw [List.append_assoc, ← hr, List.length_append, hfl] at h1
        rw [show (((pre.length : Nat) : Int) + 8 + (body.length : Int)) = ((pre.length + (8 + body.length) : Nat) : Int) by omega, h1, Pl.F_cons, List.length_append, hfl, List.append_assoc]
        simp; omega
      · rw [Pl.F_cons, List.append_assoc, ← h2]; exact hr
      · intro x hx
        rcases List.mem_cons.1 hx with rfl | hx
        · exact hlen
        · exact h3 x hx
      · rw [Pl.F_cons, ← List.append_assoc]; exact h4
theorem scan_shape0 (l : List Int) (hb : Pl.bytes l) : ∃ (m : List (List Int)) (post : List Int), Pl.scanI l = (m, (((Pl.F m).length : Nat) : Int)) ∧ l = Pl.F m ++ post ∧ (∀ x ∈ m, x.length ≤ 65536) ∧ (Pl.openI (Pl.F m ++ post) (Pl.F m).length).2.2 ≠ 0 := by
  obtain ⟨m, post, h1, h2, h3, h4⟩ := scan_shape (l.length + 1) [] l [] hb (by omega)
  exact ⟨m, post, by simpa [Pl.scanI] using h1, h2, h3, h4⟩
theorem SealJoins (l0 l1 : List Int) (h0 : ∀ x ∈ l0, (Lit.int .u8 x).wf = true) (h1 : ∀ x ∈ l1, (Lit.int .u8 x).wf = true) : ∃ k, chalklinelaw02_SealJoins.f k l0 l1 = some true := by
  have b0 : Pl.bytes l0 := fun x hx => wf_u8 (h0 x hx)
  have b1 : Pl.bytes l1 := fun x hx => wf_u8 (h1 x hx)
  refine ⟨100000, ?_⟩
  unfold chalklinelaw02_SealJoins.f
  by_cases c0 : (l0.length : Int) > 2000
  · rw [if_pos c0]
  rw [if_neg c0]
  by_cases c1 : (l1.length : Int) > 2000
  · rw [if_pos c1]
  rw [if_neg c1, sealScan l0 (by omega), Option.bind_some]
  obtain ⟨m, post, hs, hl, hm, ho⟩ := scan_shape0 l0 b0
  obtain ⟨m1, post1, hs1, hl1, hm1, ho1⟩ := scan_shape0 l1 b1
  have hlen : l0.length = (Pl.F m).length + post.length := by rw [← List.length_append, ← hl]
  rw [hs]
  by_cases c : (((Pl.F m).length : Nat) : Int) = (l0.length : Int)
  · rw [if_pos c]
    obtain rfl : post = [] := List.eq_nil_of_length_eq_zero (by omega)
    rw [List.append_nil] at hl
    have hlen1 : l1.length = (Pl.F m1).length + post1.length := by rw [← List.length_append, ← hl1]
    have e : l0 ++ l1 = Pl.F (m ++ m1) ++ post1 := by rw [Pl.F_append, List.append_assoc, ← hl, ← hl1]
    have ho2 : (Pl.openI (Pl.F (m ++ m1) ++ post1) (Pl.F (m ++ m1)).length).2.2 ≠ 0 := by
      rw [Pl.openI_at] at ho1 ⊢
      intro h
      apply ho1
      revert h
      repeat' split
      all_goals exact id
    have hs2 : Pl.scanI (l0 ++ l1) = (m ++ m1, (((Pl.F (m ++ m1)).length : Nat) : Int)) := by
      rw [e]; exact Pl.scan_stop (m ++ m1) post1 (fun x hx => (List.mem_append.1 hx).elim (hm x) (hm1 x)) ho2
    have n0 := Pl.len_le_F m
    have n1 := Pl.len_le_F m1
    rw [sealScan l1 (by omega), Option.bind_some, hs1, sealScan (l0 ++ l1) (by rw [List.length_append]; omega), Option.bind_some, hs2]
    dsimp only
    rw [sameAll_refl _ (by rw [List.length_append]; omega) _ (by rw [List.length_append]; omega), Option.bind_some, if_pos (by omega), if_pos rfl]
    have hw : wrap64 ((((Pl.F m).length : Nat) : Int) + (((Pl.F m1).length : Nat) : Int)) = (((Pl.F (m ++ m1)).length : Nat) : Int) := by
      rw [Pl.F_append, List.length_append]; unfold wrap64; omega
    rw [hw]
    exact congrArg some (beq_self_eq_true _)
  · rw [if_neg c, if_pos (by omega)]
    exact congrArg some (decide_eq_true (by omega))
end Go.Proofs.Ytkmpjdccogolkaa.Pure
