/- Plain: what Open answers; a frame is opened to its payload, and what was opened is a frame. -/
import Derived.Test.YtkmpjdccogolkaaNum
namespace Go.Proofs.Ytkmpjdccogolkaa.Pl

theorem take8 (r : List Int) (n : Nat) : r.take (8 + n) = r.take 4 ++ (r.drop 4).take 4 ++ (r.drop 8).take n := by
  rw [show 8 + n = 4 + (4 + n) by omega, List.take_add, List.take_add, List.drop_drop, List.append_assoc]
theorem frameI_length (l : List Int) : (frameI l).length = 8 + l.length := by simp [frameI, be4]; omega
theorem openI_spec (l : List Int) (hb : bytes l) (at_ : Int) :
    (∃ e, openI l at_ = ([], 0, e) ∧ e ≠ 0) ∨
    ∃ (body : List Int) (a : Nat), at_ = a ∧ openI l at_ = (body, (a : Int) + 8 + body.length, 0) ∧ a + 8 + body.length ≤ l.length ∧ body.length ≤ 65536 ∧ (l.drop a).take (8 + body.length) = frameI body ∧ bytes body := by
  unfold openI
  by_cases h0 : at_ < 0
  · exact .inl ⟨1, by rw [if_pos h0], by decide⟩
  rw [if_neg h0]
  by_cases h1 : (l.length : Int) < at_
  · exact .inl ⟨1, by rw [if_pos h1], by decide⟩
  rw [if_neg h1]
  by_cases h2 : (l.drop at_.toNat).length < 8
  · exact .inl ⟨10, by rw [if_pos h2], by decide⟩
  rw [if_neg h2]
  by_cases h3 : 65536 < get4 (l.drop at_.toNat)
  · exact .inl ⟨11, by rw [if_pos h3], by decide⟩
  rw [if_neg h3]
  by_cases h4 : (l.drop at_.toNat).length - 8 < get4 (l.drop at_.toNat)
  · exact .inl ⟨10, by rw [if_pos h4], by decide⟩
  rw [if_neg h4]
  by_cases h5 : sumI (((l.drop at_.toNat).drop 8).take (get4 (l.drop at_.toNat))) = get4 ((l.drop at_.toNat).drop 4)
  · rw [if_pos h5]
    obtain ⟨a, rfl⟩ := Int.eq_ofNat_of_zero_le (show 0 ≤ at_ by omega)
    rw [Int.toNat_natCast] at h2 h3 h4 h5 ⊢
    have hrl : (l.drop a).length = l.length - a := List.length_drop
    have hbl : (((l.drop a).drop 8).take (get4 (l.drop a))).length = get4 (l.drop a) := by rw [List.length_take, List.length_drop]; omega
    have hrb := bytes_drop hb a
    refine .inr ⟨((l.drop a).drop 8).take (get4 (l.drop a)), a, rfl, by rw [hbl], by rw [hbl]; omega, by rw [hbl]; omega, ?_, bytes_take (bytes_drop hrb _) _⟩
    rw [hbl]
    unfold frameI
    rw [hbl, h5, be4_get4 _ hrb (by omega), be4_get4 _ (bytes_drop hrb 4) (by rw [List.length_drop]; omega), take8]
  · exact .inl ⟨20, by rw [if_neg h5], by decide⟩
/-- A frame, wherever it stands, is opened. -/
theorem openI_frame (pre body post : List Int) (h : body.length ≤ 65536) :
    openI (pre ++ (frameI body ++ post)) pre.length = (body, (pre.length : Int) + 8 + body.length, 0) := by
  have hf := frameI_length body
  have hd : (pre ++ (frameI body ++ post)).drop pre.length = frameI body ++ post := by rw [List.drop_left]
  have hg : get4 (frameI body ++ post) = body.length := by
    have := get4_be4 (body.length : Int) (by omega) (by omega) (be4 (sumI body) ++ body ++ post)
    have e : frameI body ++ post = be4 body.length ++ (be4 (sumI body) ++ body ++ post) := by simp [frameI, List.append_assoc]
    rw [e]
    omega
  have h4 : (frameI body ++ post).drop 4 = be4 (sumI body) ++ (body ++ post) := by
    simp [frameI, be4]
  have h8 : (frameI body ++ post).drop 8 = body ++ post := by
    simp [frameI, be4]
  have hs := sumI_range body
  have hg4 := get4_be4 (sumI body) hs.1 (by omega) (body ++ post)
  unfold openI
  rw [if_neg (by omega), if_neg (by rw [List.length_append]; omega), Int.toNat_natCast, hd, hg, h4, h8, List.take_left, List.length_append, hf]
  rw [if_neg (by omega), if_neg (by omega), if_neg (by omega), if_pos hg4.symm]
end Go.Proofs.Ytkmpjdccogolkaa.Pl
