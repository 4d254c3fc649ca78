/- A part of the proof of JournalAgain; no condition. -/
import Derived.Test.YtfcdaifaocgjfaaJr3
namespace Go.Proofs.Ytfcdaifaocgjfaa.Pure
set_option linter.unusedVariables false
open Go.RowKit Go.Proofs.Ytfcdaifaocgjfaa.Pr Go.Proofs.YtfcdaifaocgjfaaW.PrintWords Go.Proofs.YtfcdaifaocgjfaaW.PrintLast Go.Proofs.YtfcdaifaocgjfaaW.PrintMore
theorem cut_scan (l : List (List Int)) (hx : ∀ x ∈ l, x.length ≤ 65536) (c W : Nat) (hW : W ≤ l.length) (h1 : ∀ j, j ≤ W → Pl.G l j ≤ c) (h2 : ∀ j, W < j → j ≤ l.length → c < Pl.G l j) : Pl.scanI ((Pl.F l).take c) = (l.take W, ((Pl.G l W : Nat) : Int)) := by
  have hg := h1 W (Nat.le_refl _)
  have e1 : (Pl.F l).take c = Pl.F (l.take W) ++ (Pl.F (l.drop W)).take (c - Pl.G l W) := by
    conv => lhs; rw [Pl.F_split l W, List.take_append]
    rw [List.take_of_length_le (show (Pl.F (l.take W)).length ≤ c from hg)]
    rfl
  rw [e1]
  refine Pl.scan_stop (l.take W) _ (fun x hx' => hx x (List.mem_of_mem_take hx')) ?_
  rcases Nat.lt_or_ge W l.length with h | h
  · have h3 := h2 (W + 1) (by omega) (by omega)
    rw [Pl.G_succ l W h] at h3
    have hb := hx l[W] (List.getElem_mem h)
    rw [List.drop_eq_getElem_cons h, Pl.F_cons, List.take_append_of_le_length (by rw [Pl.frameI_length]; omega)]
    exact Pl.openI_cut _ _ (by omega) _ (by omega)
  · rw [List.drop_eq_nil_of_le h, Pl.F_nil, List.take_nil]
    exact Pl.openI_end _
theorem whole_scan (l : List (List Int)) (hx : ∀ x ∈ l, x.length ≤ 65536) : Pl.scanI (Pl.F l) = (l, (((Pl.F l).length : Nat) : Int)) := by
  have := Pl.scan_stop l [] hx (Pl.openI_end _)
  rwa [List.append_nil] at this
theorem vers_append : ∀ (xs ys : List (List Int)) (n : Nat) (a b : List S50), vers xs n = some a → vers ys (n + xs.length) = some b → vers (xs ++ ys) n = some (a ++ b)
  | [], ys, n, a, b, h, h' => by cases h; simpa using h'
  | x :: xs, ys, n, a, b, h, h' => by
    rw [vers] at h
    obtain ⟨v, hv, h⟩ := Option.bind_eq_some_iff.1 h
    split at h
    · rename_i hn
      obtain ⟨ws, hw, rfl⟩ := Option.map_eq_some_iff.1 h
      have ih := vers_append xs ys (n + 1) ws b hw (by rw [List.length_cons] at h'; rwa [show n + 1 + xs.length = n + (xs.length + 1) by omega])
      rw [List.cons_append, vers, hv, Option.bind_some, if_pos hn, ih]
      rfl
    · cases h
theorem vers_take : ∀ (xs : List (List Int)) (n : Nat) (a : List S50) (W : Nat), vers xs n = some a → vers (xs.take W) n = some (a.take W)
  | [], n, a, W, h => by cases h; simp [vers]
  | x :: xs, n, a, 0, h => by simp [vers]
  | x :: xs, n, a, W + 1, h => by
    rw [vers] at h
    obtain ⟨v, hv, h⟩ := Option.bind_eq_some_iff.1 h
    split at h
    · rename_i hn
      obtain ⟨ws, hw, rfl⟩ := Option.map_eq_some_iff.1 h
      rw [List.take_succ_cons, vers, hv, Option.bind_some, if_pos hn, vers_take xs (n + 1) ws W hw]
      rfl
    · cases h
/-- A valid disk, as the payloads of its frames and the versions that these are. -/
structure Val (s o : List Int) (ms mo : List (List Int)) (a b : List S50) : Prop where
  es : s = Pl.F ms
  eo : o = Pl.F mo
  hs : ∀ x ∈ ms, x.length ≤ 65536
  ho : ∀ x ∈ mo, x.length ≤ 65536
  va : vers ms 1 = some a
  vb : vers mo (1 + ms.length) = some b
  le : s.length + o.length ≤ 1048576
theorem versI_val (b : List Int) (hb : Pl.bytes b) (n : Nat) (vs : List S50) (h : versI b n = some vs) : ∃ m, b = Pl.F m ∧ (∀ x ∈ m, x.length ≤ 65536) ∧ vers m n = some vs ∧ (Pl.scanI b).1 = m := by
  unfold versI at h
  split at h
  · rename_i hg
    obtain ⟨g, h1, h2, h3, h4⟩ := scan_spec b hb
    obtain rfl : g = b.length := by omega
    rw [List.take_length] at h3
    exact ⟨_, h3, fun x hx => (h4 x hx).2, h, rfl⟩
  · cases h
theorem val_of (s o : List Int) (hs : Pl.bytes s) (ho : Pl.bytes o) (h : (readI s o).2.2 = 0) : ∃ ms mo a b, Val s o ms mo a b ∧ readI s o = (a, b, 0) := by
  unfold readI at h ⊢
  by_cases c : s.length + o.length > 1048576
  · rw [if_pos c] at h; exact absurd h (by decide)
  rw [if_neg c] at h ⊢
  cases h1 : versI s 1 with
  | none => rw [h1] at h; dsimp only at h; omega
  | some a =>
    rw [h1] at h
    dsimp only at h ⊢
    cases h2 : versI o (1 + (Pl.scanI s).1.length) with
    | none => rw [h2] at h; dsimp only at h; omega
    | some b =>
      obtain ⟨ms, e1, p1, q1, r1⟩ := versI_val s hs 1 a h1
      obtain ⟨mo, e2, p2, q2, _⟩ := versI_val o ho _ b h2
      rw [r1] at q2
      exact ⟨ms, mo, a, b, ⟨e1, e2, p1, p2, q1, q2, by omega⟩, rfl⟩
theorem readI_F (ms mo : List (List Int)) (a b : List S50) (hs : ∀ x ∈ ms, x.length ≤ 65536) (ho : ∀ x ∈ mo, x.length ≤ 65536) (va : vers ms 1 = some a) (vb : vers mo (1 + ms.length) = some b) (hl : (Pl.F ms).length + (Pl.F mo).length ≤ 1048576) : readI (Pl.F ms) (Pl.F mo) = (a, b, 0) := by
  unfold readI versI
  rw [if_neg (by omega), whole_scan ms hs, if_pos rfl]
  dsimp only
  rw [va]
  dsimp only
  rw [whole_scan mo ho, if_pos rfl]
  dsimp only
  rw [vb]
theorem Val.read {s o : List Int} {ms mo : List (List Int)} {a b : List S50} (h : Val s o ms mo a b) : readI s o = (a, b, 0) := by
  have hl := h.le
  rw [h.es, h.eo] at hl ⊢
  exact readI_F ms mo a b h.hs h.ho h.va h.vb hl
theorem Val.counts {s o : List Int} {ms mo : List (List Int)} {a b : List S50} (h : Val s o ms mo a b) : a.length = ms.length ∧ b.length = mo.length := ⟨vers_length _ _ _ h.va, vers_length _ _ _ h.vb⟩
/-- What a crash leaves. -/
theorem Val.crash {s o : List Int} {ms mo : List (List Int)} {a b : List S50} (h : Val s o ms mo a b) (k : Int) (hk : 0 ≤ k) : ∃ W, W ≤ mo.length ∧ (∀ j, j ≤ W → Pl.G mo j ≤ (mn k (o.length : Int)).toNat) ∧ (∀ j, W < j → j ≤ mo.length → (mn k (o.length : Int)).toNat < Pl.G mo j) ∧
    crashI s o k = (Pl.F (ms ++ mo.take W), [], 0) ∧ Val (Pl.F (ms ++ mo.take W)) [] (ms ++ mo.take W) [] (a ++ b.take W) [] ∧ s ++ o.take (cutI o k) = Pl.F (ms ++ mo.take W) := by
  obtain ⟨W, hW, h1, h2⟩ := Pl.place mo (mn k (o.length : Int)).toNat
  have hc : cutI o k = Pl.G mo W := by
    unfold cutI
    have := cut_scan mo h.ho (mn k (o.length : Int)).toNat W hW h1 h2
    rw [← h.eo] at this
    rw [this, Int.toNat_natCast]
  have ht : o.take (cutI o k) = Pl.F (mo.take W) := by
    rw [hc, h.eo, Pl.F_split mo W]
    exact List.take_left
  have e : s ++ o.take (cutI o k) = Pl.F (ms ++ mo.take W) := by rw [ht, Pl.F_append, h.es]
  have hle : (Pl.F (ms ++ mo.take W)).length ≤ 1048576 := by
    rw [← e, List.length_append, List.length_take]
    have := h.le
    omega
  refine ⟨W, hW, h1, h2, ?_, ⟨rfl, rfl, fun x hx => ?_, fun x hx => (by cases hx), vers_append _ _ _ _ _ h.va (vers_take _ _ _ _ h.vb), rfl, by simpa using hle⟩, e⟩
  · unfold crashI
    rw [h.read, if_pos rfl, if_neg (by omega), e]
  · rcases List.mem_append.1 hx with hx | hx
    · exact h.hs x hx
    · exact h.ho x (List.mem_of_mem_take hx)
end Go.Proofs.Ytfcdaifaocgjfaa.Pure
