/- SealSpoilt: one byte changed behind a frame's length field: Scan stops ahead of that frame; Open says ErrSum; every list of byte slices, place and byte. -/
import Derived.Test.YtkmpjdccogolkaaPureSealBack
import Derived.Test.YtkmpjdccogolkaaPr22
namespace Go.Proofs.Ytkmpjdccogolkaa.Pure
open Go.RowKit Go.Proofs.Ytkmpjdccogolkaa.Pr Go.Proofs.YtkmpjdccogolkaaW.PrintWords Go.Proofs.YtkmpjdccogolkaaW.PrintLast
theorem rd_get (l : List Int) (i : Nat) (h : i < l.length) : rd l (i : Int) = l[i] := by simp [rd, List.getD_eq_getElem?_getD, List.getElem?_eq_getElem h]
theorem spoilt_split (l : List (List Int)) (W p : Nat) (h : W < l.length) (hp : p < 8 + (l[W]).length) (tz : Int) :
    (Pl.F l).set (Pl.G l W + p) tz = Pl.F (l.take W) ++ ((Pl.frameI l[W]).set p tz ++ Pl.F (l.drop (W + 1))) := by
  rw [Pl.F_split l W, List.drop_eq_getElem_cons h, Pl.F_cons, List.set_append_right _ _ (show (Pl.F (l.take W)).length ≤ Pl.G l W + p by show Pl.G l W ≤ _; omega)]
  rw [show Pl.G l W + p - (Pl.F (l.take W)).length = p by show Pl.G l W + p - Pl.G l W = p; omega, List.set_append_left _ _ (by rw [Pl.frameI_length]; omega)]
theorem spoilt_at (l : List (List Int)) (W p : Nat) (h : W < l.length) (hp : p < 8 + (l[W]).length) : ∃ hF : Pl.G l W + p < (Pl.F l).length, (Pl.F l)[Pl.G l W + p] = (Pl.frameI l[W])[p]'(by rw [Pl.frameI_length]; exact hp) := by
  have hF : Pl.G l W + p < (Pl.F l).length := by
    have := Pl.G_mono l (show W + 1 ≤ l.length from h)
    rw [Pl.G_all l l.length (Nat.le_refl _), Pl.G_succ l W h] at this
    omega
  refine ⟨hF, ?_⟩
  have e : Pl.F l = Pl.F (l.take W) ++ (Pl.frameI l[W] ++ Pl.F (l.drop (W + 1))) := by
    conv => lhs; rw [Pl.F_split l W, List.drop_eq_getElem_cons h, Pl.F_cons]
  have hl : (Pl.F (l.take W)).length = Pl.G l W := rfl
  simp only [e]
  rw [List.getElem_append_right (by rw [hl]; omega)]
  simp only [hl, Nat.add_sub_cancel_left]
  rw [List.getElem_append_left (by rw [Pl.frameI_length]; omega)]
theorem spoilt_end (l : List (List Int)) (hl : l.length ≤ 12) (hx : ∀ x ∈ l, x.length ≤ 1000) (hb : ∀ x ∈ l, Pl.bytes x) (at_ W : Nat) (tz : Int) (ht : 0 ≤ tz ∧ tz < 256) (hW : W < l.length) (h1 : Pl.G l W ≤ at_) (h2 : at_ < Pl.G l (W + 1)) (hF : at_ < (Pl.F l).length) (hne : rd (Pl.F l) (at_ : Int) ≠ tz) (e : Nat) (he : 13 ≤ e) :
    chalklinelaw02_SealSpoilt.j3 (e + 1) l (at_ : Int) tz (Pl.F l) (W : Int) ((Pl.G l W : Nat) : Int) = some true := by
  have hFl : (Pl.F l).length ≤ 1008 * 12 := by have := G_small l hx l.length (Nat.le_refl _); rw [Pl.G_all l _ (Nat.le_refl _)] at this; omega
  rw [chalklinelaw02_SealSpoilt.j3]
  have w4 : wrap64 (((Pl.G l W : Nat) : Int) + 4) = ((Pl.G l W + 4 : Nat) : Int) := by rw [wrap_in _ (by omega) (by omega)]; omega
  rw [w4]
  by_cases h4 : (at_ : Int) < ((Pl.G l W + 4 : Nat) : Int)
  · rw [if_pos h4]
  rw [if_neg h4]
  have hcopy : chalklineref02_Copy.f (Pl.F l) = some (Pl.F l) := by
    unfold chalklineref02_Copy.f
    rw [if_pos (by omega)]
  rw [hcopy, Option.bind_some, if_pos (by omega), if_pos (by omega), Option.bind_some, Int.toNat_natCast]
  obtain ⟨p, rfl⟩ : ∃ p, at_ = Pl.G l W + p := ⟨at_ - Pl.G l W, by omega⟩
  rw [Pl.G_succ l W hW] at h2
  have hp : p < 8 + (l[W]).length := by omega
  have hxW := hx l[W] (List.getElem_mem hW)
  obtain ⟨hF', hat⟩ := spoilt_at l W p hW hp
  rw [rd_get (Pl.F l) _ hF', hat] at hne
  have hlen : ((Pl.F l).set (Pl.G l W + p) tz).length ≤ 100000000000 := by rw [List.length_set]; omega
  have hbad := Pl.openI_bad (Pl.F (l.take W)) l[W] (Pl.F (l.drop (W + 1))) (by omega) (hb _ (List.getElem_mem hW)) p (by omega) hp tz ht hne
  rw [sealScan _ hlen, Option.bind_some, show seal_Open.f ((Pl.F l).set (Pl.G l W + p) tz) ((Pl.G l W : Nat) : Int) = some (Pl.openI ((Pl.F l).set (Pl.G l W + p) tz) ((Pl.G l W : Nat) : Int)) from rfl, Option.bind_some, spoilt_split l W p hW hp]
  rw [if_pos (by omega), if_pos (by omega), Int.toNat_natCast]
  have hscan := Pl.scan_stop (l.take W) ((Pl.frameI l[W]).set p tz ++ Pl.F (l.drop (W + 1))) (fun x hx' => by have := hx x (List.mem_of_mem_take hx'); omega) (by rw [hbad]; decide)
  rw [hscan]
  show (chalklineref02_SameAll.f e (l.take W) (l.take W)).bind _ = _
  rw [sameAll_refl _ (by rw [List.length_take]; omega) _ (by rw [List.length_take]; omega), Option.bind_some, if_pos rfl]
  rw [if_pos (show (((Pl.F (l.take W)).length : Nat) : Int) = ((Pl.G l W : Nat) : Int) from rfl)]
  have hbad' : (Pl.openI (Pl.F (l.take W) ++ ((Pl.frameI l[W]).set p tz ++ Pl.F (l.drop (W + 1)))) ((Pl.G l W : Nat) : Int)).2.2 = 20 := hbad
  rw [hbad']
  rfl
theorem spoilt_loop (l : List (List Int)) (hl : l.length ≤ 12) (hx : ∀ x ∈ l, x.length ≤ 1000) (hb : ∀ x ∈ l, Pl.bytes x) (at_ W : Nat) (tz : Int) (ht : 0 ≤ tz ∧ tz < 256) (hW : W < l.length) (h1 : ∀ j, j ≤ W → Pl.G l j ≤ at_) (h2 : at_ < Pl.G l (W + 1)) (hF : at_ < (Pl.F l).length) (hne : rd (Pl.F l) (at_ : Int) ≠ tz) :
    ∀ (d i : Nat), i + d = W → ∀ e, 14 ≤ e → chalklinelaw02_SealSpoilt.l0 (d + 1 + e) l (at_ : Int) tz (Pl.F l) (E l l.length) (i : Int) ((Pl.G l i : Nat) : Int) = some true := by
  intro d
  induction d with
  | zero =>
    intro i hi e he
    obtain rfl : i = W := by omega
    obtain ⟨e, rfl⟩ : ∃ e', e = e' + 1 := ⟨e - 1, by omega⟩
    rw [show 0 + 1 + (e + 1) = (e + 1) + 1 by omega, chalklinelaw02_SealSpoilt.l0, E_length, if_pos (by omega), if_pos (by omega), E_rd l _ i (by omega), if_neg (by omega)]
    exact spoilt_end l hl hx hb at_ i tz ht hW (h1 i (Nat.le_refl _)) h2 hF hne e (by omega)
  | succ d ih =>
    intro i hi e he
    have hle := h1 (i + 1) (by omega)
    rw [show d + 1 + 1 + e = (d + 1 + e) + 1 by omega, chalklinelaw02_SealSpoilt.l0, E_length, if_pos (by omega), if_pos (by omega), E_rd l _ i (by omega), if_pos (by omega), wrap_one (by omega)]
    exact ih (i + 1) (by omega) e he
theorem SealSpoilt (l0 : List (List Int)) (a1 : Int) (a2 : Int) (hm : l0.length ≤ maxLen) (hw : ∀ x ∈ l0, ∀ y ∈ x, (Lit.int .u8 y).wf = true) (h1 : (Lit.int .i64 a1).wf = true) (h2 : (Lit.int .u8 a2).wf = true) : ∃ k, chalklinelaw02_SealSpoilt.f k l0 a1 a2 = some true := by
  refine ⟨100 + 1, ?_⟩
  have ht := wf_u8 h2
  unfold chalklinelaw02_SealSpoilt.f chalklinelaw02_live.f
  rw [Option.bind_some, if_pos rfl]
  obtain ⟨b, hb, hb2⟩ := few l0 (by simp only [maxLen] at hm; omega)
  rw [hb _ (by omega), Option.bind_some]
  cases b with
  | false => rw [if_neg (by decide), chalklinelaw02_SealSpoilt.j0, if_pos rfl]
  | true =>
    obtain ⟨hl, hx⟩ := hb2 rfl
    have hbs : ∀ x ∈ l0, Pl.bytes x := fun x hx' y hy => wf_u8 (hw x hx' y hy)
    rw [if_pos rfl, chalklinelaw02_SealSpoilt.j0]
    by_cases hneg : a1 < 0
    · rw [if_pos (by simpa using hneg)]
    rw [if_neg (by simpa using hneg), framed l0 hl hx _ (by omega), Option.bind_some, if_pos rfl]
    have hFl : (Pl.F l0).length ≤ 1008 * 12 := by have := G_small l0 hx l0.length (Nat.le_refl _); rw [Pl.G_all l0 _ (Nat.le_refl _)] at this; omega
    obtain ⟨a, rfl⟩ := Int.eq_ofNat_of_zero_le (show 0 ≤ a1 by omega)
    show (if (a : Int) ≥ ((Pl.F l0).length : Int) then chalklinelaw02_SealSpoilt.j1 100 l0 a a2 (Pl.F l0) (E l0 l0.length) true true else _) = _
    by_cases hge : (a : Int) ≥ ((Pl.F l0).length : Int)
    · rw [if_pos hge]; show chalklinelaw02_SealSpoilt.j1 (99 + 1) l0 a a2 (Pl.F l0) (E l0 l0.length) true true = _; rw [chalklinelaw02_SealSpoilt.j1, if_pos rfl]
    rw [if_neg hge]
    show (if 0 ≤ (a : Int) then (if (a : Int) < ((Pl.F l0).length : Int) then chalklinelaw02_SealSpoilt.j1 (99 + 1) l0 a a2 (Pl.F l0) (E l0 l0.length) true (rd (Pl.F l0) a == a2) else none) else none) = _
    rw [if_pos (by omega), if_pos (by omega), chalklinelaw02_SealSpoilt.j1]
    by_cases heq : rd (Pl.F l0) (a : Int) = a2
    · rw [if_pos (by simpa using heq)]
    rw [if_neg (by simpa using heq)]
    obtain ⟨W, hW, h3, h4⟩ := Pl.place l0 a
    have hWl : W < l0.length := by
      rcases Nat.lt_or_ge W l0.length with h | h
      · exact h
      · have := h3 l0.length h
        rw [Pl.G_all l0 _ (Nat.le_refl _)] at this
        omega
    have h := spoilt_loop l0 hl hx hbs a W a2 ht hWl h3 (h4 (W + 1) (by omega) (by omega)) (by omega) heq W 0 (by omega) (98 - W) (by omega)
    rw [show W + 1 + (98 - W) = 99 by omega, Pl.G_zero] at h
    exact h
end Go.Proofs.Ytkmpjdccogolkaa.Pure
