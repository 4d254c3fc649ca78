/- SealBack: what Frame framed, Scan gives back; a cut of it gives back the whole frames; every list of byte slices and cut. -/
import Derived.Test.YtkmpjdccogolkaaFewP
import Derived.Test.YtkmpjdccogolkaaPr21
namespace Go.Proofs.Ytkmpjdccogolkaa.Pure
open Go.RowKit Go.Proofs.Ytkmpjdccogolkaa.Pr Go.Proofs.YtkmpjdccogolkaaW.PrintWords Go.Proofs.YtkmpjdccogolkaaW.PrintLast
theorem back_loop (l : List (List Int)) (hl : l.length ≤ 12) (hx : ∀ x ∈ l, x.length ≤ 1000) (c W : Nat) (hW : W ≤ l.length) (h1 : ∀ j, j ≤ W → Pl.G l j ≤ c) (h2 : ∀ j, W < j → j ≤ l.length → c < Pl.G l j) (hc : c ≤ (Pl.F l).length)
    (hs : Pl.scanI ((Pl.F l).take c) = (l.take W, ((Pl.G l W : Nat) : Int))) : ∀ (d i : Nat), i + d = l.length → ∀ e, 13 ≤ e →
    chalklinelaw02_SealBack.l0 (d + 1 + e) l (c : Int) (Pl.F l) ((min i W : Nat) : Int) ((Pl.G l (min i W) : Nat) : Int) (E l l.length) ((E l l.length).length : Int) (i : Int) = some true := by
  have hFl : (Pl.F l).length ≤ 1008 * 12 := by have := G_small l hx l.length (Nat.le_refl _); rw [Pl.G_all l _ (Nat.le_refl _)] at this; omega
  intro d
  induction d with
  | zero =>
    intro i hi e he
    obtain rfl : i = l.length := by omega
    rw [show 0 + 1 + e = e + 1 by omega, chalklinelaw02_SealBack.l0, E_length, Nat.min_eq_right hW, if_neg (by omega), if_pos (by omega), if_pos (by omega), Int.toNat_natCast, sealScan _ (by rw [List.length_take]; omega), Option.bind_some, hs, if_pos (by omega), if_pos (by omega), Int.toNat_natCast]
    rw [sameAll_refl _ (by rw [List.length_take]; omega) _ (by rw [List.length_take]; omega), Option.bind_some, if_pos rfl]
    exact congrArg some (beq_self_eq_true _)
  | succ d ih =>
    intro i hi e he
    have hG := G_small l hx (i + 1) (by omega)
    rw [show d + 1 + 1 + e = (d + 1 + e) + 1 by omega, chalklinelaw02_SealBack.l0]
    have ih' := ih (i + 1) (by omega) e he
    rw [E_length] at ih' ⊢
    rw [if_pos (by omega), if_pos (by omega), if_pos (by omega), E_rd l _ i (by omega), wrap_one (i := i) (by omega)]
    rcases Nat.lt_or_ge i W with h | h
    · have hle := h1 (i + 1) (by omega)
      rw [if_pos (by omega), Nat.min_eq_left (by omega), wrap_one (by omega)]
      rwa [Nat.min_eq_left (by omega)] at ih'
    · have hlt := h2 (i + 1) (by omega) (by omega)
      rw [if_neg (by omega), Nat.min_eq_right (by omega)]
      rwa [Nat.min_eq_right (by omega)] at ih'
theorem cut_scan (l : List (List Int)) (hx : ∀ x ∈ l, x.length ≤ 1000) (c W : Nat) (hW : W ≤ l.length) (h1 : ∀ j, j ≤ W → Pl.G l j ≤ c) (h2 : ∀ j, W < j → j ≤ l.length → c < Pl.G l j) : Pl.scanI ((Pl.F l).take c) = (l.take W, ((Pl.G l W : Nat) : Int)) := by
  have hg := h1 W (Nat.le_refl _)
  have e1 : (Pl.F l).take c = Pl.F (l.take W) ++ (Pl.F (l.drop W)).take (c - Pl.G l W) := by
    conv => lhs; rw [Pl.F_split l W, List.take_append]
    rw [List.take_of_length_le (show (Pl.F (l.take W)).length ≤ c from hg)]
    rfl
  rw [e1]
  refine Pl.scan_stop (l.take W) _ (fun x hx' => by have := hx x (List.mem_of_mem_take hx'); omega) ?_
  rcases Nat.lt_or_ge W l.length with h | h
  · have h3 := h2 (W + 1) (by omega) (by omega)
    rw [Pl.G_succ l W h] at h3
    have hb := hx l[W] (List.getElem_mem h)
    rw [List.drop_eq_getElem_cons h, Pl.F_cons, List.take_append_of_le_length (by rw [Pl.frameI_length]; omega)]
    exact Pl.openI_cut _ _ (by omega) _ (by omega)
  · rw [List.drop_eq_nil_of_le h, Pl.F_nil, List.take_nil]
    exact Pl.openI_end _
theorem whole_scan (l : List (List Int)) (hx : ∀ x ∈ l, x.length ≤ 1000) : Pl.scanI (Pl.F l) = (l, (((Pl.F l).length : Nat) : Int)) := by
  have := Pl.scan_stop l [] (fun x hx' => by have := hx x hx'; omega) (Pl.openI_end _)
  rwa [List.append_nil] at this
theorem SealBack (l0 : List (List Int)) (a1 : Int) (hm : l0.length ≤ maxLen) (hw : ∀ x ∈ l0, ∀ y ∈ x, (Lit.int .u8 y).wf = true) (h1 : (Lit.int .i64 a1).wf = true) : ∃ k, chalklinelaw02_SealBack.f k l0 a1 = some true := by
  refine ⟨100 + 1, ?_⟩
  unfold chalklinelaw02_SealBack.f chalklinelaw02_live.f
  rw [Option.bind_some, if_pos rfl]
  obtain ⟨b, hb, hb2⟩ := few l0 (by simp only [maxLen] at hm; omega)
  rw [hb _ (by omega), Option.bind_some]
  cases b with
  | false => rw [if_neg (by decide), chalklinelaw02_SealBack.j0, if_pos rfl]
  | true =>
    obtain ⟨hl, hx⟩ := hb2 rfl
    rw [if_pos rfl, chalklinelaw02_SealBack.j0]
    by_cases hneg : a1 < 0
    · rw [if_pos (by simpa using hneg)]
    rw [if_neg (by simpa using hneg), framed l0 hl hx _ (by omega), Option.bind_some, if_pos rfl]
    have hFl : (Pl.F l0).length ≤ 1008 * 12 := by have := G_small l0 hx l0.length (Nat.le_refl _); rw [Pl.G_all l0 _ (Nat.le_refl _)] at this; omega
    show (seal_Scan.f (Pl.F l0)).bind _ = _
    rw [sealScan _ (by omega), Option.bind_some, whole_scan l0 hx]
    show (chalklineref02_SameAll.f 100 l0 l0).bind _ = _
    rw [sameAll_refl _ (by omega) _ (by omega), Option.bind_some, if_pos rfl]
    show chalklinelaw02_SealBack.j1 (99 + 1) l0 a1 (Pl.F l0) (E l0 l0.length) ((((Pl.F l0).length : Nat) : Int) != ((Pl.F l0).length : Int)) = _
    rw [bne_self_eq_false, chalklinelaw02_SealBack.j1, if_neg (by decide), wrap_one (by omega), if_neg (by omega)]
    obtain ⟨a, rfl⟩ := Int.eq_ofNat_of_zero_le (show 0 ≤ a1 by omega)
    have hmod : Int.tmod (a : Int) (((Pl.F l0).length + 1 : Nat) : Int) = ((a % ((Pl.F l0).length + 1) : Nat) : Int) := rfl
    rw [hmod]
    have hlt : a % ((Pl.F l0).length + 1) < (Pl.F l0).length + 1 := Nat.mod_lt _ (by omega)
    generalize a % ((Pl.F l0).length + 1) = c at hlt
    obtain ⟨W, hW, h1, h2⟩ := Pl.place l0 c
    have h := back_loop l0 hl hx c W hW h1 h2 (by omega) (cut_scan l0 hx c W hW h1 h2) l0.length 0 (by omega) (98 - l0.length) (by omega)
    rw [show l0.length + 1 + (98 - l0.length) = 99 by omega, Nat.min_eq_left (by omega), Pl.G_zero] at h
    exact h
end Go.Proofs.Ytkmpjdccogolkaa.Pure
