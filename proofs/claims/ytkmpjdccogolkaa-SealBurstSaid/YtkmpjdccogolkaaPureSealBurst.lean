/- SealBurst: a change of at most four consecutive bytes changes the checksum, unless it is none; every byte slice, place and change. -/
import Derived.Test.YtkmpjdccogolkaaPureSealThree
import Derived.Test.YtkmpjdccogolkaaPr15
namespace Go.Proofs.Ytkmpjdccogolkaa.Pure
open Go.RowKit Go.Proofs.Ytkmpjdccogolkaa.Pr Go.Proofs.YtkmpjdccogolkaaW.PrintWords Go.Proofs.YtkmpjdccogolkaaW.PrintLast
theorem xorL_snoc : ∀ (l : List Int) (m : List Nat) (x : Int) (c : Nat), m.length = l.length → Pl.xorL (l ++ [x]) (m ++ [c]) = Pl.xorL l m ++ [((x.toNat ^^^ c : Nat) : Int)]
  | [], [], _, _, _ => rfl
  | y :: l, z :: m, x, c, h => by
    simp only [List.cons_append, Pl.xorL]
    rw [xorL_snoc l m x c (by simpa using h)]
  | [], _ :: _, _, _, h => by simp at h
  | _ :: _, [], _, _, h => by simp at h
theorem xorL_length : ∀ (l : List Int) (m : List Nat), m.length = l.length → (Pl.xorL l m).length = l.length
  | [], [], _ => rfl
  | y :: l, z :: m, h => by
    simp only [Pl.xorL, List.length_cons]
    rw [xorL_length l m (by simpa using h)]
  | [], _ :: _, h => by simp at h
  | _ :: _, [], h => by simp at h
theorem burst_end (pre mid tl : List Int) (cs : List Nat) (ch : Bool) (hm : Pl.bytes mid) (hc : ∀ c ∈ cs, c < 256) (hl : cs.length = mid.length) (h4 : cs.length ≤ 4) (hch : ch = true ↔ ∃ c ∈ cs, c ≠ 0) :
    ((seal_Sum.f (pre ++ Pl.xorL mid cs ++ tl)).bind fun t165 => ((seal_Sum.f (pre ++ mid ++ tl)).bind fun t166 => (some ((t165 != t166) == ch)))) = some true := by
  have sm : ∀ l, seal_Sum.f l = some (Pl.sumI l) := fun _ => rfl
  rw [sm, Option.bind_some, sm, Option.bind_some]
  have hb := Pl.burst pre mid tl cs hm hc hl h4
  congr 1
  cases ch with
  | true =>
    obtain ⟨c, h1, h2⟩ := hch.1 rfl
    have hne : Pl.sumI (pre ++ Pl.xorL mid cs ++ tl) ≠ Pl.sumI (pre ++ mid ++ tl) := fun h => h2 (hb.1 h c h1)
    rw [show (Pl.sumI (pre ++ Pl.xorL mid cs ++ tl) != Pl.sumI (pre ++ mid ++ tl)) = true from bne_iff_ne.2 hne]
    rfl
  | false =>
    have he : Pl.sumI (pre ++ Pl.xorL mid cs ++ tl) = Pl.sumI (pre ++ mid ++ tl) := hb.2 fun c h1 => Classical.byContradiction fun h2 => by
      have := hch.2 ⟨c, h1, h2⟩
      cases this
    rw [he, bne_self_eq_false]
    rfl
theorem set_at (P tl : List Int) (y z : Int) : (P ++ y :: tl).set P.length z = P ++ z :: tl := by simp
theorem rd_at (P tl : List Int) (y : Int) : rd (P ++ y :: tl) (P.length : Int) = y := by simp [rd, List.getD_eq_getElem?_getD]
theorem burst_loop (x2 : Int) : ∀ (d i : Nat) (pre mid tl : List Int) (cs : List Nat) (ch : Bool), i + d = 4 → mid.length = i → cs.length = i → Pl.bytes mid → Pl.bytes tl → (∀ c ∈ cs, c < 256) →
    (ch = true ↔ ∃ c ∈ cs, c ≠ 0) → (pre ++ mid ++ tl).length ≤ 2000 → ∀ e,
    chalklinelaw02_SealBurst.l0 (d + 1 + e) (pre ++ mid ++ tl) (pre.length : Int) x2 (pre ++ Pl.xorL mid cs ++ tl) ch (i : Int) = some true := by
  intro d
  induction d with
  | zero =>
    intro i pre mid tl cs ch hi hm hc bm bt hc4 hch hL e
    rw [show 0 + 1 + e = e + 1 by omega]
    unfold chalklinelaw02_SealBurst.l0
    rw [if_neg (by omega)]
    exact burst_end pre mid tl cs ch bm hc4 (by omega) (by omega) hch
  | succ d ih =>
    intro i pre mid tl cs ch hi hm hc bm bt hc4 hch hL e
    rw [show d + 1 + 1 + e = (d + 1 + e) + 1 by omega]
    unfold chalklinelaw02_SealBurst.l0
    have hx := xorL_length mid cs (by omega)
    have hL' : pre.length + i + tl.length ≤ 2000 := by simpa [hm, Nat.add_assoc] using hL
    have w1 : wrap64 ((pre.length : Int) + (i : Int)) = ((pre.length + i : Nat) : Int) := by rw [wrap_in _ (by omega) (by omega)]; omega
    have w2 : wrap64 (8 * (i : Int)) = ((8 * i : Nat) : Int) := by rw [wrap_in _ (by omega) (by omega)]; omega
    have hP : (pre ++ Pl.xorL mid cs).length = pre.length + i := by rw [List.length_append, hx, hm]
    rw [if_pos (by omega), w1, w2]
    cases tl with
    | nil =>
      rw [if_neg (by rw [List.append_nil, hP]; omega)]
      exact burst_end pre mid [] cs ch bm hc4 (by omega) (by omega) hch
    | cons y tl =>
      rw [if_pos (by rw [List.length_append, hP, List.length_cons]; omega), if_pos (Int.natCast_nonneg _), if_pos (Int.natCast_nonneg _)]
      have by1 := bt y List.mem_cons_self
      generalize hcc : shr .u32 x2 ((8 * i : Nat) : Int) % 256 = c
      have hc256 : 0 ≤ c ∧ c < 256 := by omega
      obtain ⟨n, rfl⟩ := Int.eq_ofNat_of_zero_le hc256.1
      rw [Int.toNat_natCast, ← hP, rd_at, set_at, Option.bind_some, xor8 _ _ by1 hc256, Int.toNat_natCast, wrap_one (by omega)]
      have hyn := Pl.xor_byte (a := y.toNat) (b := n) (by omega) (by omega)
      have key : ∀ ch' : Bool, (ch' = true ↔ ∃ c ∈ cs ++ [n], c ≠ 0) → chalklinelaw02_SealBurst.l0 (d + 1 + e) (pre ++ mid ++ y :: tl) (pre.length : Int) x2 (pre ++ Pl.xorL mid cs ++ ((y.toNat ^^^ n : Nat) : Int) :: tl) ch' ((i + 1 : Nat) : Int) = some true := by
        intro ch' hch'
        have h := ih (i + 1) pre (mid ++ [y]) tl (cs ++ [n]) ch' (by omega) (by simp [hm]) (by simp [hc])
          (Pl.bytes_append bm (fun z hz => by rw [List.mem_singleton] at hz; subst hz; exact by1)) (fun z hz => bt z (List.mem_cons_of_mem _ hz))
          (fun z hz => by rcases List.mem_append.1 hz with h | h; · exact hc4 z h
                          · rw [List.mem_singleton] at h; omega) hch' (by simpa [hm, Nat.add_assoc, Nat.add_comm] using hL) e
        rw [xorL_snoc _ _ _ _ (by omega)] at h
        simpa only [List.append_assoc, List.cons_append, List.nil_append] using h
      cases ch with
      | true =>
        rw [if_pos rfl]
        obtain ⟨c, h1, h2⟩ := hch.1 rfl
        exact key true ⟨fun _ => ⟨c, List.mem_append_left _ h1, h2⟩, fun _ => rfl⟩
      | false =>
        rw [if_neg (by decide)]
        refine key _ ⟨fun h => ⟨n, by simp, ?_⟩, ?_⟩
        · intro h0; subst h0; simp at h
        · rintro ⟨c, h1, h2⟩
          rcases List.mem_append.1 h1 with h | h
          · exact absurd (hch.2 ⟨c, h, h2⟩) (by decide)
          · rw [List.mem_singleton] at h
            subst h
            simp
            omega
theorem SealBurst : chalklinelaw02_SealBurst.Pure := by
  intro l0 a1 a2 _ _ hb _ _
  have hb' : Pl.bytes l0 := fun x hx => wf_u8 (hb x hx)
  refine ⟨5 + 1, ?_⟩
  unfold chalklinelaw02_SealBurst.f chalklinelaw02_live.f
  simp only [Option.bind_some, if_true]
  by_cases h1 : (l0.length : Int) > 2000
  · rw [if_pos h1]; rfl
  rw [if_neg h1]
  by_cases h2 : a1 < 0
  · rw [if_pos h2]; rfl
  rw [if_neg h2]
  simp only [chalklinelaw02_SealBurst.j0]
  by_cases h3 : a1 > (l0.length : Int)
  · rw [if_pos (by simpa using h3)]
  rw [if_neg (by simpa using h3)]
  have hcopy : chalklineref02_Copy.f l0 = some l0 := by
    unfold chalklineref02_Copy.f
    rw [if_pos (by omega)]
  rw [hcopy, Option.bind_some]
  obtain ⟨a, rfl⟩ := Int.eq_ofNat_of_zero_le (show 0 ≤ a1 by omega)
  have h := burst_loop a2 4 0 (l0.take a) [] (l0.drop a) [] false (by omega) rfl rfl (fun x hx => by cases hx) (Pl.bytes_drop hb' a) (fun x hx => by cases hx) (by simp) (by simp; omega) 0
  rw [List.length_take, Nat.min_eq_left (by omega)] at h
  simpa only [Pl.xorL, List.append_nil, List.take_append_drop, Int.natCast_zero] using h
end Go.Proofs.Ytkmpjdccogolkaa.Pure
