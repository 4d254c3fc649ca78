-- Written by this session's own program (wip/pp.sh: a patched run of the kit's print, with contracts of my own).
import Derived.Test.YtodobnmfgcmnnaaPr0
import Derived.Test.YtodobnmfgcmnnaaPr2
import Derived.Test.YtodobnmfgcmnnaaGrpW
namespace Go.Proofs.Ytodobnmfgcmnnaa.Pr
open Go.RowKit Go.Proofs.YtodobnmfgcmnnaaW.PrintWords Go.Proofs.YtodobnmfgcmnnaaW.PrintLast Go.Proofs.YtodobnmfgcmnnaaW.PrintMore
attribute [local go_sem] max2_int min2_int max_two min_two max_three min_three max_four min_four   -- for this text's walks alone
set_option linter.unusedVariables false
set_option linter.unusedSimpArgs false

-- HAND Derived.Test.YtodobnmfgcmnnaaGrpW
/-! ### octet_PutInt: function 15 -/
attribute [local go_sem] Oper.semAt_some
def octet_PutInt.f (l0 : List Int) (a1 : Int) : Option (List Int) := if Oc.ok64 a1 = true ∧ l0.length ≤ 1000000000000 then some (Oc.putI l0 a1) else none
set_option maxHeartbeats 4000000 in
set_option maxRecDepth 100000 in
theorem octet_PutInt.calls (A0 : Option Addr) (c0 : Nat) (l0 : List Int) (a1 : Int) (r : List Int) (w : World) (hr0 : Kd.C (Kd.int .u8) w A0 l0.length l0) (hc0 : l0.length ≤ c0) (h : octet_PutInt.f l0 a1 = some r) :
    Calls Try.prog 15 #[.slice A0 l0.length c0, .int .i64 a1] w fun e w' => ∃ v0_ : Value, e = .returned (v0_) ∧ Kd.R (Kd.int .u8) 5 w' w.heap.size (fun _ => True) v0_ r ∧ Below w.heap.size w w' := by
  unfold octet_PutInt.f at h
  by_cases hl : Oc.ok64 a1 = true ∧ l0.length ≤ 1000000000000
  case neg => rw [if_neg hl] at h; cases h
  rw [if_pos hl] at h
  obtain rfl := Option.some.inj h
  clear h
  have hz := Oc.zz_lt a1 hl.1
  have h10 := Oc.grp_ten _ hz
  have HO := Aside0.mk hl
  have HR := Aside0.mk hr0
  have HC := Aside0.mk hc0
  clear hl hr0 hc0 hz
  have H10 := Aside0.mk h10
  clear h10
  refine (callsIn_wide (n := 9)).1 ?_
  refine callsIn_of_wp_marks Try.func15 rfl trivial ?_
  simp only [Try.ntmps15, List.size_toArray, List.length_cons, List.length_nil, Nat.reduceAdd, Nat.reduceSub, Array.replicate_succ, Array.replicate_zero, List.push_toArray, List.append_toArray, List.nil_append, List.cons_append]
  gi_wp2
  refine ⟨trivial, callsIn_wide.2 ((slices_Clone_byte_byte.calls A0 c0 l0 l0 _ (Kd.C_below HR.out (below_alloc (Below.refl _ _) _)) HC.out (by unfold slices_Clone_byte_byte.f; rw [if_pos (by have := HO.out.2; omega)])).mono ?_)⟩
  rintro e w2 ⟨v2, rfl, ho2, hb2⟩
  simp only []
  obtain ⟨A2, c2, rfl⟩ := Kd.R_slice ho2
  have hs2 : w.heap.size + 1 ≤ w2.heap.size := by have := hb2.size; simpa using this
  have hcB : w2.cell? ⟨w.heap.size, 0, none⟩ = some (.slice A0 l0.length c0) := (World.cell?_of_block (hb2.block _ (by simp))).trans (by simp [go_sem])
  have hfB : w2.frozen? ⟨w.heap.size, 0, none⟩ = false := (World.frozen?_of_block (hb2.block _ (by simp))).trans (by simp [go_sem])
  have HB2 := Aside0.mk (below_step (below_alloc (Below.refl w.heap.size w) _) hb2)
  have HO2 := Aside0.mk (Kd.R_lower ho2 (base' := w.heap.size + 1) (by simp))
  clear hb2 ho2
  gi_wp2
  refine ⟨trivial, callsIn_wide.2 ((Gw.groups a1 HO.out.1 _).mono ?_)⟩
  rintro e w3 ⟨rfl, rfl⟩
  simp only []
  gi_wp2
  obtain ⟨W3, hW3⟩ : ∃ W3, w2.setCell ⟨w.heap.size, 0, none⟩ (.slice A2 l0.length c2) = W3 := ⟨_, rfl⟩
  rw [hW3]
  obtain ⟨U, hU⟩ : ∃ U, W3.heap.size = U := ⟨_, rfl⟩
  rw [hU]
  have hU2 : w2.heap.size = U := by rw [← hU, ← hW3]; simp
  have hne : ∀ k, k ≠ w.heap.size → W3.heap[k]? = w2.heap[k]? := fun k hk => by rw [← hW3]; exact Below.heap_setCell _ _ _ _ hk
  have hc3 : W3.cell? ⟨w.heap.size, 0, none⟩ = some (.slice A2 l0.length c2) := by rw [← hW3]; exact World.cell?_setCell_same' _ _ _ (by rw [hcB]; rfl)
  have hf3 : W3.frozen? ⟨w.heap.size, 0, none⟩ = false := by rw [← hW3, World.frozen?_setCell]; exact hfB
  have hb3 : Below w.heap.size w W3 := by rw [← hW3]; exact HB2.out.setCell (Nat.le_refl _) _
  have hR2 := Kd.R_bound HO2.out
  rw [hU2] at hR2
  have hR3 : Kd.R (Kd.int .u8) 5 W3 w.heap.size (fun k => k ≠ w.heap.size ∧ k < U) (.slice A2 l0.length c2) l0 :=
    Kd.R_lower (Kd.R_mono (Kd.R_step hR2 (fun k hk _ => hne k (by have := hk.2.1; omega))) (fun k hk => ⟨by have := hk.2.1; omega, hk.2.2.1⟩)) (by omega)
  have hUB : w.heap.size < U := by omega
  clear hR2 HO2 HB2 hne hcB hfB hs2 hW3 hU2
  have hD : (W3.alloc (.cells #[.int .u64 ((Oc.zz a1 : Nat) : Int)] 45)).heap.size = U + 1 := by simp [hU]
  refine Ra.wpIn_rangeFunc_law (X := Int × List Int × Nat) (U + 1) hD (gf := 34) (lb := #[.pointer (some ⟨U, 0, none⟩)]) ?hg (fun _ _ => by simp [go_sem]) (fun x => #[.int .u8 x.1]) (fun _ => rfl)
    (fun x W => Gw.Gm w.heap.size w.heap.size U (U + 1) w x.2.1 x.2.2 W ∧ x.2.1.length ≤ 100000000000000)
    (fun x _ W => Gw.Gm w.heap.size w.heap.size U (U + 1) w (x.2.1 ++ [x.1]) x.2.2 W)
    (fun W => ∃ u', Gw.Gm w.heap.size w.heap.size U (U + 1) w (l0 ++ Oc.grp (Oc.zz a1)) u' W) ?hround ?hiter ?hdone
  case hg => simp [go_sem]
  case hround =>
    rintro rdy bsy m ⟨c, z, u⟩ W ⟨hM, hz⟩ hL
    dsimp only at hM hz
    dsimp only
    simp only [List.zip_toArray, List.zip_cons_cons, List.zip_nil_left, List.zip_nil_right, List.foldl_toArray', List.foldl_toArray, List.foldl_cons, List.foldl_nil, List.setIfInBounds_toArray, List.set_cons_succ, List.set_cons_zero]
    gi_wp2
    refine ⟨hL, ?_⟩
    obtain ⟨v, hv, hS⟩ := hM.v
    have hsz := hM.sz
    have hord := hM.ord
    obtain ⟨W2, hW2⟩ : ∃ W2, W.putObj (U + 1 + 1) bsy = W2 := ⟨_, rfl⟩
    have hk2 : ∀ k, k ≠ U + 1 + 1 → W2.heap[k]? = W.heap[k]? := fun k hk => by rw [← hW2]; exact World.putObj_heap_other hk
    have hs2 : W2.heap.size = W.heap.size := by rw [← hW2]; simp
    have hc : W2.cell? ⟨w.heap.size, 0, none⟩ = some v := (World.cell?_of_block (hk2 _ (by show w.heap.size ≠ U + 1 + 1; omega))).trans hv
    have hL2 : W2.heap[U + 1 + 1]? = some bsy := by rw [← hW2]; exact World.putObj_heap_same (by omega)
    have hS2 := Kd.R_step (w1 := W2) hS (fun k hk1 _ => hk2 k (by omega))
    obtain ⟨A, cc, rfl⟩ := Kd.R_slice hS
    obtain ⟨v1, w6, hrun, hS6, hg6⟩ := Gw.R_append_run (P := Try.prog) (Kd.int .u8) (W := W2) w.heap.size 22 22 5 (.int .u8 0) 1 Try.underlying22 info5 rfl (by decide) (by omega) (.slice A z.length cc) z c [.int .u8 c] (fun k => k ≠ w.heap.size ∧ k ≠ U ∧ k ≠ U + 1 ∧ k ≠ U + 1 + 1) (fun _ => False)
      rfl (fun _ h => h.elim) (fun k hk => ⟨by omega, by omega, by omega, by omega⟩) hS2 (by omega) (by omega)
    have hvb : ∀ k, (Value.slice A z.length cc).ownBlock = some k → w.heap.size ≤ k ∧ k ≠ w.heap.size ∧ k ≠ U ∧ k ≠ U + 1 ∧ k ≠ U + 1 + 1 := fun k e => ⟨Kd.R_base hS2 k e, hS2.1 k e⟩
    have hfin := Gw.Gm.put (rdy := rdy) (bsy := bsy) hM (by rw [hW2]; exact hg6) hvb hS6
    have hk6 : ∀ k, k < U + 1 + 1 + 1 → some k ≠ (Value.slice A z.length cc).ownBlock → w6.heap[k]? = W2.heap[k]? := fun k hk hne => hg6.block k (by omega) hne
    have nB : some w.heap.size ≠ (Value.slice A z.length cc).ownBlock := fun e => (hvb _ e.symm).2.1 rfl
    have nL : some (U + 1 + 1) ≠ (Value.slice A z.length cc).ownBlock := fun e => (hvb _ e.symm).2.2.2.2 rfl
    have hc6 : w6.cell? ⟨w.heap.size, 0, none⟩ = some (.slice A z.length cc) := (World.cell?_of_block (hk6 _ (by show w.heap.size < _; omega) nB)).trans hc
    have hf6 : w6.frozen? ⟨w.heap.size, 0, none⟩ = false := ((World.frozen?_of_block (hk6 _ (by show w.heap.size < _; omega) nB)).trans (World.frozen?_of_block (hk2 _ (by show w.heap.size ≠ U + 1 + 1; omega)))).trans hM.f
    have hL6 : (w6.setCell ⟨w.heap.size, 0, none⟩ v1).heap[U + 1 + 1]? = some bsy :=
      ((Below.heap_setCell _ _ _ _ (by show U + 1 + 1 ≠ w.heap.size; omega)).trans (hk6 _ (by omega) nL)).trans hL2
    rw [hW2]
    obtain ⟨A1, c1, rfl⟩ := Kd.R_slice hS6
    generalize (z ++ [c]).length = n1 at *
    clear hS6 hg6 hS2 hS hk2 hk6 hM hW2 hv hvb nB nL hb3 hR3 hc3 hf3 hD
    have hrunA := Aside0.mk hrun
    have hfinA := Aside0.mk hfin
    have hL6A := Aside0.mk hL6
    clear hrun hfin hL6 hs2 hU
    gi_wp2_with (gi_at_builtin; refine Ra.wpListIn_append_run rfl (.tmp 11) (.tmp 13) 22 rfl rfl rfl hrunA.out ?_)
    exact ⟨hL6A.out, hfinA.out⟩
  case hiter =>
    intro rdy m hy
    simp only [List.append_toArray, List.cons_append, List.nil_append]
    obtain ⟨W1, hW1⟩ : ∃ W1, ((W3.alloc (.cells #[.int .u64 ((Oc.zz a1 : Nat) : Int)] 45)).alloc (.deferred (some []))).alloc rdy = W1 := ⟨_, rfl⟩
    have hold : ∀ k, k < U → W1.heap[k]? = W3.heap[k]? := fun k hk => by
      rw [← hW1]; exact ((Below.heap_alloc _ _ _ (by simp; omega)).trans (Below.heap_alloc _ _ _ (by simp; omega))).trans (Below.heap_alloc _ _ _ (by omega))
    have hL1 : W1.heap[U + 1 + 1]? = some rdy := by
      rw [← hW1]; have := World.alloc_heap_new ((W3.alloc (.cells #[.int .u64 ((Oc.zz a1 : Nat) : Int)] 45)).alloc (.deferred (some []))) rdy; simpa [hU] using this
    have hD1 : W1.heap[U + 1]? = some (.deferred (some [])) := by
      have := World.alloc_heap_new (W3.alloc (.cells #[.int .u64 ((Oc.zz a1 : Nat) : Int)] 45)) (.deferred (some []))
      rw [hD] at this
      rw [← hW1]
      exact (Below.heap_alloc _ _ _ (by simp; omega)).trans this
    have hu1 : W1.heap[U]? = some (.cells #[.int .u64 ((Oc.zz a1 : Nat) : Int)] 45) := by
      have := World.alloc_heap_new W3 (.cells #[.int .u64 ((Oc.zz a1 : Nat) : Int)] 45)
      rw [hU] at this
      rw [← hW1]
      exact ((Below.heap_alloc _ _ _ (by simp; omega)).trans (Below.heap_alloc _ _ _ (by simp; omega))).trans this
    have hs1 : W1.heap.size = U + 3 := by rw [← hW1]; simp [hU]
    have hM1 : Gw.Gm w.heap.size w.heap.size U (U + 1) w l0 (Oc.zz a1) W1 :=
      ⟨⟨_, (World.cell?_of_block (hold _ (by show w.heap.size < U; omega))).trans hc3, Kd.R_mono (Kd.R_step hR3 (fun k hk _ => hold k hk.2)) (fun k hk => ⟨hk.1, by omega, by omega, by omega⟩)⟩,
        (World.frozen?_of_block (hold _ (by show w.heap.size < U; omega))).trans hf3, by simp [World.cell?, hu1], by simp [World.frozen?, hu1], hD1,
        by rw [← hW1]; exact below_alloc (below_alloc (below_alloc hb3 _) _) _, by omega, by omega⟩
    rw [hW1]
    exact Gw.iter w.heap.size w.heap.size U (U + 1) w l0 (Oc.zz a1) (by have := HO.out.2; have := H10.out; omega) rdy m W1 hM1 hL1 hy
  case hdone =>
    rintro o W ⟨u', hM⟩
    obtain ⟨v, hv, hS⟩ := hM.v
    obtain ⟨A, c, rfl⟩ := Kd.R_slice hS
    obtain ⟨W4, hW4⟩ : ∃ W4, W.putObj (U + 1 + 1) o = W4 := ⟨_, rfl⟩
    have hk : ∀ k, k ≠ U + 1 + 1 → W4.heap[k]? = W.heap[k]? := fun k hk => by rw [← hW4]; exact World.putObj_heap_other hk
    have hc : W4.cell? ⟨w.heap.size, 0, none⟩ = some (.slice A (l0 ++ Oc.grp (Oc.zz a1)).length c) := (World.cell?_of_block (hk _ (by show w.heap.size ≠ _; omega))).trans hv
    have hD4 : W4.heap[U + 1]? = some (.deferred (some [])) := (hk _ (by omega)).trans hM.dd
    have hS4 := Kd.R_step (w1 := W4) hS (fun k hk1 _ => hk k (by omega))
    have hb4 : Below w.heap.size w W4 := by rw [← hW4]; exact hM.hb.grown (grownBy_putObj' W _ o) hM.hb.size (fun k e => by cases e; omega)
    rw [hW4]
    clear hk hW4 hS hv hM hc3 hf3 hb3 hR3 hD hU
    have HS := Aside0.mk hS4
    have HB := Aside0.mk hb4
    have HD := Aside0.mk hD4
    clear hS4 hb4 hD4
    generalize hn : (l0 ++ Oc.grp (Oc.zz a1)).length = n at *
    have HN := Aside0.mk hn
    clear hn
    gi_wp2
    refine ⟨by simp, .inl ⟨_, _, rfl, run_takeDeferred HD.out, ?_⟩⟩
    have hk6 : ∀ k, k ≠ U + 1 → (W4.putObj (U + 1) (.deferred none)).heap[k]? = W4.heap[k]? := fun k hk => World.putObj_heap_other hk
    refine ⟨_, ?_, .slice A n c, rfl, Kd.R_mono (Kd.R_step HS.out (fun k hk1 _ => hk6 k (by omega))) (fun _ _ => trivial), HB.out.grown (grownBy_putObj' W4 _ _) HB.out.size (fun k e => by cases e; omega)⟩
    simp [results, Try.f15, go_sem]

end Go.Proofs.Ytodobnmfgcmnnaa.Pr
