-- Written by this session's own program (wip/pp.sh: a patched run of the kit's print, with contracts of my own).
import Derived.Test.YtodobnmfgcmnnaaPr0
import Derived.Test.YtodobnmfgcmnnaaPr4
import Derived.Test.YtodobnmfgcmnnaaGrpW
namespace Go.Proofs.Ytodobnmfgcmnnaa.Pr
open Go.RowKit Go.Proofs.YtodobnmfgcmnnaaW.PrintWords Go.Proofs.YtodobnmfgcmnnaaW.PrintLast Go.Proofs.YtodobnmfgcmnnaaW.PrintMore
attribute [local go_sem] max2_int min2_int max_two min_two max_three min_three max_four min_four   -- for this text's walks alone
set_option linter.unusedVariables false
set_option linter.unusedSimpArgs false

-- HAND Derived.Test.YtodobnmfgcmnnaaGrpW
/-! ### octet_PutInts: function 23 -/
attribute [local go_sem] Oper.semAt_some
set_option maxHeartbeats 4000000 in
set_option maxRecDepth 100000 in
theorem appendSeq (base U : Nat) (A0 : Option Addr) (c0 : Nat) (l0 : List Int) (u0 : Nat) (w : World) (hU : base ≤ U) (hUw : U < w.heap.size) (hR : Kd.R (Kd.int .u8) 5 w base (fun k => k ≠ U) (.slice A0 l0.length c0) l0)
    (hcu : w.cell? ⟨U, 0, none⟩ = some (.int .u64 (u0 : Int))) (hfu : w.frozen? ⟨U, 0, none⟩ = false) (hl : l0.length + (Oc.grp u0).length ≤ 100000000000000) :
    Calls Try.prog 33 #[.slice A0 l0.length c0, .func (.func 34) #[] #[.pointer (some ⟨U, 0, none⟩)]] w fun e w' => ∃ v0_ : Value, e = .returned (v0_) ∧ Kd.R (Kd.int .u8) 5 w' base (fun _ => True) v0_ (l0 ++ Oc.grp u0) ∧ Below base w w' := by
  have HR := Aside0.mk hR
  have HCU := Aside0.mk hcu
  have HFU := Aside0.mk hfu
  have HL := Aside0.mk hl
  clear hR hcu hfu hl
  refine (callsIn_wide (n := 9)).1 ?_
  refine callsIn_of_wp_marks Try.func33 rfl trivial ?_
  simp only [Try.ntmps33, List.size_toArray, List.length_cons, List.length_nil, Nat.reduceAdd, Nat.reduceSub, Array.replicate_succ, Array.replicate_zero, List.push_toArray, List.append_toArray, List.nil_append, List.cons_append]
  gi_wp2
  have hD : (w.alloc (.cells #[.slice A0 l0.length c0] 22)).heap.size = w.heap.size + 1 := by simp
  refine Ra.wpIn_rangeFunc_law (X := Int × List Int × Nat) (w.heap.size + 1) hD (gf := 34) (lb := #[.pointer (some ⟨U, 0, none⟩)]) ?hg (fun _ _ => by simp [go_sem]) (fun x => #[.int .u8 x.1]) (fun _ => rfl)
    (fun x W => Gw.Gm base w.heap.size U (w.heap.size + 1) w x.2.1 x.2.2 W ∧ x.2.1.length ≤ 100000000000000)
    (fun x _ W => Gw.Gm base w.heap.size U (w.heap.size + 1) w (x.2.1 ++ [x.1]) x.2.2 W)
    (fun W => ∃ u', Gw.Gm base w.heap.size U (w.heap.size + 1) w (l0 ++ Oc.grp u0) u' W) ?hround ?hiter ?hdone
  case hg => simp [go_sem]
  case hround =>
    rintro rdy bsy m ⟨c, z, u⟩ W ⟨hM, hz⟩ hL
    dsimp only at hM hz
    dsimp only
    simp only [List.zip_toArray, List.zip_cons_cons, List.zip_nil_left, List.zip_nil_right, List.foldl_toArray', List.foldl_toArray, List.foldl_cons, List.foldl_nil, List.setIfInBounds_toArray, List.set_cons_succ, List.set_cons_zero]
    gi_wp2
    refine ⟨hL, ?_⟩
    obtain ⟨v, hv, hS⟩ := hM.v
    have hsz := hM.sz
    have hord := hM.ord
    obtain ⟨W2, hW2⟩ : ∃ W2, W.putObj (w.heap.size + 1 + 1) bsy = W2 := ⟨_, rfl⟩
    have hk2 : ∀ k, k ≠ w.heap.size + 1 + 1 → W2.heap[k]? = W.heap[k]? := fun k hk => by rw [← hW2]; exact World.putObj_heap_other hk
    have hs2 : W2.heap.size = W.heap.size := by rw [← hW2]; simp
    have hc : W2.cell? ⟨w.heap.size, 0, none⟩ = some v := (World.cell?_of_block (hk2 _ (by show w.heap.size ≠ w.heap.size + 1 + 1; omega))).trans hv
    have hL2 : W2.heap[w.heap.size + 1 + 1]? = some bsy := by rw [← hW2]; exact World.putObj_heap_same (by omega)
    have hS2 := Kd.R_step (w1 := W2) hS (fun k hk1 _ => hk2 k (by omega))
    obtain ⟨A, cc, rfl⟩ := Kd.R_slice hS
    obtain ⟨v1, w6, hrun, hS6, hg6⟩ := Gw.R_append_run (P := Try.prog) (Kd.int .u8) (W := W2) base 22 22 5 (.int .u8 0) 1 Try.underlying22 info5 rfl (by decide) (by omega) (.slice A z.length cc) z c [.int .u8 c] (fun k => k ≠ w.heap.size ∧ k ≠ U ∧ k ≠ w.heap.size + 1 ∧ k ≠ w.heap.size + 1 + 1) (fun _ => False)
      rfl (fun _ h => h.elim) (fun k hk => ⟨by omega, by omega, by omega, by omega⟩) hS2 (by omega) (by omega)
    have hvb : ∀ k, (Value.slice A z.length cc).ownBlock = some k → base ≤ k ∧ k ≠ w.heap.size ∧ k ≠ U ∧ k ≠ w.heap.size + 1 ∧ k ≠ w.heap.size + 1 + 1 := fun k e => ⟨Kd.R_base hS2 k e, hS2.1 k e⟩
    have hfin := Gw.Gm.put (rdy := rdy) (bsy := bsy) hM (by rw [hW2]; exact hg6) hvb hS6
    have hk6 : ∀ k, k < w.heap.size + 1 + 1 + 1 → some k ≠ (Value.slice A z.length cc).ownBlock → w6.heap[k]? = W2.heap[k]? := fun k hk hne => hg6.block k (by omega) hne
    have nB : some w.heap.size ≠ (Value.slice A z.length cc).ownBlock := fun e => (hvb _ e.symm).2.1 rfl
    have nL : some (w.heap.size + 1 + 1) ≠ (Value.slice A z.length cc).ownBlock := fun e => (hvb _ e.symm).2.2.2.2 rfl
    have hc6 : w6.cell? ⟨w.heap.size, 0, none⟩ = some (.slice A z.length cc) := (World.cell?_of_block (hk6 _ (by show w.heap.size < _; omega) nB)).trans hc
    have hf6 : w6.frozen? ⟨w.heap.size, 0, none⟩ = false := ((World.frozen?_of_block (hk6 _ (by show w.heap.size < _; omega) nB)).trans (World.frozen?_of_block (hk2 _ (by show w.heap.size ≠ w.heap.size + 1 + 1; omega)))).trans hM.f
    have hL6 : (w6.setCell ⟨w.heap.size, 0, none⟩ v1).heap[w.heap.size + 1 + 1]? = some bsy :=
      ((Below.heap_setCell _ _ _ _ (by show w.heap.size + 1 + 1 ≠ w.heap.size; omega)).trans (hk6 _ (by omega) nL)).trans hL2
    rw [hW2]
    obtain ⟨A1, c1, rfl⟩ := Kd.R_slice hS6
    generalize (z ++ [c]).length = n1 at *
    clear hS6 hg6 hS2 hS hk2 hk6 hM hW2 hv hvb nB nL hD
    have hrunA := Aside0.mk hrun
    have hfinA := Aside0.mk hfin
    have hL6A := Aside0.mk hL6
    clear hrun hfin hL6 hs2
    gi_wp2_with (gi_at_builtin; refine Ra.wpListIn_append_run rfl (.tmp 8) (.tmp 10) 22 rfl rfl rfl hrunA.out ?_)
    exact ⟨hL6A.out, hfinA.out⟩
  case hiter =>
    intro rdy m hy
    simp only [List.append_toArray, List.cons_append, List.nil_append]
    obtain ⟨W1, hW1⟩ : ∃ W1, ((w.alloc (.cells #[.slice A0 l0.length c0] 22)).alloc (.deferred (some []))).alloc rdy = W1 := ⟨_, rfl⟩
    have hold : ∀ k, k < w.heap.size → W1.heap[k]? = w.heap[k]? := fun k hk => by
      rw [← hW1]; exact ((Below.heap_alloc _ _ _ (by simp; omega)).trans (Below.heap_alloc _ _ _ (by simp; omega))).trans (Below.heap_alloc _ _ _ (by omega))
    have hL1 : W1.heap[w.heap.size + 1 + 1]? = some rdy := by
      rw [← hW1]; have := World.alloc_heap_new ((w.alloc (.cells #[.slice A0 l0.length c0] 22)).alloc (.deferred (some []))) rdy; simpa using this
    have hD1 : W1.heap[w.heap.size + 1]? = some (.deferred (some [])) := by
      have := World.alloc_heap_new (w.alloc (.cells #[.slice A0 l0.length c0] 22)) (.deferred (some []))
      rw [hD] at this
      rw [← hW1]
      exact (Below.heap_alloc _ _ _ (by simp)).trans this
    have hu1 : W1.heap[w.heap.size]? = some (.cells #[.slice A0 l0.length c0] 22) := by
      have := World.alloc_heap_new w (.cells #[.slice A0 l0.length c0] 22)
      rw [← hW1]
      exact ((Below.heap_alloc _ _ _ (by simp; omega)).trans (Below.heap_alloc _ _ _ (by simp))).trans this
    have hs1 : W1.heap.size = w.heap.size + 3 := by rw [← hW1]; simp
    have hM1 : Gw.Gm base w.heap.size U (w.heap.size + 1) w l0 u0 W1 :=
      ⟨⟨.slice A0 l0.length c0, by simp [World.cell?, hu1], Kd.R_mono (Kd.R_step (Kd.R_bound HR.out) (fun k hk _ => hold k hk.2.2.1)) (fun k hk => by have h1 := hk.2.2.1; have h2 := hk.1; exact ⟨by omega, h2, by omega, by omega⟩)⟩,
        by simp [World.frozen?, hu1], (World.cell?_of_block (hold _ (by show U < w.heap.size; omega))).trans HCU.out, (World.frozen?_of_block (hold _ (by show U < w.heap.size; omega))).trans HFU.out, hD1,
        by rw [← hW1]; exact Below.alloc (Below.alloc (Below.alloc (Below.refl _ _) (by omega) _) (by simp; omega) _) (by simp; omega) _, by omega, by omega⟩
    rw [hW1]
    exact Gw.iter base w.heap.size U (w.heap.size + 1) w l0 u0 HL.out rdy m W1 hM1 hL1 hy
  case hdone =>
    rintro o W ⟨u', hM⟩
    obtain ⟨v, hv, hS⟩ := hM.v
    obtain ⟨A, c, rfl⟩ := Kd.R_slice hS
    obtain ⟨W4, hW4⟩ : ∃ W4, W.putObj (w.heap.size + 1 + 1) o = W4 := ⟨_, rfl⟩
    have hk : ∀ k, k ≠ w.heap.size + 1 + 1 → W4.heap[k]? = W.heap[k]? := fun k hk => by rw [← hW4]; exact World.putObj_heap_other hk
    have hc : W4.cell? ⟨w.heap.size, 0, none⟩ = some (.slice A (l0 ++ Oc.grp u0).length c) := (World.cell?_of_block (hk _ (by show w.heap.size ≠ _; omega))).trans hv
    have hD4 : W4.heap[w.heap.size + 1]? = some (.deferred (some [])) := (hk _ (by omega)).trans hM.dd
    have hS4 := Kd.R_step (w1 := W4) hS (fun k hk1 _ => hk k (by omega))
    have hb4 : Below base w W4 := by rw [← hW4]; exact hM.hb.grown (grownBy_putObj' W _ o) (by have := hM.sz; omega) (fun k e => by cases e; omega)
    rw [hW4]
    clear hk hW4 hS hv hM hD
    have HS := Aside0.mk hS4
    have HB := Aside0.mk hb4
    have HD := Aside0.mk hD4
    clear hS4 hb4 hD4
    generalize hn : (l0 ++ Oc.grp u0).length = n at *
    have HN := Aside0.mk hn
    clear hn
    gi_wp2
    refine ⟨by simp, .inl ⟨_, _, rfl, run_takeDeferred HD.out, ?_⟩⟩
    have hk6 : ∀ k, k ≠ w.heap.size + 1 → (W4.putObj (w.heap.size + 1) (.deferred none)).heap[k]? = W4.heap[k]? := fun k hk => World.putObj_heap_other hk
    refine ⟨_, ?_, .slice A n c, rfl, Kd.R_mono (Kd.R_step HS.out (fun k hk1 _ => hk6 k (by omega))) (fun _ _ => trivial), HB.out.grown (grownBy_putObj' W4 _ _) (by have := HB.out.size; omega) (fun k e => by cases e; omega)⟩
    simp [results, Try.f33, go_sem]
def octet_PutInts.f (l0 : List Int) (l1 : List Int) : Option (List Int) := if l1.all Oc.ok64 = true ∧ l0.length ≤ 100000000000 ∧ l1.length ≤ 10000000000 then some (Oc.putIs l0 l1) else none
theorem octet_PutInts.len (xs : List Int) (hx : ∀ x ∈ xs, Oc.ok64 x = true) : ∀ l : List Int, (xs.foldl Oc.putI l).length ≤ l.length + 10 * xs.length := by
  induction xs with
  | nil => intro l; simp
  | cons x xs ih =>
    intro l
    have h1 := ih (fun y hy => hx y (List.mem_cons_of_mem _ hy)) (Oc.putI l x)
    have h2 := Oc.grp_ten _ (Oc.zz_lt x (hx x List.mem_cons_self))
    have h3 : (Oc.putI l x).length = l.length + (Oc.grp (Oc.zz x)).length := by simp [Oc.putI]
    rw [List.foldl_cons, List.length_cons]
    omega
set_option maxHeartbeats 4000000 in
set_option maxRecDepth 100000 in
theorem octet_PutInts.calls (A0 : Option Addr) (c0 : Nat) (l0 : List Int) (A1 : Option Addr) (c1 : Nat) (l1 : List Int) (r : List Int) (w : World) (hr0 : Kd.C (Kd.int .u8) w A0 l0.length l0) (hc0 : l0.length ≤ c0) (hr1 : Kd.C (Kd.int .i64) w A1 l1.length l1) (hc1 : l1.length ≤ c1) (h : octet_PutInts.f l0 l1 = some r) :
    Calls Try.prog 23 #[.slice A0 l0.length c0, .slice A1 l1.length c1] w fun e w' => ∃ v0_ : Value, e = .returned (v0_) ∧ Kd.R (Kd.int .u8) 5 w' w.heap.size (fun _ => True) v0_ r ∧ Below w.heap.size w w' := by
  unfold octet_PutInts.f at h
  by_cases hl : l1.all Oc.ok64 = true ∧ l0.length ≤ 100000000000 ∧ l1.length ≤ 10000000000
  case neg => rw [if_neg hl] at h; cases h
  rw [if_pos hl] at h
  obtain rfl := Option.some.inj h
  clear h
  obtain ⟨ha, hl0, hl1⟩ := hl
  have hall : ∀ x ∈ l1, Oc.ok64 x = true := fun x hx => List.all_eq_true.1 ha x hx
  have hokl : Oc.ok64 (l1.length : Int) = true := by simp [Oc.ok64]; omega
  have HR := Aside0.mk hr0
  have HC := Aside0.mk hc0
  have HR1 := Aside0.mk hr1
  have HC1 := Aside0.mk hc1
  have HA := Aside0.mk hall
  have HK := Aside0.mk hokl
  have HL := Aside0.mk hl0
  clear hr0 hc0 hr1 hc1 ha hall hokl hl0
  go_enter Try.func23, Try.ntmps23
  go_wp2_with fail
  refine (octet_PutInt.calls A0 c0 l0 (l1.length : Int) (Oc.putI l0 l1.length) w HR.out HC.out (by unfold octet_PutInt.f; rw [if_pos ⟨HK.out, by have := HL.out; omega⟩])).mono ?_
  rintro e w1 ⟨v1, rfl, ho1, hb1⟩
  have HO1 := Aside0.mk ho1
  have HB1 := Aside0.mk hb1
  clear ho1 hb1
  go_wp2_with fail
  go_loopw [0, 13] (fun b i wr => ∃ k : Nat, k ≤ l1.length ∧ i = .int .i64 k ∧ Aside0 (Kd.R (Kd.int .u8) 5 wr w.heap.size (fun _ => True) b ((l1.take k).foldl Oc.putI (Oc.putI l0 l1.length))) ∧ Aside0 (Below w.heap.size w wr)) (fun _ i _ => l1.length - (intOf i).toNat)
  case atStart => exact ⟨0, Nat.zero_le _, rfl, ⟨by simpa using HO1.out⟩, HB1⟩
  case round =>
    clear HO1 HB1
    obtain ⟨k, hk, rfl, HO, HB⟩ := hrel
    have hlen := octet_PutInts.len (l1.take k) (fun x hx => HA.out x (List.mem_of_mem_take hx)) (Oc.putI l0 l1.length)
    have hpl : (Oc.putI l0 l1.length).length ≤ 100000000010 := by
      have h2 := Oc.grp_ten _ (Oc.zz_lt _ HK.out)
      have h3 := HL.out
      simp only [Oc.putI, List.length_append]
      omega
    rw [List.length_take, Nat.min_eq_left hk] at hlen
    by_cases hlt : k < l1.length
    · obtain ⟨ad, rfl, hcell⟩ := Kd.at_int (Kd.C_below HR1.out HB.out) (k : Int) (by omega) (by omega)
      rw [Int.toNat_natCast] at hcell
      have hmem : rd l1 k = l1[k] := by simp [rd, List.getD_eq_getElem?_getD, List.getElem?_eq_getElem hlt]
      have hok : Oc.ok64 (rd l1 k) = true := by rw [hmem]; exact HA.out _ (List.getElem_mem hlt)
      have hs : (l1.take (k + 1)).foldl Oc.putI (Oc.putI l0 l1.length) = ((l1.take k).foldl Oc.putI (Oc.putI l0 l1.length)) ++ Oc.grp (Oc.zz (rd l1 k)) := by
        rw [List.take_succ_eq_append_getElem hlt, List.foldl_append, hmem]; rfl
      have hz10 := Oc.grp_ten _ (Oc.zz_lt _ hok)
      have HOK := Aside0.mk hok
      have HS := Aside0.mk hs
      clear hmem hok hs
      generalize hacc : (l1.take k).foldl Oc.putI (Oc.putI l0 l1.length) = acc at hlen HO HS
      generalize rd l1 k = x at hcell HOK HS hz10
      clear hacc
      obtain ⟨A2, c2, rfl⟩ := Kd.R_slice HO.out
      have HZ := Aside0.mk (show acc.length + (Oc.grp (Oc.zz x)).length ≤ 100000000000000 by omega)
      clear hlen hpl hz10
      go_wp2_with fail
      refine (Gw.groups x HOK.out wr).mono ?_
      rintro e w3 ⟨rfl, rfl⟩
      go_wp2_with fail
      refine (appendSeq w.heap.size wr.heap.size A2 c2 acc (Oc.zz x) _ HB.out.size (by simp) (Kd.R_mono (Kd.R_bound (Kd.R_alloc (Kd.R_bound HO.out) _)) (fun k hk => by have := hk.1.2.2.1; omega)) (by go_simp) (by go_simp) HZ.out).mono ?_
      rintro e w4 ⟨v4, rfl, ho4, hb4⟩
      have HO4 := Aside0.mk ho4
      have HB4 := Aside0.mk ((HB.out.alloc HB.out.size _).trans hb4)
      clear ho4 hb4
      go_wp2_with fail
      go_roundw
      case rel => exact ⟨k + 1, by omega, by go_num, ⟨by rw [HS.out]; exact HO4.out⟩, HB4⟩
      case measure => simp [intOf]; omega
    · obtain rfl : k = l1.length := by omega
      have ho := HO.out
      rw [List.take_length] at ho
      have HO' := Aside0.mk (show Kd.R (Kd.int .u8) 5 wr w.heap.size (fun _ => True) u0 (Oc.putIs l0 l1) from ho)
      clear hlen hpl HO ho
      obtain ⟨A2, c2, rfl⟩ := Kd.R_slice HO'.out
      go_wp2
      go_ret
      exact ⟨_, rfl, HO'.out, HB.out⟩

end Go.Proofs.Ytodobnmfgcmnnaa.Pr
