/- A part of the proof of JournalNext; no condition. -/
import Derived.Test.YtfcdaifaocgjfaaGa0
import Derived.Test.YtfcdaifaocgjfaaGa1
import Derived.Test.YtfcdaifaocgjfaaPla
namespace Go.Proofs.Ytfcdaifaocgjfaa.Pr
open Go.RowKit Go.Proofs.YtfcdaifaocgjfaaW.PrintWords Go.Proofs.YtfcdaifaocgjfaaW.PrintLast Go.Proofs.YtfcdaifaocgjfaaW.PrintMore
attribute [local go_sem] max2_int min2_int max_two min_two max_three min_three max_four min_four   -- for this text's walks alone
set_option linter.unusedVariables false
set_option linter.unusedSimpArgs false
attribute [local go_sem] Oper.semAt_some
def seal_Scan.f (l0 : List Int) : Option (List (List Int) × Int) := if l0.length ≤ 1000000000000 then some (Pl.scanI l0) else none
/-- Between two steps of the loop: what Scan's two results hold, the box of frames, the two blocks of book-keeping. -/
structure seal_Scan.Mid (A0 : Option Addr) (c0 : Nat) (l0 : List Int) (w : World) (ok : Nat → Prop) (z : List (List Int)) (x : Int) (W : World) : Prop where
  v : ∃ v, W.cell? ⟨w.heap.size, 0, none⟩ = some v ∧ Kd.S (Kd.slice 5 (Kd.int .u8)) 22 W (w.heap.size + 5) (fun k => w.heap.size + 5 ≤ k ∧ ok k) v z
  f : W.frozen? ⟨w.heap.size, 0, none⟩ = false
  c2 : W.cell? ⟨w.heap.size + 1, 0, none⟩ = some (.int .i64 x)
  f2 : W.frozen? ⟨w.heap.size + 1, 0, none⟩ = false
  c3 : W.cell? ⟨w.heap.size + 2, 0, none⟩ = some (.slice A0 l0.length c0)
  D : W.heap[w.heap.size + 3]? = some (.deferred (some []))
  hb : Below w.heap.size w W
  sz : w.heap.size + 5 ≤ W.heap.size
theorem seal_Scan.Mid.move {A0 : Option Addr} {c0 : Nat} {l0 : List Int} {w : World} {ok ok' : Nat → Prop} {z : List (List Int)} {x : Int} {W W' : World} (h : seal_Scan.Mid A0 c0 l0 w ok z x W) (hb : Below W.heap.size W W') (hok : ∀ k, k < W.heap.size → ok k → ok' k) : seal_Scan.Mid A0 c0 l0 w ok' z x W' := by
  have hsz := h.sz
  obtain ⟨v, hv, hS⟩ := h.v
  have e : ∀ k, k < W.heap.size → W'.heap[k]? = W.heap[k]? := fun k hk => hb.block k hk
  refine ⟨⟨v, (World.cell?_of_block (e _ (by first | (simp; done) | (simp; omega)))).trans hv, Kd.S_mono (Kd.S_below (Kd.S_bound hS) hb) (fun k hk => ⟨hk.1.1, hok k hk.2.2.1 hk.1.2⟩)⟩, (World.frozen?_of_block (e _ (by first | (simp; done) | (simp; omega)))).trans h.f, (World.cell?_of_block (e _ (by first | (simp; done) | (simp; omega)))).trans h.c2, (World.frozen?_of_block (e _ (by first | (simp; done) | (simp; omega)))).trans h.f2, (World.cell?_of_block (e _ (by first | (simp; done) | (simp; omega)))).trans h.c3, (e _ (by omega)).trans h.D, below_step h.hb hb, Nat.le_trans hsz hb.size⟩
/-- What a round leaves: the element appended, the number put. -/
theorem seal_Scan.Mid.put {A0 : Option Addr} {c0 : Nat} {l0 : List Int} {w : World} {rdy bsy : Obj} {ok ok' : Nat → Prop} {z z' : List (List Int)} {x x' : Int} {W w6 : World} {v v1 : Value} (h : seal_Scan.Mid A0 c0 l0 w ok z x W)
    (hg : (W.putObj (w.heap.size + 3 + 1) bsy).grownBy w6 v.ownBlock) (hv : ∀ k, v.ownBlock = some k → w.heap.size + 5 ≤ k)
    (hS : Kd.S (Kd.slice 5 (Kd.int .u8)) 22 w6 (w.heap.size + 5) (fun k => w.heap.size + 5 ≤ k ∧ ok' k) v1 z') :
    seal_Scan.Mid A0 c0 l0 w ok' z' x' (((w6.setCell ⟨w.heap.size, 0, none⟩ v1).setCell ⟨w.heap.size + 1, 0, none⟩ (.int .i64 x')).putObj (w.heap.size + 3 + 1) rdy) := by
  have hsz := h.sz
  have hsp : (W.putObj (w.heap.size + 3 + 1) bsy).heap.size = W.heap.size := by simp
  have hk6 : ∀ k, k < w.heap.size + 5 → k ≠ w.heap.size + 3 + 1 → w6.heap[k]? = W.heap[k]? := fun k hk hne =>
    (hg.block k (by omega) (fun e => by have := hv k e.symm; omega)).trans (World.putObj_heap_other hne)
  have hs6 := hg.size
  obtain ⟨u, hu, _⟩ := h.v
  obtain ⟨W7, hW7⟩ : ∃ W7, ((w6.setCell ⟨w.heap.size, 0, none⟩ v1).setCell ⟨w.heap.size + 1, 0, none⟩ (.int .i64 x')) = W7 := ⟨_, rfl⟩
  have hk7 : ∀ k, k ≠ w.heap.size → k ≠ w.heap.size + 1 → W7.heap[k]? = w6.heap[k]? := fun k h1 h2 => by
    rw [← hW7]; exact (Below.heap_setCell _ _ _ _ h2).trans (Below.heap_setCell _ _ _ _ h1)
  obtain ⟨W8, hW8⟩ : ∃ W8, W7.putObj (w.heap.size + 3 + 1) rdy = W8 := ⟨_, rfl⟩
  have hk8 : ∀ k, k ≠ w.heap.size + 3 + 1 → W8.heap[k]? = W7.heap[k]? := fun k hk => by rw [← hW8]; exact World.putObj_heap_other hk
  have hs7 : W7.heap.size = w6.heap.size := by rw [← hW7]; simp
  have hs8 : W8.heap.size = W7.heap.size := by rw [← hW8]; simp
  have hc6 : w6.cell? ⟨w.heap.size, 0, none⟩ = some u := (World.cell?_of_block (hk6 _ (by simp) (by simp <;> omega))).trans hu
  have hd6 : w6.cell? ⟨w.heap.size + 1, 0, none⟩ = some (.int .i64 x) := (World.cell?_of_block (hk6 _ (by simp) (by simp))).trans h.c2
  have hc7 : W7.cell? ⟨w.heap.size, 0, none⟩ = some v1 := by
    rw [← hW7]; exact (World.cell?_of_block (Below.heap_setCell _ _ _ _ (by simp))).trans (World.cell?_setCell_same' _ _ _ (by rw [hc6]; rfl))
  have hd7 : W7.cell? ⟨w.heap.size + 1, 0, none⟩ = some (.int .i64 x') := by
    rw [← hW7]; exact World.cell?_setCell_same' _ _ _ (by rw [(World.cell?_of_block (Below.heap_setCell _ _ _ _ (by simp))).trans hd6]; rfl)
  have hf7 : W7.frozen? ⟨w.heap.size, 0, none⟩ = false := by
    rw [← hW7, World.frozen?_setCell, World.frozen?_setCell]; exact (World.frozen?_of_block (hk6 _ (by simp) (by simp <;> omega))).trans h.f
  have hf7' : W7.frozen? ⟨w.heap.size + 1, 0, none⟩ = false := by
    rw [← hW7, World.frozen?_setCell, World.frozen?_setCell]; exact (World.frozen?_of_block (hk6 _ (by simp) (by simp))).trans h.f2
  rw [hW7, hW8]
  have hb6 : Below w.heap.size w w6 := ((h.hb.grown (grownBy_putObj' W _ bsy) h.hb.size (fun k e => by cases e; omega)).grown hg (by have := h.hb.size; omega) (fun k e => by have := hv k e; omega))
  have hb8 : Below w.heap.size w W8 := by
    rw [← hW8, ← hW7]
    exact ((hb6.setCell (by simp) _).setCell (by simp) _).grown (grownBy_putObj' _ _ rdy) (by have := hb6.size; simpa using this) (fun k e => by cases e; omega)
  exact ⟨⟨v1, (World.cell?_of_block (hk8 _ (by simp <;> omega))).trans hc7, Kd.S_step hS (fun k hk _ => (hk8 k (by omega)).trans (hk7 k (by omega) (by omega)))⟩,
    (World.frozen?_of_block (hk8 _ (by simp <;> omega))).trans hf7, (World.cell?_of_block (hk8 _ (by simp))).trans hd7, (World.frozen?_of_block (hk8 _ (by simp))).trans hf7',
    (World.cell?_of_block ((hk8 _ (by simp)).trans ((hk7 _ (by simp) (by simp)).trans (hk6 _ (by simp) (by simp))))).trans h.c3,
    (hk8 _ (by omega)).trans ((hk7 _ (by omega) (by omega)).trans ((hk6 _ (by omega) (by omega)).trans h.D)), hb8, by omega⟩
theorem seal_Scan.open_ok (l : List Int) (x : Int) (h : (Pl.openI l x).2.2 = 0) : x + 8 ≤ (Pl.openI l x).2.1 ∧ (Pl.openI l x).2.1 ≤ l.length := by
  unfold Pl.openI at h ⊢
  by_cases h0 : x < 0
  · rw [if_pos h0] at h; simp at h
  rw [if_neg h0] at h ⊢
  by_cases h1 : (l.length : Int) < x
  · rw [if_pos h1] at h; simp at h
  rw [if_neg h1] at h ⊢
  by_cases h2 : (l.drop x.toNat).length < 8
  · rw [if_pos h2] at h; simp at h
  rw [if_neg h2] at h ⊢
  by_cases h3 : 65536 < Pl.get4 (l.drop x.toNat)
  · rw [if_pos h3] at h; simp at h
  rw [if_neg h3] at h ⊢
  by_cases h4 : (l.drop x.toNat).length - 8 < Pl.get4 (l.drop x.toNat)
  · rw [if_pos h4] at h; simp at h
  rw [if_neg h4] at h ⊢
  by_cases h5 : Pl.sumI (((l.drop x.toNat).drop 8).take (Pl.get4 (l.drop x.toNat))) = Pl.get4 ((l.drop x.toNat).drop 4)
  · rw [if_pos h5]
    have hlen : (l.drop x.toNat).length = l.length - x.toNat := List.length_drop
    show x + 8 ≤ x + 8 + _ ∧ x + 8 + _ ≤ _
    omega
  · rw [if_neg h5] at h; simp at h
theorem seal_Scan.frames (A0 : Option Addr) (n0 c0 : Nat) (w : World) : Calls Try.prog 48 #[.slice A0 n0 c0] w fun e w' => e = .returned (.func (.func 64) #[] #[.pointer (some ⟨w.heap.size, 0, none⟩)]) ∧ w' = w.alloc (.cells #[.slice A0 n0 c0] 22) := by
  go_enter Try.func48, Try.ntmps48
  go_wp2
  go_ret
  exact ⟨rfl, rfl⟩
set_option maxHeartbeats 4000000 in
set_option maxRecDepth 100000 in
theorem seal_Scan.calls (A0 : Option Addr) (c0 : Nat) (l0 : List Int) (r1 : List (List Int)) (r2 : Int) (w : World) (hr0 : Kd.C (Kd.int .u8) w A0 l0.length l0) (hc0 : l0.length ≤ c0) (h : seal_Scan.f l0 = some (r1, r2)) :
    Calls Try.prog 30 #[.slice A0 l0.length c0] w fun e w' => ∃ v0_ : Value, e = .returned (.tuple #[v0_, .int .i64 r2]) ∧ Kd.S (Kd.slice 5 (Kd.int .u8)) 22 w' w.heap.size (fun _ => True) v0_ r1 ∧ Below w.heap.size w w' := by
  unfold seal_Scan.f at h
  by_cases hl : l0.length ≤ 1000000000000
  case neg => rw [if_neg hl] at h; cases h
  rw [if_pos hl] at h
  replace h := Option.some.inj h
  refine (callsIn_wide (n := 9)).1 ?_
  refine callsIn_of_wp_marks Try.func30 rfl trivial ?_
  simp only [Try.ntmps30, List.size_toArray, List.length_cons, List.length_nil, Nat.reduceAdd, Nat.reduceSub, Array.replicate_succ, Array.replicate_zero, List.push_toArray, List.append_toArray, List.nil_append, List.cons_append]
  gi_wp2
  refine ⟨trivial, callsIn_wide.2 ((seal_Scan.frames A0 l0.length c0 _).mono ?_)⟩
  rintro e w1 ⟨rfl, rfl⟩
  simp only []
  gi_wp2
  have hs3 : (((w.alloc (.cells #[.slice none 0 0] 56)).alloc (.cells #[.int .i64 0] 3)).alloc (.cells #[.slice A0 l0.length c0] 22)).heap.size = w.heap.size + 3 := by simp
  refine Ra.wpIn_rangeFunc_law (X := List (List Int) × Int × List Int × Int × Value) (w.heap.size + 3) hs3 (gf := 64) (lb := #[.pointer (some ⟨w.heap.size + 2, 0, none⟩)]) ?hg (fun _ _ => by simp [go_sem]) (fun x => #[x.2.2.2.2, .int .i64 x.2.2.2.1]) (fun _ => rfl)
    (fun x W => seal_Scan.Mid A0 c0 l0 w (fun k => some k ≠ x.2.2.2.2.ownBlock) x.1 x.2.1 W ∧ Kd.R (Kd.int .u8) 5 W (w.heap.size + 5) (fun _ => True) x.2.2.2.2 x.2.2.1 ∧ x.1.length < 5864062014805)
    (fun x _ W => seal_Scan.Mid A0 c0 l0 w (fun _ => True) (x.1 ++ [x.2.2.1]) x.2.2.2.1 W)
    (fun W => seal_Scan.Mid A0 c0 l0 w (fun _ => True) r1 r2 W) ?hround ?hiter ?hdone
  case hg => simp [go_sem]
  case hround =>
    rintro rdy bsy m ⟨z, x0, t, nx, vb⟩ W ⟨hM, hR, hz⟩ hL
    dsimp only at hM hR hz
    dsimp only
    simp only [List.zip_toArray, List.zip_cons_cons, List.zip_nil_left, List.zip_nil_right, List.foldl_toArray', List.foldl_toArray, List.foldl_cons, List.foldl_nil, List.setIfInBounds_toArray, List.set_cons_succ, List.set_cons_zero]
    gi_wp2
    refine ⟨hL, ?_⟩
    obtain ⟨v, hv, hS⟩ := hM.v
    have hsz := hM.sz
    obtain ⟨W2, hW2⟩ : ∃ W2, W.putObj (w.heap.size + 3 + 1) bsy = W2 := ⟨_, rfl⟩
    have hk2 : ∀ k, k ≠ w.heap.size + 3 + 1 → W2.heap[k]? = W.heap[k]? := fun k hk => by rw [← hW2]; exact World.putObj_heap_other hk
    have hs2 : W2.heap.size = W.heap.size := by rw [← hW2]; simp
    have hc : W2.cell? ⟨w.heap.size, 0, none⟩ = some v := (World.cell?_of_block (hk2 _ (by first | (simp; done) | (simp; omega)))).trans hv
    have hL2 : W2.heap[w.heap.size + 3 + 1]? = some bsy := by rw [← hW2]; exact World.putObj_heap_same (by omega)
    have hS2 := Kd.S_step (w1 := W2) hS (fun k hk1 _ => hk2 k (by omega))
    have hR2 := Kd.R_step (w1 := W2) (Kd.R_bound hR) (fun k hk1 _ => hk2 k (by have := hk1.2.1; omega))
    obtain ⟨Ab, cb, rfl⟩ := Kd.R_slice hR
    obtain ⟨A, c, rfl⟩ := Kd.S_slice hS
    obtain ⟨v1, w6, hrun, hS6, hg6⟩ := Ra.S_append_run (P := Try.prog) (Kd.slice 5 (Kd.int .u8)) (W := W2) (w.heap.size + 5) 56 56 22 (.slice none 0 0) 24 Try.underlying56 info22 rfl (by decide) (by omega) (.slice A z.length c) z t [.slice Ab t.length cb] (fun k => w.heap.size + 5 ≤ k ∧ True) (fun k_ => some k_ = (.slice Ab t.length cb : Value).ownBlock)
      (Kd.M_row (Kd.R_mono (Kd.R_tight rfl hR2) (fun _ h_ => h_))) (fun k hk => by
        have h := (Kd.R_apart' hR2 (Kd.S_typed hS2) (by decide)).1 k hk.symm
        exact ⟨⟨h.1.2.1, trivial⟩, h.2⟩) (fun k hk => ⟨by omega, trivial⟩) (Kd.S_mono hS2 (fun k hk => ⟨⟨hk.1, trivial⟩, fun e => hk.2 e⟩)) (by omega) (by omega)
    have hfin := seal_Scan.Mid.put (x' := nx) (rdy := rdy) (bsy := bsy) hM (by rw [hW2]; exact hg6) (fun k e => (Kd.S_base hS2 k e)) hS6
    have hv5 : ∀ k, (Value.slice A z.length c).ownBlock = some k → w.heap.size + 5 ≤ k := fun k e => Kd.S_base hS2 k e
    have hk6 : ∀ k, k < w.heap.size + 5 → w6.heap[k]? = W2.heap[k]? := fun k hk => hg6.block k (by omega) (fun e => by have := hv5 k e.symm; omega)
    have hc6 : w6.cell? ⟨w.heap.size, 0, none⟩ = some (.slice A z.length c) := (World.cell?_of_block (hk6 _ (by first | (simp; done) | (simp; omega)))).trans hc
    have hf6 : w6.frozen? ⟨w.heap.size, 0, none⟩ = false := ((World.frozen?_of_block (hk6 _ (by first | (simp; done) | (simp; omega)))).trans (World.frozen?_of_block (hk2 _ (by first | (simp; done) | (simp; omega))))).trans hM.f
    have hd6 : w6.cell? ⟨w.heap.size + 1, 0, none⟩ = some (.int .i64 x0) := ((World.cell?_of_block (hk6 _ (by simp))).trans (World.cell?_of_block (hk2 _ (by simp)))).trans hM.c2
    have hg6' : w6.frozen? ⟨w.heap.size + 1, 0, none⟩ = false := ((World.frozen?_of_block (hk6 _ (by simp))).trans (World.frozen?_of_block (hk2 _ (by simp)))).trans hM.f2
    have hL6 : ((w6.setCell ⟨w.heap.size, 0, none⟩ v1).setCell ⟨w.heap.size + 1, 0, none⟩ (.int .i64 nx)).heap[w.heap.size + 3 + 1]? = some bsy :=
      ((Below.heap_setCell _ _ _ _ (by first | (simp; done) | (simp; omega))).trans ((Below.heap_setCell _ _ _ _ (by first | (simp; done) | (simp; omega))).trans (hk6 _ (by omega)))).trans hL2
    rw [hW2]
    have h1 : v1.oneCell' = true := by obtain ⟨A1, c1, e⟩ := Kd.S_slice hS6; rw [e]; rfl
    obtain ⟨A1, c1, rfl⟩ := Kd.S_slice hS6
    generalize (z ++ [t]).length = n1 at *
    clear hS6 hg6 hS2 hR2 hS hR hk2 hk6 hM hW2 hv hv5
    have hrunA := Aside0.mk hrun
    have hfinA := Aside0.mk hfin
    have hL6A := Aside0.mk hL6
    clear hrun hfin hL6 hs2
    gi_wp2_with (gi_at_builtin; refine Ra.wpListIn_append_run rfl (.tmp 10) (.tmp 12) 56 rfl rfl rfl hrunA.out ?_)
    exact ⟨hL6A.out, hfinA.out⟩
  case hiter =>
    intro rdy m hy
    simp only [List.append_toArray, List.cons_append, List.nil_append]
    obtain ⟨W1, hW1⟩ : ∃ W1, (((((w.alloc (.cells #[.slice none 0 0] 56)).alloc (.cells #[.int .i64 0] 3)).alloc (.cells #[.slice A0 l0.length c0] 22)).alloc (.deferred (some []))).alloc rdy) = W1 := ⟨_, rfl⟩
    have hL1 : W1.heap[w.heap.size + 3 + 1]? = some rdy := by
      rw [← hW1]; have := World.alloc_heap_new ((((w.alloc (.cells #[.slice none 0 0] 56)).alloc (.cells #[.int .i64 0] 3)).alloc (.cells #[.slice A0 l0.length c0] 22)).alloc (.deferred (some []))) rdy; simpa using this
    have hM1 : seal_Scan.Mid A0 c0 l0 w (fun _ => True) [] 0 W1 := by
      rw [← hW1]
      refine ⟨⟨.slice none 0 0, ?_, Kd.S_nil _ _ _ _ _⟩, ?_, ?_, ?_, ?_, ?_, ?_, by simp⟩
      · simp [go_sem]
      · simp [go_sem]
      · simp [go_sem]
      · simp [go_sem]
      · simp [go_sem]
      · have := World.alloc_heap_new (((w.alloc (.cells #[.slice none 0 0] 56)).alloc (.cells #[.int .i64 0] 3)).alloc (.cells #[.slice A0 l0.length c0] 22)) (.deferred (some []))
        rw [hs3] at this
        exact (Below.heap_alloc _ _ _ (by simp)).trans this
      · exact below_alloc (below_alloc (below_alloc (below_alloc (below_alloc (Below.refl _ _) _) _) _) _) _
    rw [hW1]
    clear hW1 hs3
    have H0 := Aside0.mk h
    have hyA := Aside0.mk hy
    have HR := Aside0.mk hr0
    have HC := Aside0.mk hc0
    have hM1A := Aside0.mk hM1
    have hL1A := Aside0.mk hL1
    clear hr0 hc0 h hy hM1 hL1
    refine callsIn_of_wp Try.func64 rfl trivial ?_
    simp only [Try.ntmps64, List.size_toArray, List.length_cons, List.length_nil, Nat.reduceAdd, Nat.reduceSub, Array.replicate_succ, Array.replicate_zero, List.push_toArray, List.append_toArray, List.nil_append, List.cons_append]
    gi_wp2
    gi_loopg [3] (l0.length + 1) (fun kq v3 w' => ∃ (x : Int) (z : List (List Int)), v3 = .int .i64 x ∧ Aside0 (Pl.scanF kq l0 x z = (r1, r2)) ∧ Aside0 (z.length + kq = l0.length + 1 ∧ 8 * (z.length : Int) ≤ x ∧ x ≤ l0.length) ∧ Aside0 (seal_Scan.Mid A0 c0 l0 w (fun _ => True) z x w') ∧ Aside0 (w'.heap[w.heap.size + 3 + 1]? = some rdy))
    case atStart => exact ⟨0, [], rfl, H0, ⟨by simp⟩, hM1A, hL1A⟩
    case round =>
      clear H0 hM1A hL1A
      obtain ⟨x, z, rfl, HA, HN, HM, HL⟩ := hrel
      cases gk with
      | zero =>
        have h1 := HN.out
        exact absurd h1.1 (by omega)
      | succ k1 =>
        have H := HA.out
        have hN := HN.out
        have hM := HM.out
        have hL := HL.out
        have hc3 := hM.c3
        have hsz := Aside0.mk hM.sz
        clear HA HN HM HL
        simp only [Pl.scanF] at H
        obtain ⟨⟨t, nx, e⟩, ho⟩ : ∃ o, o = Pl.openI l0 x := ⟨_, rfl⟩
        have hOk := seal_Scan.open_ok l0 x
        rw [← ho] at H hOk
        dsimp only at H hOk
        have hOpen : seal_Open.f l0 x = some (t, nx, e) := by rw [ho]; rfl
        by_cases c : e = 0
        · subst c
          rw [if_pos rfl] at H
          have HS := Aside0.mk H
          have HN := Aside0.mk (And.intro hN (hOk rfl))
          have HM := Aside0.mk hM
          have HL := Aside0.mk hL
          have HO := Aside0.mk hOpen
          clear H hOk hN hM hL hOpen ho
          gi_wp2
          refine ⟨trivial, fun h => by simp [Fence.wide] at h, callsIn_wide.2 ((seal_Open.calls A0 c0 l0 x t nx 0 wr (Kd.C_below HR.out HM.out.hb) HC.out HO.out).mono ?_)⟩
          rintro e5 w5 ⟨vb, rfl, hR5, hb5⟩
          simp only []
          have hM5 : seal_Scan.Mid A0 c0 l0 w (fun k => some k ≠ vb.ownBlock) z x w5 := HM.out.move hb5 (fun k hk _ e => by have := Kd.R_base hR5 k e.symm; omega)
          have hL5 : w5.heap[w.heap.size + 3 + 1]? = some rdy := (hb5.block _ (by have := hsz.out; omega)).trans HL.out
          have hR5' := Kd.R_lower hR5 hsz.out
          obtain ⟨fn, tm, asg, bd, hrun, hRi⟩ := hyA.out (m - 1) (z, x, t, nx, vb) w5 ⟨hM5, hR5', by have := HN.out.1.1; show z.length < _; omega⟩ hL5
          dsimp only at hrun hRi
          have hRiA := Aside0.mk hRi
          clear hRi hM5 hL5 hR5' hR5 hc3
          gi_wp2
          refine ⟨fun h => by simp [Fence.wide] at h, hRiA.out.mono ?_⟩
          rintro e6 w6 ⟨rfl, hL6, hM6⟩
          simp only []
          have hL6A := Aside0.mk hL6
          have hM6A := Aside0.mk hM6
          clear hL6 hM6 hrun hRiA hb5
          gi_wp2
          gi_roundg k1
          case measure => omega
          case rel => exact ⟨nx, z ++ [t], rfl, HS, ⟨by have := HN.out; simp only [List.length_append, List.length_singleton]; omega⟩, hM6A, hL6A⟩
        · rw [if_neg c] at H
          obtain ⟨rfl, rfl⟩ := Prod.mk.inj H
          have c3b0 : (e == 0) = false := beq_eq_false_iff_ne.mpr c
          have c3b1 : (e != 0) = true := bne_iff_ne.mpr c
          have HM := Aside0.mk hM
          have HL := Aside0.mk hL
          have HO := Aside0.mk hOpen
          clear H hOk hN hM hL hOpen ho
          gi_wp2
          refine ⟨trivial, fun h => by simp [Fence.wide] at h, callsIn_wide.2 ((seal_Open.calls A0 c0 l0 x t nx e wr (Kd.C_below HR.out HM.out.hb) HC.out HO.out).mono ?_)⟩
          rintro e5 w5 ⟨vb, rfl, hR5, hb5⟩
          simp only []
          have hM5 := Aside0.mk (HM.out.move (ok' := fun _ => True) hb5 (fun _ _ _ => trivial))
          have hL5 := Aside0.mk ((hb5.block _ (by have := hsz.out; omega)).trans HL.out)
          clear hR5 hb5 hc3
          gi_wp2
          repeat (refine ⟨fun _ _ => trivial, ?_⟩; gi_wp2)
          first | go_end0 | refine bodyPost_ret (results_none rfl _ _ _) rfl ?_
          exact ⟨⟨_, rfl⟩, hL5.out, hM5.out⟩
  case hdone =>
    intro o W hM
    obtain ⟨v, hv, hS⟩ := hM.v
    obtain ⟨A, c, rfl⟩ := Kd.S_slice hS
    obtain ⟨W3, hW3⟩ : ∃ W3, W.putObj (w.heap.size + 3 + 1) o = W3 := ⟨_, rfl⟩
    have hk : ∀ k, k ≠ w.heap.size + 3 + 1 → W3.heap[k]? = W.heap[k]? := fun k hk => by rw [← hW3]; exact World.putObj_heap_other hk
    have hc : W3.cell? ⟨w.heap.size, 0, none⟩ = some (.slice A r1.length c) := (World.cell?_of_block (hk _ (by first | (simp; done) | (simp; omega)))).trans hv
    have hf : W3.frozen? ⟨w.heap.size, 0, none⟩ = false := (World.frozen?_of_block (hk _ (by first | (simp; done) | (simp; omega)))).trans hM.f
    have hc2 : W3.cell? ⟨w.heap.size + 1, 0, none⟩ = some (.int .i64 r2) := (World.cell?_of_block (hk _ (by simp))).trans hM.c2
    have hf2 : W3.frozen? ⟨w.heap.size + 1, 0, none⟩ = false := (World.frozen?_of_block (hk _ (by simp))).trans hM.f2
    have hD3 : W3.heap[w.heap.size + 3]? = some (.deferred (some [])) := (hk _ (by omega)).trans hM.D
    have hS3 := Kd.S_step (w1 := W3) hS (fun k hk1 _ => hk k (by omega))
    have hb3 : Below w.heap.size w W3 := by rw [← hW3]; exact hM.hb.grown (grownBy_putObj' W _ o) hM.hb.size (fun k e => by cases e; omega)
    rw [hW3]
    clear hk hW3 hS hv
    have hc2' : (W3.setCell ⟨w.heap.size, 0, none⟩ (.slice A r1.length c)).cell? ⟨w.heap.size + 1, 0, none⟩ = some (.int .i64 r2) := (World.cell?_of_block (Below.heap_setCell W3 _ _ _ (by simp))).trans hc2
    have hf2' : (W3.setCell ⟨w.heap.size, 0, none⟩ (.slice A r1.length c)).frozen? ⟨w.heap.size + 1, 0, none⟩ = false := (World.frozen?_of_block (Below.heap_setCell W3 _ _ _ (by simp))).trans hf2
    gi_wp2
    gi_region
    obtain ⟨W5, hW5⟩ : ∃ W5, ((W3.setCell ⟨w.heap.size, 0, none⟩ (.slice A r1.length c)).setCell ⟨w.heap.size + 1, 0, none⟩ (.int .i64 r2)).drew = W5 := ⟨_, rfl⟩
    rw [hW5]
    have hk5 : ∀ k, k ≠ w.heap.size → k ≠ w.heap.size + 1 → W5.heap[k]? = W3.heap[k]? := fun k h1 h2 => by
      rw [← hW5]; exact (Below.heap_setCell _ _ _ _ h2).trans (Below.heap_setCell _ _ _ _ h1)
    have hc5 : W5.cell? ⟨w.heap.size, 0, none⟩ = some (.slice A r1.length c) := by
      rw [← hW5]; exact (World.cell?_of_block (Below.heap_setCell _ _ _ _ (by simp))).trans (World.cell?_setCell_same' _ _ _ (by rw [hc]; rfl))
    have hc6 : W5.cell? ⟨w.heap.size + 1, 0, none⟩ = some (.int .i64 r2) := by
      rw [← hW5]; exact World.cell?_setCell_same' _ _ _ (by rw [hc2']; rfl)
    have hb5 : Below w.heap.size w W5 := by rw [← hW5]; exact below_drew ((hb3.setCell (by simp) _).setCell (by simp) _)
    have hD5 : W5.heap[w.heap.size + 3]? = some (.deferred (some [])) := (hk5 _ (by omega) (by omega)).trans hD3
    have hS5 := Kd.S_step (w1 := W5) hS3 (fun k hk1 _ => hk5 k (by omega) (by omega))
    clear hW5 hc2' hf2' hS3 hD3 hf2 hc2 hf hc hk5 hb3
    gi_wp2
    refine ⟨by simp, .inl ⟨_, _, rfl, run_takeDeferred hD5, ?_⟩⟩
    obtain ⟨W6, hW6⟩ : ∃ W6, W5.putObj (w.heap.size + 3) (.deferred none) = W6 := ⟨_, rfl⟩
    have hk6 : ∀ k, k ≠ w.heap.size + 3 → W6.heap[k]? = W5.heap[k]? := fun k hk => by rw [← hW6]; exact World.putObj_heap_other hk
    have hc7 : W6.cell? ⟨w.heap.size, 0, none⟩ = some (.slice A r1.length c) := (World.cell?_of_block (hk6 _ (by simp))).trans hc5
    have hc8 : W6.cell? ⟨w.heap.size + 1, 0, none⟩ = some (.int .i64 r2) := (World.cell?_of_block (hk6 _ (by simp))).trans hc6
    have hb6 : Below w.heap.size w W6 := by rw [← hW6]; exact hb5.grown (grownBy_putObj' W5 _ _) hb5.size (fun k e => by cases e; omega)
    have hS6 := Kd.S_step (w1 := W6) hS5 (fun k hk1 _ => hk6 k (by omega))
    rw [hW6]
    refine ⟨_, ?_, .slice A r1.length c, rfl, Kd.S_mono (Kd.S_lower hS6 (by omega)) (fun _ _ => trivial), hb6⟩
    simp [results, Try.f30, go_sem, hc7, hc8]
end Go.Proofs.Ytfcdaifaocgjfaa.Pr
