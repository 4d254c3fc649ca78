/- A part of the proof of JournalBack; no condition. -/
import Derived.Test.YtfcdaifaocgjfaaGa2
import Derived.RegionTactic
namespace Go.Proofs.Ytfcdaifaocgjfaa.Pr
open Go.RowKit Go.Proofs.YtfcdaifaocgjfaaW.PrintWords Go.Proofs.YtfcdaifaocgjfaaW.PrintLast Go.Proofs.YtfcdaifaocgjfaaW.PrintMore
set_option linter.unusedVariables false
set_option linter.unusedSimpArgs false
/-- The reader's block. -/
def rdB (A0 : Option Addr) (n c0 : Nat) (a e : Int) : Obj := .cells #[.slice A0 n c0, .int .i64 a, .int .i64 e] 94
theorem rd_set {W : World} {g n c0 : Nat} {A0 : Option Addr} {a e : Int} (h : W.heap[g]? = some (rdB A0 n c0 a e)) (x y : Int) :
    ((W.setCell ⟨g, 1, none⟩ (.int .i64 x)).setCell ⟨g, 2, none⟩ (.int .i64 y)).heap[g]? = some (rdB A0 n c0 x y) ∧ W.grownBy ((W.setCell ⟨g, 1, none⟩ (.int .i64 x)).setCell ⟨g, 2, none⟩ (.int .i64 y)) (some g) := by
  refine ⟨?_, rfl, rfl, rfl, by simp, fun k hk hne => ?_⟩
  · simp [World.setCell, Array.getElem?_modify, h, rdB]
  · have hk' : k ≠ g := fun e => hne (by rw [e])
    exact (Below.heap_setCell _ _ _ _ hk').trans (Below.heap_setCell _ _ _ _ hk')
theorem drewN_grown (w : World) (n : Nat) (r : Option Nat) : w.grownBy (w.drewN n) r := ⟨rfl, rfl, rfl, Nat.le_refl _, fun _ _ _ => rfl⟩
set_option maxHeartbeats 2000000 in
set_option maxRecDepth 100000 in
theorem rdNumber0 (A0 : Option Addr) (c0 : Nat) (l0 : List Int) (g : Nat) (a e : Int) (w : World) (he : e ≠ 0) (hg : w.heap[g]? = some (rdB A0 l0.length c0 a e)) :
    Calls Try.prog 65 #[.pointer (some ⟨g, 0, none⟩)] w fun e' w' => e' = .returned (.int .i64 0) ∧ w' = w := by
  have h2 : w.cell? ⟨g, 2, none⟩ = some (.int .i64 e) := by rw [World.cell?, hg]; rfl
  have hb : (e == 0) = false := beq_eq_false_iff_ne.mpr he
  clear he hg
  go_enter Try.func65, Try.ntmps65
  go_wp2
  go_ret
  exact ⟨rfl, rfl⟩
set_option maxHeartbeats 2000000 in
set_option maxRecDepth 100000 in
theorem rdNumber (A0 : Option Addr) (c0 : Nat) (l0 : List Int) (g : Nat) (a : Int) (w : World) (hr0 : Kd.C (Kd.int .u8) w A0 l0.length l0) (hc0 : l0.length ≤ c0) (hb : Oc.okB l0 = true) (hg : w.heap[g]? = some (rdB A0 l0.length c0 a 0)) :
    Calls Try.prog 65 #[.pointer (some ⟨g, 0, none⟩)] w fun e' w' => e' = .returned (.int .i64 (Oc.getI l0 a).1) ∧ w'.heap[g]? = some (rdB A0 l0.length c0 (Oc.getI l0 a).2.1 (Oc.getI l0 a).2.2) ∧ w.grownBy w' (some g) := by
  have h0 : w.cell? ⟨g, 0, none⟩ = some (.slice A0 l0.length c0) := by rw [World.cell?, hg]; rfl
  have h1 : w.cell? ⟨g, 1, none⟩ = some (.int .i64 a) := by rw [World.cell?, hg]; rfl
  have h2 : w.cell? ⟨g, 2, none⟩ = some (.int .i64 0) := by rw [World.cell?, hg]; rfl
  have f1 : w.frozen? ⟨g, 1, none⟩ = false := by rw [World.frozen?, hg]; rfl
  have f2 : w.frozen? ⟨g, 2, none⟩ = false := by rw [World.frozen?, hg]; rfl
  have G := Aside0.mk (fun n => octet_GetInt.same A0 c0 l0 a (Oc.getI l0 a).1 (Oc.getI l0 a).2.1 (Oc.getI l0 a).2.2 (w.drewN n) (Kd.C_drewN hr0 n) hc0 hb rfl)
  generalize Oc.getI l0 a = gg at G ⊢
  obtain ⟨v, nx, e⟩ := gg
  dsimp only at G ⊢
  have HG := Aside0.mk hg
  clear hr0 hc0 hb hg
  go_enter Try.func65, Try.ntmps65
  go_wp2
  go_region_with (go_at_call 73; refine (G.out 1).mono ?_; rintro e w' ⟨rfl, rfl⟩)
  all_goals
    go_wp2
    go_ret
    have hs := rd_set (W := w.drewN 1) HG.out nx e
    exact ⟨rfl, hs.1, World.grownBy.trans (drewN_grown w 1 _) hs.2⟩
set_option maxHeartbeats 2000000 in
set_option maxRecDepth 100000 in
theorem rdWeek0 (A0 : Option Addr) (c0 : Nat) (l0 : List Int) (g : Nat) (a e : Int) (w : World) (he : e ≠ 0) (hg : w.heap[g]? = some (rdB A0 l0.length c0 a e)) :
    Calls Try.prog 66 #[.pointer (some ⟨g, 0, none⟩)] w fun e' w' => e' = .returned (.agg #[.slice none 0 0]) ∧ Below w.heap.size w w' := by
  have hgl : g < w.heap.size := (Array.getElem?_eq_some_iff.1 hg).1
  have hg1 : (w.alloc (.cells #[.slice none 0 0] 48)).heap[g]? = some (rdB A0 l0.length c0 a e) := (Below.heap_alloc _ _ _ hgl).trans hg
  have h2 : (w.alloc (.cells #[.slice none 0 0] 48)).cell? ⟨g, 2, none⟩ = some (.int .i64 e) := by rw [World.cell?, hg1]; rfl
  have hb : (e == 0) = false := beq_eq_false_iff_ne.mpr he
  clear he hg hg1
  go_enter Try.func66, Try.ntmps66
  go_wp2
  refine bodyPost_ret (v := .agg #[.slice none 0 0]) (by simp [results, Try.results66, go_sem]) rfl ⟨rfl, by first | exact below_alloc (Below.refl _ _) _ | exact (below_alloc (Below.refl _ _) _).setCell (Nat.le_refl _) _⟩
theorem rd_facts {W : World} {g n c0 : Nat} {A0 : Option Addr} {a e : Int} (h : W.heap[g]? = some (rdB A0 n c0 a e)) :
    W.cell? ⟨g, 0, none⟩ = some (.slice A0 n c0) ∧ W.cell? ⟨g, 1, none⟩ = some (.int .i64 a) ∧ W.cell? ⟨g, 2, none⟩ = some (.int .i64 e) ∧ W.frozen? ⟨g, 1, none⟩ = false ∧ W.frozen? ⟨g, 2, none⟩ = false :=
  ⟨by rw [World.cell?, h]; rfl, by rw [World.cell?, h]; rfl, by rw [World.cell?, h]; rfl, by rw [World.frozen?, h]; rfl, by rw [World.frozen?, h]; rfl⟩
theorem rd_after {w w' : World} {g : Nat} {o o1 : Obj} {m : Nat} (hgl : g < w.heap.size) (hg1 : (w.alloc o1).heap[g]? = some o) (hb : Below ((w.alloc o1).drewN m).heap.size ((w.alloc o1).drewN m) w') : w'.heap[g]? = some o ∧ w'.heap[w.heap.size]? = some o1 := by
  have hs : (w.alloc o1).heap.size = w.heap.size + 1 := by simp
  exact ⟨(hb.block g (by show g < (w.alloc o1).heap.size; omega)).trans hg1, (hb.block w.heap.size (by show w.heap.size < (w.alloc o1).heap.size; omega)).trans (heap_alloc_new w o1)⟩
theorem rd_end {w w' : World} {g n c0 : Nat} {A0 : Option Addr} {a : Int} {m : Nat} {o1 : Obj} {v0 : Value} {v : List S76} (hgl : g < w.heap.size) (hR : Kd.R k76 76 w' ((w.alloc o1).drewN m).heap.size (fun _ => True) v0 v) (hb : Below ((w.alloc o1).drewN m).heap.size ((w.alloc o1).drewN m) w') (hg : w'.heap[g]? = some (rdB A0 n c0 a 0)) (u : Value) (x y : Int) :
    Kd.R k76 76 (((w'.setCell ⟨w.heap.size, 0, none⟩ u).setCell ⟨g, 1, none⟩ (.int .i64 x)).setCell ⟨g, 2, none⟩ (.int .i64 y)) w.heap.size (fun k => k ≠ w.heap.size) v0 v ∧
    (((w'.setCell ⟨w.heap.size, 0, none⟩ u).setCell ⟨g, 1, none⟩ (.int .i64 x)).setCell ⟨g, 2, none⟩ (.int .i64 y)).heap[g]? = some (rdB A0 n c0 x y) ∧
    w.grownBy (((w'.setCell ⟨w.heap.size, 0, none⟩ u).setCell ⟨g, 1, none⟩ (.int .i64 x)).setCell ⟨g, 2, none⟩ (.int .i64 y)) (some g) := by
  have hs : ((w.alloc o1).drewN m).heap.size = w.heap.size + 1 := by show (w.alloc o1).heap.size = _; simp
  have e : ∀ k, k ≠ w.heap.size → k ≠ g → (((w'.setCell ⟨w.heap.size, 0, none⟩ u).setCell ⟨g, 1, none⟩ (.int .i64 x)).setCell ⟨g, 2, none⟩ (.int .i64 y)).heap[k]? = w'.heap[k]? := fun k h1 h2 =>
    (Below.heap_setCell _ _ _ _ h2).trans ((Below.heap_setCell _ _ _ _ h2).trans (Below.heap_setCell _ _ _ _ h1))
  have h0 := rd_set (W := w'.setCell ⟨w.heap.size, 0, none⟩ u) ((Below.heap_setCell _ _ _ _ (by show g ≠ w.heap.size; omega)).trans hg) x y
  refine ⟨Kd.R_mono (Kd.R_lower (Kd.R_step (Kd.R_bound hR) (fun k hk _ => e k (by have := hk.2.1; omega) (by have := hk.2.1; omega))) (by omega)) (fun k hk => by have := hk.2.1; omega), h0.1, hb.os, hb.tape, hb.output, by have := hb.size; simp; omega, fun k hk hne => ?_⟩
  exact (e k (by omega) (fun h => hne (by rw [h]))).trans ((hb.block k (by omega)).trans (Below.heap_alloc w o1 k hk))
set_option maxHeartbeats 4000000 in
set_option maxRecDepth 100000 in
theorem rdWeek (A0 : Option Addr) (c0 : Nat) (l0 : List Int) (g : Nat) (a : Int) (w : World) (hr0 : Kd.C (Kd.int .u8) w A0 l0.length l0) (hc0 : l0.length ≤ c0) (hb : Oc.okB l0 = true) (hg : w.heap[g]? = some (rdB A0 l0.length c0 a 0)) :
    Calls Try.prog 66 #[.pointer (some ⟨g, 0, none⟩)] w fun e' w' => ∃ v0_ : Value, e' = .returned (.agg #[v0_]) ∧ Kd.R k76 76 w' w.heap.size (fun _ => True) v0_ (week_Get_w l0 a).1 ∧ w'.heap[g]? = some (rdB A0 l0.length c0 (week_Get_w l0 a).2.1 (week_Get_w l0 a).2.2) ∧ w.grownBy w' (some g) := by
  have hgl : g < w.heap.size := (Array.getElem?_eq_some_iff.1 hg).1
  have hg1 : (w.alloc (.cells #[.slice none 0 0] 48)).heap[g]? = some (rdB A0 l0.length c0 a 0) := (Below.heap_alloc _ _ _ hgl).trans hg
  obtain ⟨h0, h1, h2, f1, f2⟩ := rd_facts hg1
  have G := Aside0.mk (fun n => week_Get.calls_ A0 c0 l0 a (week_Get_w l0 a).1 (week_Get_w l0 a).2.1 (week_Get_w l0 a).2.2 ((w.alloc (.cells #[.slice none 0 0] 48)).drewN n) (Kd.C_drewN (Kd.C_below hr0 (below_alloc (Below.refl _ _) _)) n) hc0 hb rfl)
  generalize week_Get_w l0 a = gg at G ⊢
  obtain ⟨v, nx, e⟩ := gg
  dsimp only at G ⊢
  have HG := Aside0.mk (And.intro hg1 hgl)
  have hB1 : (w.alloc (.cells #[.slice none 0 0] 48)).heap[w.heap.size]? = some (.cells #[.slice none 0 0] 48) := heap_alloc_new w _
  have HB1 := Aside0.mk hB1
  clear hr0 hc0 hb hg hg1 hB1
  go_enter Try.func66, Try.ntmps66
  go_wp2
  go_region_with (go_at_call 74; refine (G.out 1).mono ?_; rintro e w' ⟨v0, rfl, ho, hb⟩; obtain ⟨A1, c1, rfl⟩ := Kd.R_slice ho; obtain ⟨hg', hB'⟩ := rd_after HG.out.2 HG.out.1 hb; obtain ⟨_, k1, k2, j1, j2⟩ := rd_facts hg'; have kB : w'.cell? ⟨w.heap.size, 0, none⟩ = some (.slice none 0 0) := (by rw [World.cell?, hB']; rfl); have jB : w'.frozen? ⟨w.heap.size, 0, none⟩ = false := (by rw [World.frozen?, hB']; rfl); have HO := Aside0.mk (And.intro ho (And.intro hb (And.intro hg' hB'))); clear ho hb hg' hB')
  all_goals
    have hE := rd_end (c0 := c0) HG.out.2 HO.out.1 HO.out.2.1 HO.out.2.2.1 (.slice A1 v.length c1) nx e
    have HE := Aside0.mk hE
    clear hE HO k1 k2 j1 j2
    have hkB : (((w'.setCell ⟨w.heap.size, 0, none⟩ (.slice A1 v.length c1)).setCell ⟨g, 1, none⟩ (.int .i64 nx)).setCell ⟨g, 2, none⟩ (.int .i64 e)).cell? ⟨w.heap.size, 0, none⟩ = some (.slice A1 v.length c1) := by
      have hgl := HG.out.2
      refine (World.cell?_of_block ((Below.heap_setCell _ _ _ _ (by show w.heap.size ≠ g; omega)).trans (Below.heap_setCell _ _ _ _ (by show w.heap.size ≠ g; omega)))).trans (World.cell?_setCell_same' _ _ _ (by rw [kB]; rfl))
    have hjB : (((w'.setCell ⟨w.heap.size, 0, none⟩ (.slice A1 v.length c1)).setCell ⟨g, 1, none⟩ (.int .i64 nx)).setCell ⟨g, 2, none⟩ (.int .i64 e)).frozen? ⟨w.heap.size, 0, none⟩ = false := by
      rw [World.frozen?_setCell, World.frozen?_setCell, World.frozen?_setCell]; exact jB
    obtain ⟨WF, hWF⟩ : ∃ WF, (((w'.setCell ⟨w.heap.size, 0, none⟩ (.slice A1 v.length c1)).setCell ⟨g, 1, none⟩ (.int .i64 nx)).setCell ⟨g, 2, none⟩ (.int .i64 e)) = WF := ⟨_, rfl⟩
    rw [hWF] at HE hkB hjB
    rw [hWF]
    clear hWF kB jB
    go_wp2
    refine bodyPost_ret (v := .agg #[.slice A1 v.length c1]) (by simp [results, Try.results66, go_sem, hkB]) rfl ⟨_, rfl, Kd.R_mono (Kd.R_far HE.out.1 (p := ⟨w.heap.size, 0, none⟩) (fun k_ hk_ => hk_) _) (fun _ _ => trivial), (Below.heap_setCell _ _ _ _ (by have := HG.out.2; show g ≠ w.heap.size; omega)).trans HE.out.2.1, ⟨HE.out.2.2.os, HE.out.2.2.tape, HE.out.2.2.output, by have := HE.out.2.2.size; simpa using this, fun k_ hk_ hne_ => (Below.heap_setCell _ _ _ _ (by show k_ ≠ w.heap.size; omega)).trans (HE.out.2.2.block k_ hk_ hne_)⟩⟩
end Go.Proofs.Ytfcdaifaocgjfaa.Pr
