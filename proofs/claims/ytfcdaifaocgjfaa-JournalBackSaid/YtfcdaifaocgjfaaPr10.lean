/- A part of the proof of JournalBack; no condition. -/
import Derived.Test.YtfcdaifaocgjfaaGa0
import Derived.Test.YtfcdaifaocgjfaaGa1
import Derived.Test.YtfcdaifaocgjfaaPr8
import Derived.IntWalk
namespace Go.Proofs.Ytfcdaifaocgjfaa.Pr
open Go.RowKit Go.Proofs.YtfcdaifaocgjfaaW.PrintWords Go.Proofs.YtfcdaifaocgjfaaW.PrintLast Go.Proofs.YtfcdaifaocgjfaaW.PrintMore
attribute [local go_sem] max2_int min2_int max_two min_two max_three min_three max_four min_four   -- for this text's walks alone
set_option linter.unusedVariables false
set_option linter.unusedSimpArgs false
/-- What versions computes: the records one after the other, numbered from n on. -/
def jv_l0 : Nat → List (List Int) → Int → List S50 → Int → Option (List S50 × Int × Int)
  | 0, _, _, _, _ => none
  | k + 1, x18, n, x8, x20 => if x20 < (x18.length : Int) then (if 0 ≤ x20 then (if 0 ≤ n ∧ n < 4611686018427387904 then ((journal_read.f (rd_L1 x18 x20)).bind fun bt => (if bt.2.2.2.2 = true then (if bt.1 = n then (if x8.length < 2932031007402 then (jv_l0 k x18 (n + 1) (x8 ++ [(⟨bt.1, (⟨bt.2.1⟩ : S48), bt.2.2.1, bt.2.2.2.1⟩ : S50)]) (wrap64 (x20 + 1))) else none) else (some ([], 340, n + 1))) else (some ([], 340, n)))) else none) else none) else (some (x8, 0, n))
def jv_f (l0 : List Int) (n : Int) : Option (List S50 × Int × Int) := (seal_Scan.f l0).bind fun bt => if bt.2 = (l0.length : Int) then jv_l0 (bt.1.length + 1) bt.1 n [] 0 else some ([], 340, n)
/-- The world ahead with the counter's cell at n. -/
structure Jb (w : World) (g : Nat) (n : Int) (u : World) : Prop where
  sz : u.heap.size = w.heap.size
  cell : u.heap[g]? = some (.cells #[.int .i64 n] 3)
  gr : w.grownBy u (some g)
theorem Jb.start {w : World} {g : Nat} {n : Int} (h : w.heap[g]? = some (.cells #[.int .i64 n] 3)) : Jb w g n w := ⟨rfl, h, World.grownBy.refl _ _⟩
theorem Jb.next {w : World} {g : Nat} {n : Int} {u : World} (h : Jb w g n u) (m : Int) : Jb w g m (u.setCell ⟨g, 0, none⟩ (.int .i64 m)) :=
  ⟨by simpa using h.sz, by simp [World.setCell, Array.getElem?_modify, h.cell], ⟨h.gr.os, h.gr.tape, h.gr.output, by simpa using h.gr.size, fun k hk hne => (Below.heap_setCell _ _ _ _ (fun e => hne (by rw [e]))).trans (h.gr.block k hk hne)⟩⟩
theorem Jb.lt {w : World} {g : Nat} {n : Int} {u : World} (h : Jb w g n u) : g < u.heap.size := (Array.getElem?_eq_some_iff.1 h.cell).1
theorem Jb.at_ {w : World} {g : Nat} {n : Int} {u W : World} (h : Jb w g n u) (hb : Below u.heap.size u W) : W.heap[g]? = some (.cells #[.int .i64 n] 3) := (hb.block g h.lt).trans h.cell
theorem Jb.put {w : World} {g : Nat} {n : Int} {u W : World} (h : Jb w g n u) (hb : Below u.heap.size u W) (m : Int) : Below (u.setCell ⟨g, 0, none⟩ (.int .i64 m)).heap.size (u.setCell ⟨g, 0, none⟩ (.int .i64 m)) (W.setCell ⟨g, 0, none⟩ (.int .i64 m)) := by
  have hs : (u.setCell ⟨g, 0, none⟩ (.int .i64 m)).heap.size = u.heap.size := by simp
  refine ⟨hb.os, hb.tape, hb.output, by rw [hs]; simpa using hb.size, fun k hk => ?_⟩
  rw [hs] at hk
  by_cases hkg : k = g
  · subst hkg
    simp [World.setCell, Array.getElem?_modify, hb.block k hk]
  · exact (Below.heap_setCell _ _ _ _ hkg).trans ((hb.block k hk).trans (Below.heap_setCell _ _ _ _ hkg).symm)
theorem Jb.out {w : World} {g : Nat} {n : Int} {u W : World} (h : Jb w g n u) (hb : Below u.heap.size u W) : W.heap[g]? = some (.cells #[.int .i64 n] 3) ∧ w.grownBy W (some g) :=
  ⟨h.at_ hb, ⟨hb.os.trans h.gr.os, hb.tape.trans h.gr.tape, hb.output.trans h.gr.output, Nat.le_trans h.gr.size hb.size, fun k hk hne => (hb.block k (by rw [h.sz]; exact hk)).trans (h.gr.block k hk hne)⟩⟩
theorem Jb.far {α : Type} {d : Kd α} {e g : Nat} {n m : Int} {w u W : World} {ok : Nat → Prop} {v : Value} {xs : List α} (h : Jb w g n u) (hS : Kd.S d e W u.heap.size ok v xs) : Kd.S d e (W.setCell ⟨g, 0, none⟩ (.int .i64 m)) (u.setCell ⟨g, 0, none⟩ (.int .i64 m)).heap.size ok v xs := by
  have hs : (u.setCell ⟨g, 0, none⟩ (.int .i64 m)).heap.size = u.heap.size := by simp
  rw [hs]
  exact Kd.S_mono (Kd.S_far (Kd.S_bound hS) (p := ⟨g, 0, none⟩) (fun k hk => by have := hk.2.1; have := h.lt; show k ≠ g; omega) _) (fun _ hk => hk.1)
theorem Jb.farR {α : Type} {d : Kd α} {e g : Nat} {n m : Int} {w u W : World} {ok : Nat → Prop} {v : Value} {xs : List α} (h : Jb w g n u) (hS : Kd.R d e W u.heap.size ok v xs) : Kd.R d e (W.setCell ⟨g, 0, none⟩ (.int .i64 m)) (u.setCell ⟨g, 0, none⟩ (.int .i64 m)).heap.size ok v xs := by
  have hs : (u.setCell ⟨g, 0, none⟩ (.int .i64 m)).heap.size = u.heap.size := by simp
  rw [hs]
  exact Kd.R_mono (Kd.R_far (Kd.R_bound hS) (p := ⟨g, 0, none⟩) (fun k hk => by have := hk.2.1; have := h.lt; show k ≠ g; omega) _) (fun _ hk => hk.1)
theorem Jb.blk {g gb : Nat} {n m : Int} {w u W : World} {o : Obj} (h : Jb w g n u) (hg : u.heap.size ≤ gb) (hb : W.heap[gb]? = some o) : (W.setCell ⟨g, 0, none⟩ (.int .i64 m)).heap[gb]? = some o ∧ (u.setCell ⟨g, 0, none⟩ (.int .i64 m)).heap.size ≤ gb := by
  have hs : (u.setCell ⟨g, 0, none⟩ (.int .i64 m)).heap.size = u.heap.size := by simp
  exact ⟨(Below.heap_setCell _ _ _ _ (by have := h.lt; show gb ≠ g; omega)).trans hb, by rw [hs]; exact hg⟩
set_option maxHeartbeats 4000000 in
set_option maxRecDepth 100000 in
/-- from$1: the next number. -/
theorem jv_next (g : Nat) (n : Int) (w : World) (hg : w.heap[g]? = some (.cells #[.int .i64 n] 3)) (h0 : 0 ≤ n) (h1 : n < 4611686018427387904) :
    Calls Try.prog 51 #[.pointer (some ⟨g, 0, none⟩)] w fun e w' => e = .returned (.int .i64 n) ∧ w' = w.setCell ⟨g, 0, none⟩ (.int .i64 (n + 1)) := by
  have hc : w.cell? ⟨g, 0, none⟩ = some (.int .i64 n) := by rw [World.cell?, hg]; rfl
  have hf : w.frozen? ⟨g, 0, none⟩ = false := by rw [World.frozen?, hg]; rfl
  have e1 : IntKind.i64.wrap (n + 1) = n + 1 := IntWalk.i64_in _ (by omega)
  have e2 : IntKind.i64.wrap (n + 1 - 1) = n := by rw [show n + 1 - 1 = n by omega]; exact IntWalk.i64_in _ (by omega)
  have e3 : wrap64 n = n := (i64_w n).symm.trans (IntWalk.i64_in _ (by omega))
  have hc2 : (w.setCell ⟨g, 0, none⟩ (.int .i64 (n + 1))).cell? ⟨g, 0, none⟩ = some (.int .i64 (n + 1)) := World.cell?_setCell_same' _ _ _ (by rw [hc]; rfl)
  clear hg h0 h1
  go_enter Try.func51, Try.ntmps51
  go_wp2
  all_goals first | (refine bodyPost_ret (v := .int .i64 n) (by simp [results, Try.results51, go_sem, e2, e3]) rfl ⟨rfl, rfl⟩) | trace_state
set_option maxHeartbeats 40000000 in
set_option maxRecDepth 100000 in
theorem jv_calls (A0 : Option Addr) (c0 : Nat) (l0 : List Int) (g : Nat) (n0 : Int) (r1 : List S50) (r2 r3 : Int) (w : World) (hr0 : Kd.C (Kd.int .u8) w A0 l0.length l0) (hc0 : l0.length ≤ c0) (hg : w.heap[g]? = some (.cells #[.int .i64 n0] 3)) (h : jv_f l0 n0 = some (r1, r2, r3)) :
    Calls Try.prog 36 #[.slice A0 l0.length c0, .func (.func 51) #[] #[.pointer (some ⟨g, 0, none⟩)]] w fun e w' => ∃ v0_ : Value, e = .returned (.tuple #[v0_, .int .i64 r2]) ∧ Kd.S k50 50 w' w.heap.size (fun _ => True) v0_ r1 ∧ w'.heap[g]? = some (.cells #[.int .i64 r3] 3) ∧ w.grownBy w' (some g) := by
  have hu50 := Try.underlying50
  have HR0 := Aside0.mk hr0
  have HC0 := Aside0.mk hc0
  have HJ := Aside0.mk (Jb.start hg)
  clear hr0 hc0 hg
  have HB := Aside0.mk (Below.refl w.heap.size w)
  have H : ((seal_Scan.f l0).bind fun bt => if bt.2 = (l0.length : Int) then jv_l0 (bt.1.length + 1) bt.1 n0 [] 0 else some ([], 340, n0)) = some (r1, r2, r3) := h
  clear h
  replace H := Option.bind_eq_some_iff.mp H
  obtain ⟨⟨t232, t233⟩, A30, H⟩ := H
  replace H : (if t233 = (l0.length : Int) then jv_l0 (t232.length + 1) t232 n0 [] 0 else some ([], 340, n0)) = some (r1, r2, r3) := H
  have A3 := Aside0.mk A30
  clear A30
  by_cases c1 : t233 = (l0.length : Int)
  · rw [if_pos c1] at H
    have c1b : (t233 != (l0.length : Int)) = false := bne_eq_false_iff_eq.mpr c1
    clear c1
    have H' := Aside0.mk H
    clear H
    go_enter Try.func36, Try.ntmps36
    go_wp2_with (first | ((with_reducible refine gate_callee (f := 30) rfl ?_); refine goesL_ (some 14) rfl rfl Try.func30 (by kernel_rfl) rfl #[.slice A0 l0.length c0] rfl (by (try simp only [List.map_toArray, List.map_cons, List.map_nil]); first | done | rfl | (simp only [List.length_drop, List.length_take]; rfl)) ?_; (with_reducible refine (seal_Scan.calls _ _ l0 t232 t233 _ ?side1 ?side2 A3.out).mono ?_); (case side1 => repeat (first | exact HR0.out | (with_reducible refine Kd.C_alloc ?_ _) | (with_reducible refine Kd.C_drewN ?_ _) | (with_reducible refine Kd.C_drew ?_))); (case side2 => exact HC0.out); rintro e w4 ⟨v234, rfl, ho0, hb⟩; refine ⟨_, rfl, ?_⟩; have n0_ := Aside0.mk (Kd.S_lower ho0 (below_size (by repeat (first | (with_reducible first | exact HB.out | apply below_alloc | apply pw_below_drewN | apply below_drew1) | exact HB.out)))); have n1_ := Aside0.mk (below_step (by repeat (first | (with_reducible first | exact HB.out | apply below_alloc | apply pw_below_drewN | apply below_drew1) | exact HB.out)) hb); clear HB; have HO235 := n0_; have HB := n1_; clear n0_ n1_; (try clear hb); (try clear hb2); (try clear hk); (try clear hi); (try clear ho0); obtain ⟨Ao5, co5, eo5⟩ := Kd.S_slice HO235.out; subst eo5))
    go_loopg [4, 23] (t232.length + 1) (fun kq v4 v23 w' => ∃ (x8_1 : List S50) (x20_1 : Int) (n : Int) (wb : World), v23 = .int .i64 x20_1 ∧ Aside0 (jv_l0 kq t232 n x8_1 x20_1 = some (r1, r2, r3)) ∧ Aside0 (kq ≤ t232.length + 1) ∧ Aside0 (Jb w g n wb) ∧ Aside0 (Kd.S k50 50 w' wb.heap.size (fun _ => True) v4 x8_1) ∧ Aside0 (Kd.S (Kd.slice 5 (Kd.int .u8)) 22 w' wb.heap.size (fun _ => True) (.slice Ao5 t232.length co5) t232) ∧ Aside0 (Below wb.heap.size wb w'))
    case atStart => exact ⟨[], 0, n0, w, rfl, H', ⟨Nat.le_refl _⟩, HJ, ⟨Kd.S_nil _ _ _ _ _⟩, ⟨by (with_reducible repeat (first | apply Kd.S_alloc | apply Kd.S_drewN | apply Kd.S_drew)); exact HO235.out⟩, ⟨by repeat (first | (with_reducible first | exact HB.out | apply below_alloc | apply pw_below_drewN | apply below_drew1) | exact HB.out)⟩⟩
    case round =>
      clear H' HB HJ
      try clear HO235
      obtain ⟨x8_1, x20_1, n, wb, rfl, HA, HK1, HJ, HO_8, HO_18, HB⟩ := hrel
      cases gk with
      | zero => exact absurd HA.out (by simp [jv_l0])
      | succ k1 =>
        have H := HA.out
        clear HA
        simp only [jv_l0] at H
        by_cases c6 : x20_1 < (t232.length : Int)
        · rw [if_pos c6] at H
          have c6b0 : decide (x20_1 < (t232.length : Int)) = true := decide_eq_true c6
          by_cases c7 : 0 ≤ x20_1
          · rw [if_pos c7] at H
            by_cases c8 : 0 ≤ n ∧ n < 4611686018427387904
            · rw [if_pos c8] at H
              have HN := Aside0.mk c8
              clear c8
              replace H := Option.bind_eq_some_iff.mp H
              obtain ⟨⟨t237, t238, t241, t242, t243⟩, A90, H⟩ := H
              dsimp only at H
              have A9 := Aside0.mk A90
              clear A90
              have p236 : 0 ≤ (x20_1 : Int) := c7
              have q236 : x20_1 < (t232.length : Int) := c6
              clear c6 c7
              obtain ⟨ad236, A236_0, c236_0, e236, hx236_0, hl236_0, hi236_0⟩ := at_L1 (Kd.S_reads' HO_18.out).2.2 x20_1 p236 q236
              cases e236
              obtain ⟨ce236, hce236, hMe236, hcc236⟩ := Kd.S_get HO_18.out [] x20_1 p236 q236
              obtain ⟨ve236_0, rfl, ge236_0⟩ := hMe236
              have hv236_0 := hcc236 0 _ rfl
              rw [Nat.add_zero, show ((Kd.slice 5 (Kd.int .u8))).sz = 1 from rfl, Nat.mul_one] at hv236_0
              replace hv236_0 := Option.some.inj (hv236_0.symm.trans hx236_0)
              rw [hv236_0] at ge236_0
              have HL236_0 := Aside0.mk (show Kd.R (Kd.int .u8) 5 _ _ _ _ (rd_L1 t232 x20_1) from ge236_0)
              clear hv236_0 ge236_0
              clear hcc236 hce236
              have HR236_0 := Aside0.mk hi236_0
              have HC236_0 := Aside0.mk hl236_0
              clear hi236_0 hl236_0
              replace p236 := eq_true p236
              replace q236 := eq_true q236
              cases t243 with
              | false =>
                have H1 : (some (([] : List S50), (340 : Int), n)) = some (r1, r2, r3) := by rw [if_neg (show ¬ (false = true) by decide)] at H; exact H
                have H1' := Aside0.mk H1
                clear H H1
                go_wp2_with (first | ((with_reducible refine gate_callee (f := 52) rfl ?_); refine goesL_ (some 29) rfl rfl Try.func52 (by kernel_rfl) rfl #[.slice A236_0 (rd_L1 t232 x20_1).length c236_0] rfl (by (try simp only [List.map_toArray, List.map_cons, List.map_nil]); first | done | rfl | (simp only [List.length_drop, List.length_take]; rfl)) ?_; (with_reducible refine (journal_read.calls _ _ (rd_L1 t232 x20_1) t237 t238 t241 t242 false _ ?side1 ?side2 A9.out).mono ?_); (case side1 => repeat (first | exact (by repeat (first | (with_reducible exact HR236_0.out) | (with_reducible refine Kd.C_alloc ?_ _) | (with_reducible refine Kd.C_drewN ?_ _) | (with_reducible refine Kd.C_drew ?_) | exact HR236_0.out)) | (with_reducible refine Kd.C_alloc ?_ _) | (with_reducible refine Kd.C_drewN ?_ _) | (with_reducible refine Kd.C_drew ?_))); (case side2 => exact HC236_0.out); rintro e w13 ⟨v239, rfl, ho0, hb⟩; refine ⟨_, rfl, ?_⟩; have n0_ := Aside0.mk (Kd.S_elder' (by (with_reducible repeat (first | apply Kd.S_alloc | apply Kd.S_drewN | apply Kd.S_drew)); exact HO_8.out) (Kd.R_base ho0) hb); have n1_ := Aside0.mk (Kd.S_below (by (with_reducible repeat (first | apply Kd.S_alloc | apply Kd.S_drewN | apply Kd.S_drew)); exact HO_18.out) hb); have n2_ := Aside0.mk (Kd.R_below (by (with_reducible repeat (first | apply Kd.R_alloc | apply Kd.R_drewN | apply Kd.R_drew)); exact HL236_0.out) hb); have n3_ := Aside0.mk (Kd.R_lower ho0 (below_size (by repeat (first | (with_reducible first | exact HB.out | apply below_alloc | apply pw_below_drewN | apply below_drew1) | exact HB.out)))); have n4_ := Aside0.mk (Kd.C_below (by repeat (first | (with_reducible exact HR236_0.out) | (with_reducible refine Kd.C_alloc ?_ _) | (with_reducible refine Kd.C_drewN ?_ _) | (with_reducible refine Kd.C_drew ?_) | exact HR236_0.out)) hb); have n5_ := Aside0.mk (below_step (by repeat (first | (with_reducible first | exact HB.out | apply below_alloc | apply pw_below_drewN | apply below_drew1) | exact HB.out)) hb); clear HO_8; clear HO_18; clear HL236_0; clear HR236_0; clear HB; have HO_8 := n0_; have HO_18 := n1_; have HL236_0 := n2_; have HO240 := n3_; have HR236_0 := n4_; have HB := n5_; clear n0_ n1_ n2_ n3_ n4_ n5_; (try clear hb); (try clear hb2); (try clear hk); (try clear hi); (try clear ho0)) | ((with_reducible refine gate_dst (N := 10) rfl ?_); refine box_event ?hg (N := 10) ?hd (cs := #[.int .i64 0, .slice none 0 0, .int .i64 0, .bool false]) (t := 50) ?hr ?_; (case hd => rfl); (case hg => rfl); (case hr => first | (go_simp; done) | (go_simp; rfl)); intro gb244 hg w14 hbox hb; have n0_ := Aside0.mk (Kd.S_below (Kd.S_elderB (by (with_reducible repeat (first | apply Kd.S_alloc | apply Kd.S_drewN | apply Kd.S_drew)); exact HO_8.out) gb244 (Nat.le_of_eq hg.symm)) hb); have n1_ := Aside0.mk (Kd.S_below (by (with_reducible repeat (first | apply Kd.S_alloc | apply Kd.S_drewN | apply Kd.S_drew)); exact HO_18.out) hb); have n2_ := Aside0.mk (Kd.R_below (by (with_reducible repeat (first | apply Kd.R_alloc | apply Kd.R_drewN | apply Kd.R_drew)); exact HL236_0.out) hb); have n3_ := Aside0.mk (Kd.R_below (by (with_reducible repeat (first | apply Kd.R_alloc | apply Kd.R_drewN | apply Kd.R_drew)); exact HO240.out) hb); have n4_ := Aside0.mk (Kd.C_below (by repeat (first | (with_reducible exact HR236_0.out) | (with_reducible refine Kd.C_alloc ?_ _) | (with_reducible refine Kd.C_drewN ?_ _) | (with_reducible refine Kd.C_drew ?_) | exact HR236_0.out)) hb); have n5_ := Aside0.mk (below_step (by repeat (first | (with_reducible first | exact HB.out | apply below_alloc | apply pw_below_drewN | apply below_drew1) | exact HB.out)) hb); have n6_ := Aside0.mk (hbox); have n7_ := Aside0.mk ((by rw [hg]; exact (below_size (by repeat (first | (with_reducible first | exact HB.out | apply below_alloc | apply pw_below_drewN | apply below_drew1) | exact HB.out))) : wb.heap.size ≤ gb244)); have n8_ := Aside0.mk ((by rw [hg]; exact (below_size (by repeat (first | (with_reducible first | exact HB.out | apply below_alloc | apply pw_below_drewN | apply below_drew1) | exact HB.out))) : wb.heap.size ≤ gb244)); clear HO_8; clear HO_18; clear HL236_0; clear HO240; clear HR236_0; clear HB; have HO_8 := n0_; have HO_18 := n1_; have HL236_0 := n2_; have HO240 := n3_; have HR236_0 := n4_; have HB := n5_; have BK244 := n6_; have GW244 := n7_; have GE244 := n8_; clear n0_ n1_ n2_ n3_ n4_ n5_ n6_ n7_ n8_; clear hb hbox hg; have hcz15_0 : w14.cell? ⟨gb244, 0, none⟩ = some (.int .i64 0) := (blk_cell BK244.out 0).trans rfl; have hcz15_1 : w14.cell? ⟨gb244, 1, none⟩ = some (.slice none 0 0) := (blk_cell BK244.out 1).trans rfl; have hcz15_2 : w14.cell? ⟨gb244, 2, none⟩ = some (.int .i64 0) := (blk_cell BK244.out 2).trans rfl; have hcz15_3 : w14.cell? ⟨gb244, 3, none⟩ = some (.bool false) := (blk_cell BK244.out 3).trans rfl; have hfz15_0 := blk_frozen BK244.out 0; have hfz15_1 := blk_frozen BK244.out 1; have hfz15_2 := blk_frozen BK244.out 2; have hfz15_3 := blk_frozen BK244.out 3; obtain ⟨Ao16, co16, eo16⟩ := Kd.R_slice HO240.out; subst eo16))
                generalize hw0 : (((w14.setCell ⟨gb244, 0, none⟩ (.int .i64 t237)).setCell ⟨gb244, 1, none⟩ (.slice Ao16 t238.length co16)).setCell ⟨gb244, 2, none⟩ (.int .i64 t241)).setCell ⟨gb244, 3, none⟩ (.bool t242) = w17
                have hw := hw0.symm
                clear hw0
                have n0_ : Aside0 (Kd.S k50 50 w17 wb.heap.size (fun k_ => some k_ ≠ (.slice Ao16 t238.length co16 : Value).ownBlock ∧ k_ ≠ gb244) u4 x8_1) := ⟨(by rw [hw]; exact (by (with_reducible repeat (first | apply Kd.S_alloc | apply Kd.S_drewN | apply Kd.S_drew)); exact Kd.S_mono (Kd.S_far (p := ⟨gb244, 3, none⟩) (Kd.S_far (p := ⟨gb244, 2, none⟩) (Kd.S_far (p := ⟨gb244, 1, none⟩) (Kd.S_far (p := ⟨gb244, 0, none⟩) (Kd.S_mono HO_8.out (fun k_ hk => (⟨hk, hk.2⟩ : _ ∧ k_ ≠ gb244))) (fun _ hk => hk.2) (.int .i64 t237)) (fun _ hk => hk.2) (.slice Ao16 t238.length co16)) (fun _ hk => hk.2) (.int .i64 t241)) (fun _ hk => hk.2) (.bool t242)) (fun _ hk => ⟨hk.1.1.2, hk.1.2⟩)))⟩
                have n1_ : Aside0 (Kd.S (Kd.slice 5 (Kd.int .u8)) 22 w17 wb.heap.size (fun _ => True) (.slice (some ad236) t232.length co5) t232) := ⟨(by rw [hw]; exact (by (with_reducible repeat (first | apply Kd.S_alloc | apply Kd.S_drewN | apply Kd.S_drew)); exact Kd.S_mono (Kd.S_far (p := ⟨gb244, 3, none⟩) (Kd.S_far (p := ⟨gb244, 2, none⟩) (Kd.S_far (p := ⟨gb244, 1, none⟩) (Kd.S_far (p := ⟨gb244, 0, none⟩) (Kd.S_types HO_18.out BK244.out (by decide)) (fun _ hk => hk.2) (.int .i64 t237)) (fun _ hk => hk.2) (.slice Ao16 t238.length co16)) (fun _ hk => hk.2) (.int .i64 t241)) (fun _ hk => hk.2) (.bool t242)) (fun _ hk => trivial)))⟩
                have n2_ : Aside0 (Kd.R (Kd.int .u8) 5 w17 wb.heap.size (fun k_ => some k_ ≠ (.slice (some ad236) t232.length co5 : Value).ownBlock) (.slice A236_0 (rd_L1 t232 x20_1).length c236_0) (rd_L1 t232 x20_1)) := ⟨(by rw [hw]; exact (by (with_reducible repeat (first | apply Kd.R_alloc | apply Kd.R_drewN | apply Kd.R_drew)); exact Kd.R_mono (Kd.R_far (p := ⟨gb244, 3, none⟩) (Kd.R_far (p := ⟨gb244, 2, none⟩) (Kd.R_far (p := ⟨gb244, 1, none⟩) (Kd.R_far (p := ⟨gb244, 0, none⟩) (Kd.R_types HL236_0.out BK244.out (by decide)) (fun _ hk => hk.2) (.int .i64 t237)) (fun _ hk => hk.2) (.slice Ao16 t238.length co16)) (fun _ hk => hk.2) (.int .i64 t241)) (fun _ hk => hk.2) (.bool t242)) (fun _ hk => hk.1.2)))⟩
                have n3_ : Aside0 (Kd.R k76 76 w17 wb.heap.size (fun _ => True) (.slice Ao16 t238.length co16) t238) := ⟨(by rw [hw]; exact (by (with_reducible repeat (first | apply Kd.R_alloc | apply Kd.R_drewN | apply Kd.R_drew)); exact Kd.R_mono (Kd.R_far (p := ⟨gb244, 3, none⟩) (Kd.R_far (p := ⟨gb244, 2, none⟩) (Kd.R_far (p := ⟨gb244, 1, none⟩) (Kd.R_far (p := ⟨gb244, 0, none⟩) (Kd.R_types HO240.out BK244.out (by decide)) (fun _ hk => hk.2) (.int .i64 t237)) (fun _ hk => hk.2) (.slice Ao16 t238.length co16)) (fun _ hk => hk.2) (.int .i64 t241)) (fun _ hk => hk.2) (.bool t242)) (fun _ hk => trivial)))⟩
                have n4_ : Aside0 (w17.heap[gb244]? = some (.cells #[.int .i64 t237, .slice Ao16 t238.length co16, .int .i64 t241, .bool t242] 50 (0, 0))) := ⟨(by rw [hw]; exact (by (with_reducible repeat (first | refine blk_drewN ?_ _ | refine blk_drew ?_ | refine blk_alloc ?_ _)); refine blk_put (cs := #[.int .i64 t237, .slice Ao16 t238.length co16, .int .i64 t241, .bool false]) ?_ 3 _ rfl; (with_reducible repeat (first | refine blk_drewN ?_ _ | refine blk_drew ?_ | refine blk_alloc ?_ _)); refine blk_put (cs := #[.int .i64 t237, .slice Ao16 t238.length co16, .int .i64 0, .bool false]) ?_ 2 _ rfl; (with_reducible repeat (first | refine blk_drewN ?_ _ | refine blk_drew ?_ | refine blk_alloc ?_ _)); refine blk_put (cs := #[.int .i64 t237, .slice none 0 0, .int .i64 0, .bool false]) ?_ 1 _ rfl; (with_reducible repeat (first | refine blk_drewN ?_ _ | refine blk_drew ?_ | refine blk_alloc ?_ _)); refine blk_put (cs := #[.int .i64 0, .slice none 0 0, .int .i64 0, .bool false]) ?_ 0 _ rfl; (with_reducible repeat (first | refine blk_drewN ?_ _ | refine blk_drew ?_ | refine blk_alloc ?_ _)); exact BK244.out))⟩
                have n5_ : Aside0 (Below wb.heap.size wb w17) := ⟨(by rw [hw]; exact (by repeat (first | (with_reducible first | exact HB.out | apply below_alloc | apply pw_below_drewN | apply below_drew1 | refine below_set ?_ GE244.out) | exact HB.out)))⟩
                clear hw
                clear HO_8
                clear HO_18
                clear HL236_0
                clear HO240
                clear BK244
                clear HB
                have HO_8 := n0_
                have HO_18 := n1_
                have HL236_0 := n2_
                have HO240 := n3_
                have BK244 := n4_
                have HB := n5_
                clear n0_ n1_ n2_ n3_ n4_ n5_
                refine start_ (n := 9) (S := fun w' => w'.cell? ⟨gb244, 0, none⟩ = some (.int .i64 t237)) (ds := []) #[false, false, false, false, false, false, false, false, false] (by kernel_rfl) rfl rfl ((blk_cell (blk_drew BK244.out) 0).trans rfl) (fun hHeld => ?_)
                have n0_ := Aside0.mk (Kd.S_drew HO_8.out)
                have n1_ := Aside0.mk (Kd.S_drew HO_18.out)
                have n2_ := Aside0.mk (Kd.R_drew HO240.out)
                have n3_ := Aside0.mk (blk_drew BK244.out)
                have n4_ := Aside0.mk (below_drew HB.out)
                have n5_ := Aside0.mk (Kd.R_drew HL236_0.out)
                clear HO_8 HO_18 HO240 BK244 HB HL236_0 HR236_0
                have HL236_0 := n5_
                have HO_8 := n0_
                have HO_18 := n1_
                have HO240 := n2_
                have BK244 := n3_
                have HB := n4_
                clear n0_ n1_ n2_ n3_ n4_ n5_
                generalize w17.drew = w18 at HO_8 HO_18 HO240 BK244 HB HL236_0 hHeld ⊢
                refine take_ (i := 0) (N := some 32) (v := ?_) (a' := ?_) #[true, false, false, false, false, false, false, false, false] rfl rfl (by kernel_rfl) (fun _ _ _ h => h) (Or.inl ⟨by rfl, ?_⟩) hHeld ?_ ?_
                rotate_left
                · intro w' s0
                  go_simp
                  with_reducible rfl
                rotate_left
                · simp only [Act.put, List.setIfInBounds_toArray, List.set_cons_zero, List.set_cons_succ, i64_w, i32_w]
                  rfl
                refine take_ (i := 1) (N := some 33) (v := ?_) (a' := ?_) #[true, true, false, false, false, false, false, false, false] rfl rfl (by kernel_rfl) (fun _ _ _ h => h) (Or.inl ⟨by rfl, ?_⟩) hHeld ?_ ?_
                rotate_left
                · intro w' s0
                  go_simp
                  with_reducible rfl
                rotate_left
                · simp only [Act.put, List.setIfInBounds_toArray, List.set_cons_zero, List.set_cons_succ, i64_w, i32_w]
                  rfl
                refine take_ (i := 2) (N := some 34) (v := ?_) (a' := ?_) #[true, true, true, false, false, false, false, false, false] rfl rfl (by kernel_rfl) (fun _ _ _ h => h) (Or.inl ⟨by rfl, ?_⟩) hHeld ?_ ?_
                rotate_left
                · intro w' s0
                  go_simp
                  with_reducible rfl
                rotate_left
                · simp only [Act.put, List.setIfInBounds_toArray, List.set_cons_zero, List.set_cons_succ, i64_w, i32_w]
                  rfl
                refine take_ (i := 3) (N := some 35) (v := undef) (a' := ?_) #[true, true, true, true, false, false, false, false, false] rfl rfl (by kernel_rfl) (fun _ _ _ h => h) (Or.inr ⟨by rfl, rfl⟩) hHeld ?_ ?_
                rotate_left
                · simp only [Act.put, List.setIfInBounds_toArray, List.set_cons_zero, List.set_cons_succ, i64_w, i32_w]
                  rfl
                refine take_ (i := 4) (N := some 36) (v := undef) (a' := ?_) #[true, true, true, true, true, false, false, false, false] rfl rfl (by kernel_rfl) (fun _ _ _ h => h) (Or.inr ⟨by rfl, rfl⟩) hHeld ?_ ?_
                rotate_left
                · simp only [Act.put, List.setIfInBounds_toArray, List.set_cons_zero, List.set_cons_succ, i64_w, i32_w]
                  rfl
                refine take_ (i := 5) (N := some 37) (v := undef) (a' := ?_) #[true, true, true, true, true, true, false, false, false] rfl rfl (by kernel_rfl) (fun _ _ _ h => h) (Or.inr ⟨by rfl, rfl⟩) hHeld ?_ ?_
                rotate_left
                · simp only [Act.put, List.setIfInBounds_toArray, List.set_cons_zero, List.set_cons_succ, i64_w, i32_w]
                  rfl
                refine one_ (i := 6) (N := some 38) #[true, true, true, true, true, true, true, false, false] rfl rfl (by kernel_rfl) (by decide) (fun K hK => ?_)
                refine off_ (by rfl) ?_
                refine hK.out _ _ hHeld (fun hHeld => ?_)
                clear hK K
                refine norm_ (a' := ?_) ?_ ?_
                rotate_left
                · show Act.put _ (some 38) _ = _
                  simp only [Act.put, List.setIfInBounds_toArray, List.set_cons_zero, List.set_cons_succ, i64_w, i32_w]
                  rfl
                refine take_ (i := 7) (N := some 39) (v := undef) (a' := ?_) #[true, true, true, true, true, true, true, true, false] rfl rfl (by kernel_rfl) (fun _ _ _ h => h) (Or.inr ⟨by rfl, rfl⟩) hHeld ?_ ?_
                rotate_left
                · simp only [Act.put, List.setIfInBounds_toArray, List.set_cons_zero, List.set_cons_succ, i64_w, i32_w]
                  rfl
                refine take_ (i := 8) (N := some 40) (v := ?_) (a' := ?_) #[true, true, true, true, true, true, true, true, true] rfl rfl (by kernel_rfl) (fun _ _ _ h => h) (Or.inl ⟨by rfl, ?_⟩) hHeld ?_ ?_
                rotate_left
                · intro w' s0
                  go_simp
                  with_reducible rfl
                rotate_left
                · simp only [Act.put, List.setIfInBounds_toArray, List.set_cons_zero, List.set_cons_succ, i64_w, i32_w]
                  rfl
                refine done_ (by kernel_rfl) ?_
                have H1 := H1'.out
                clear H1'
                simp only [Option.some.injEq, Prod.mk.injEq] at H1
                obtain ⟨rfl, rfl, rfl⟩ := H1
                go_wp2
                go_ret2
                exact ⟨_, rfl, Kd.S_nil _ _ _ _ _, (HJ.out.out HB.out).1, (HJ.out.out HB.out).2⟩
              | true =>
                have H1 : (if t237 = n then (if x8_1.length < 2932031007402 then (jv_l0 k1 t232 (n + 1) (x8_1 ++ [(⟨t237, (⟨t238⟩ : S48), t241, t242⟩ : S50)]) (wrap64 (x20_1 + 1))) else none) else (some ([], 340, n + 1))) = some (r1, r2, r3) := by rw [if_pos rfl] at H; exact H
                have H1' := Aside0.mk H1
                clear H H1
                go_wp2_with (first | ((with_reducible refine gate_callee (f := 52) rfl ?_); refine goesL_ (some 29) rfl rfl Try.func52 (by kernel_rfl) rfl #[.slice A236_0 (rd_L1 t232 x20_1).length c236_0] rfl (by (try simp only [List.map_toArray, List.map_cons, List.map_nil]); first | done | rfl | (simp only [List.length_drop, List.length_take]; rfl)) ?_; (with_reducible refine (journal_read.calls _ _ (rd_L1 t232 x20_1) t237 t238 t241 t242 true _ ?side1 ?side2 A9.out).mono ?_); (case side1 => repeat (first | exact (by repeat (first | (with_reducible exact HR236_0.out) | (with_reducible refine Kd.C_alloc ?_ _) | (with_reducible refine Kd.C_drewN ?_ _) | (with_reducible refine Kd.C_drew ?_) | exact HR236_0.out)) | (with_reducible refine Kd.C_alloc ?_ _) | (with_reducible refine Kd.C_drewN ?_ _) | (with_reducible refine Kd.C_drew ?_))); (case side2 => exact HC236_0.out); rintro e w13 ⟨v239, rfl, ho0, hb⟩; refine ⟨_, rfl, ?_⟩; have n0_ := Aside0.mk (Kd.S_elder' (by (with_reducible repeat (first | apply Kd.S_alloc | apply Kd.S_drewN | apply Kd.S_drew)); exact HO_8.out) (Kd.R_base ho0) hb); have n1_ := Aside0.mk (Kd.S_below (by (with_reducible repeat (first | apply Kd.S_alloc | apply Kd.S_drewN | apply Kd.S_drew)); exact HO_18.out) hb); have n2_ := Aside0.mk (Kd.R_below (by (with_reducible repeat (first | apply Kd.R_alloc | apply Kd.R_drewN | apply Kd.R_drew)); exact HL236_0.out) hb); have n3_ := Aside0.mk (Kd.R_lower ho0 (below_size (by repeat (first | (with_reducible first | exact HB.out | apply below_alloc | apply pw_below_drewN | apply below_drew1) | exact HB.out)))); have n4_ := Aside0.mk (Kd.C_below (by repeat (first | (with_reducible exact HR236_0.out) | (with_reducible refine Kd.C_alloc ?_ _) | (with_reducible refine Kd.C_drewN ?_ _) | (with_reducible refine Kd.C_drew ?_) | exact HR236_0.out)) hb); have n5_ := Aside0.mk (below_step (by repeat (first | (with_reducible first | exact HB.out | apply below_alloc | apply pw_below_drewN | apply below_drew1) | exact HB.out)) hb); clear HO_8; clear HO_18; clear HL236_0; clear HR236_0; clear HB; have HO_8 := n0_; have HO_18 := n1_; have HL236_0 := n2_; have HO240 := n3_; have HR236_0 := n4_; have HB := n5_; clear n0_ n1_ n2_ n3_ n4_ n5_; (try clear hb); (try clear hb2); (try clear hk); (try clear hi); (try clear ho0)) | ((with_reducible refine gate_dst (N := 10) rfl ?_); refine box_event ?hg (N := 10) ?hd (cs := #[.int .i64 0, .slice none 0 0, .int .i64 0, .bool false]) (t := 50) ?hr ?_; (case hd => rfl); (case hg => rfl); (case hr => first | (go_simp; done) | (go_simp; rfl)); intro gb244 hg w14 hbox hb; have n0_ := Aside0.mk (Kd.S_below (Kd.S_elderB (by (with_reducible repeat (first | apply Kd.S_alloc | apply Kd.S_drewN | apply Kd.S_drew)); exact HO_8.out) gb244 (Nat.le_of_eq hg.symm)) hb); have n1_ := Aside0.mk (Kd.S_below (by (with_reducible repeat (first | apply Kd.S_alloc | apply Kd.S_drewN | apply Kd.S_drew)); exact HO_18.out) hb); have n2_ := Aside0.mk (Kd.R_below (by (with_reducible repeat (first | apply Kd.R_alloc | apply Kd.R_drewN | apply Kd.R_drew)); exact HL236_0.out) hb); have n3_ := Aside0.mk (Kd.R_below (by (with_reducible repeat (first | apply Kd.R_alloc | apply Kd.R_drewN | apply Kd.R_drew)); exact HO240.out) hb); have n4_ := Aside0.mk (Kd.C_below (by repeat (first | (with_reducible exact HR236_0.out) | (with_reducible refine Kd.C_alloc ?_ _) | (with_reducible refine Kd.C_drewN ?_ _) | (with_reducible refine Kd.C_drew ?_) | exact HR236_0.out)) hb); have n5_ := Aside0.mk (below_step (by repeat (first | (with_reducible first | exact HB.out | apply below_alloc | apply pw_below_drewN | apply below_drew1) | exact HB.out)) hb); have n6_ := Aside0.mk (hbox); have n7_ := Aside0.mk ((by rw [hg]; exact (below_size (by repeat (first | (with_reducible first | exact HB.out | apply below_alloc | apply pw_below_drewN | apply below_drew1) | exact HB.out))) : wb.heap.size ≤ gb244)); have n8_ := Aside0.mk ((by rw [hg]; exact (below_size (by repeat (first | (with_reducible first | exact HB.out | apply below_alloc | apply pw_below_drewN | apply below_drew1) | exact HB.out))) : wb.heap.size ≤ gb244)); clear HO_8; clear HO_18; clear HL236_0; clear HO240; clear HR236_0; clear HB; have HO_8 := n0_; have HO_18 := n1_; have HL236_0 := n2_; have HO240 := n3_; have HR236_0 := n4_; have HB := n5_; have BK244 := n6_; have GW244 := n7_; have GE244 := n8_; clear n0_ n1_ n2_ n3_ n4_ n5_ n6_ n7_ n8_; clear hb hbox hg; have hcz15_0 : w14.cell? ⟨gb244, 0, none⟩ = some (.int .i64 0) := (blk_cell BK244.out 0).trans rfl; have hcz15_1 : w14.cell? ⟨gb244, 1, none⟩ = some (.slice none 0 0) := (blk_cell BK244.out 1).trans rfl; have hcz15_2 : w14.cell? ⟨gb244, 2, none⟩ = some (.int .i64 0) := (blk_cell BK244.out 2).trans rfl; have hcz15_3 : w14.cell? ⟨gb244, 3, none⟩ = some (.bool false) := (blk_cell BK244.out 3).trans rfl; have hfz15_0 := blk_frozen BK244.out 0; have hfz15_1 := blk_frozen BK244.out 1; have hfz15_2 := blk_frozen BK244.out 2; have hfz15_3 := blk_frozen BK244.out 3; obtain ⟨Ao16, co16, eo16⟩ := Kd.R_slice HO240.out; subst eo16))
                generalize hw0 : (((w14.setCell ⟨gb244, 0, none⟩ (.int .i64 t237)).setCell ⟨gb244, 1, none⟩ (.slice Ao16 t238.length co16)).setCell ⟨gb244, 2, none⟩ (.int .i64 t241)).setCell ⟨gb244, 3, none⟩ (.bool t242) = w17
                have hw := hw0.symm
                clear hw0
                have n0_ : Aside0 (Kd.S k50 50 w17 wb.heap.size (fun k_ => some k_ ≠ (.slice Ao16 t238.length co16 : Value).ownBlock ∧ k_ ≠ gb244) u4 x8_1) := ⟨(by rw [hw]; exact (by (with_reducible repeat (first | apply Kd.S_alloc | apply Kd.S_drewN | apply Kd.S_drew)); exact Kd.S_mono (Kd.S_far (p := ⟨gb244, 3, none⟩) (Kd.S_far (p := ⟨gb244, 2, none⟩) (Kd.S_far (p := ⟨gb244, 1, none⟩) (Kd.S_far (p := ⟨gb244, 0, none⟩) (Kd.S_mono HO_8.out (fun k_ hk => (⟨hk, hk.2⟩ : _ ∧ k_ ≠ gb244))) (fun _ hk => hk.2) (.int .i64 t237)) (fun _ hk => hk.2) (.slice Ao16 t238.length co16)) (fun _ hk => hk.2) (.int .i64 t241)) (fun _ hk => hk.2) (.bool t242)) (fun _ hk => ⟨hk.1.1.2, hk.1.2⟩)))⟩
                have n1_ : Aside0 (Kd.S (Kd.slice 5 (Kd.int .u8)) 22 w17 wb.heap.size (fun _ => True) (.slice (some ad236) t232.length co5) t232) := ⟨(by rw [hw]; exact (by (with_reducible repeat (first | apply Kd.S_alloc | apply Kd.S_drewN | apply Kd.S_drew)); exact Kd.S_mono (Kd.S_far (p := ⟨gb244, 3, none⟩) (Kd.S_far (p := ⟨gb244, 2, none⟩) (Kd.S_far (p := ⟨gb244, 1, none⟩) (Kd.S_far (p := ⟨gb244, 0, none⟩) (Kd.S_types HO_18.out BK244.out (by decide)) (fun _ hk => hk.2) (.int .i64 t237)) (fun _ hk => hk.2) (.slice Ao16 t238.length co16)) (fun _ hk => hk.2) (.int .i64 t241)) (fun _ hk => hk.2) (.bool t242)) (fun _ hk => trivial)))⟩
                have n2_ : Aside0 (Kd.R (Kd.int .u8) 5 w17 wb.heap.size (fun k_ => some k_ ≠ (.slice (some ad236) t232.length co5 : Value).ownBlock) (.slice A236_0 (rd_L1 t232 x20_1).length c236_0) (rd_L1 t232 x20_1)) := ⟨(by rw [hw]; exact (by (with_reducible repeat (first | apply Kd.R_alloc | apply Kd.R_drewN | apply Kd.R_drew)); exact Kd.R_mono (Kd.R_far (p := ⟨gb244, 3, none⟩) (Kd.R_far (p := ⟨gb244, 2, none⟩) (Kd.R_far (p := ⟨gb244, 1, none⟩) (Kd.R_far (p := ⟨gb244, 0, none⟩) (Kd.R_types HL236_0.out BK244.out (by decide)) (fun _ hk => hk.2) (.int .i64 t237)) (fun _ hk => hk.2) (.slice Ao16 t238.length co16)) (fun _ hk => hk.2) (.int .i64 t241)) (fun _ hk => hk.2) (.bool t242)) (fun _ hk => hk.1.2)))⟩
                have n3_ : Aside0 (Kd.R k76 76 w17 wb.heap.size (fun _ => True) (.slice Ao16 t238.length co16) t238) := ⟨(by rw [hw]; exact (by (with_reducible repeat (first | apply Kd.R_alloc | apply Kd.R_drewN | apply Kd.R_drew)); exact Kd.R_mono (Kd.R_far (p := ⟨gb244, 3, none⟩) (Kd.R_far (p := ⟨gb244, 2, none⟩) (Kd.R_far (p := ⟨gb244, 1, none⟩) (Kd.R_far (p := ⟨gb244, 0, none⟩) (Kd.R_types HO240.out BK244.out (by decide)) (fun _ hk => hk.2) (.int .i64 t237)) (fun _ hk => hk.2) (.slice Ao16 t238.length co16)) (fun _ hk => hk.2) (.int .i64 t241)) (fun _ hk => hk.2) (.bool t242)) (fun _ hk => trivial)))⟩
                have n4_ : Aside0 (w17.heap[gb244]? = some (.cells #[.int .i64 t237, .slice Ao16 t238.length co16, .int .i64 t241, .bool t242] 50 (0, 0))) := ⟨(by rw [hw]; exact (by (with_reducible repeat (first | refine blk_drewN ?_ _ | refine blk_drew ?_ | refine blk_alloc ?_ _)); refine blk_put (cs := #[.int .i64 t237, .slice Ao16 t238.length co16, .int .i64 t241, .bool false]) ?_ 3 _ rfl; (with_reducible repeat (first | refine blk_drewN ?_ _ | refine blk_drew ?_ | refine blk_alloc ?_ _)); refine blk_put (cs := #[.int .i64 t237, .slice Ao16 t238.length co16, .int .i64 0, .bool false]) ?_ 2 _ rfl; (with_reducible repeat (first | refine blk_drewN ?_ _ | refine blk_drew ?_ | refine blk_alloc ?_ _)); refine blk_put (cs := #[.int .i64 t237, .slice none 0 0, .int .i64 0, .bool false]) ?_ 1 _ rfl; (with_reducible repeat (first | refine blk_drewN ?_ _ | refine blk_drew ?_ | refine blk_alloc ?_ _)); refine blk_put (cs := #[.int .i64 0, .slice none 0 0, .int .i64 0, .bool false]) ?_ 0 _ rfl; (with_reducible repeat (first | refine blk_drewN ?_ _ | refine blk_drew ?_ | refine blk_alloc ?_ _)); exact BK244.out))⟩
                have n5_ : Aside0 (Below wb.heap.size wb w17) := ⟨(by rw [hw]; exact (by repeat (first | (with_reducible first | exact HB.out | apply below_alloc | apply pw_below_drewN | apply below_drew1 | refine below_set ?_ GE244.out) | exact HB.out)))⟩
                clear hw
                clear HO_8
                clear HO_18
                clear HL236_0
                clear HO240
                clear BK244
                clear HB
                have HO_8 := n0_
                have HO_18 := n1_
                have HL236_0 := n2_
                have HO240 := n3_
                have BK244 := n4_
                have HB := n5_
                clear n0_ n1_ n2_ n3_ n4_ n5_
                refine start_ (n := 9) (S := fun w' => w'.cell? ⟨gb244, 0, none⟩ = some (.int .i64 t237)) (ds := []) #[false, false, false, false, false, false, false, false, false] (by kernel_rfl) rfl rfl ((blk_cell (blk_drew BK244.out) 0).trans rfl) (fun hHeld => ?_)
                have n0_ := Aside0.mk (Kd.S_drew HO_8.out)
                have n1_ := Aside0.mk (Kd.S_drew HO_18.out)
                have n2_ := Aside0.mk (Kd.R_drew HO240.out)
                have n3_ := Aside0.mk (blk_drew BK244.out)
                have n4_ := Aside0.mk (below_drew HB.out)
                have n5_ := Aside0.mk (Kd.R_drew HL236_0.out)
                clear HO_8 HO_18 HO240 BK244 HB HL236_0 HR236_0
                have HL236_0 := n5_
                have HO_8 := n0_
                have HO_18 := n1_
                have HO240 := n2_
                have BK244 := n3_
                have HB := n4_
                clear n0_ n1_ n2_ n3_ n4_ n5_
                generalize w17.drew = w18 at HO_8 HO_18 HO240 BK244 HB HL236_0 hHeld ⊢
                refine take_ (i := 0) (N := some 32) (v := ?_) (a' := ?_) #[true, false, false, false, false, false, false, false, false] rfl rfl (by kernel_rfl) (fun _ _ _ h => h) (Or.inl ⟨by rfl, ?_⟩) hHeld ?_ ?_
                rotate_left
                · intro w' s0
                  go_simp
                  with_reducible rfl
                rotate_left
                · simp only [Act.put, List.setIfInBounds_toArray, List.set_cons_zero, List.set_cons_succ, i64_w, i32_w]
                  rfl
                refine take_ (i := 1) (N := some 33) (v := ?_) (a' := ?_) #[true, true, false, false, false, false, false, false, false] rfl rfl (by kernel_rfl) (fun _ _ _ h => h) (Or.inl ⟨by rfl, ?_⟩) hHeld ?_ ?_
                rotate_left
                · intro w' s0
                  go_simp
                  with_reducible rfl
                rotate_left
                · simp only [Act.put, List.setIfInBounds_toArray, List.set_cons_zero, List.set_cons_succ, i64_w, i32_w]
                  rfl
                refine take_ (i := 2) (N := some 34) (v := ?_) (a' := ?_) #[true, true, true, false, false, false, false, false, false] rfl rfl (by kernel_rfl) (fun _ _ _ h => h) (Or.inl ⟨by rfl, ?_⟩) hHeld ?_ ?_
                rotate_left
                · intro w' s0
                  go_simp
                  with_reducible rfl
                rotate_left
                · simp only [Act.put, List.setIfInBounds_toArray, List.set_cons_zero, List.set_cons_succ, i64_w, i32_w]
                  rfl
                refine take_ (i := 3) (N := some 35) (v := ?_) (a' := ?_) #[true, true, true, true, false, false, false, false, false] rfl rfl (by kernel_rfl) (fun _ _ _ h => h) (Or.inl ⟨by rfl, ?_⟩) hHeld ?_ ?_
                rotate_left
                · intro w' s0
                  go_simp
                  with_reducible rfl
                rotate_left
                · simp only [Act.put, List.setIfInBounds_toArray, List.set_cons_zero, List.set_cons_succ, i64_w, i32_w]
                  rfl
                refine take_ (i := 4) (N := some 36) (v := ?_) (a' := ?_) #[true, true, true, true, true, false, false, false, false] rfl rfl (by kernel_rfl) (fun _ _ _ h => h) (Or.inl ⟨by rfl, ?_⟩) hHeld ?_ ?_
                rotate_left
                · intro w' s0
                  go_simp
                  with_reducible rfl
                rotate_left
                · simp only [Act.put, List.setIfInBounds_toArray, List.set_cons_zero, List.set_cons_succ, i64_w, i32_w]
                  rfl
                refine take_ (i := 5) (N := some 37) (v := ?_) (a' := ?_) #[true, true, true, true, true, true, false, false, false] rfl rfl (by kernel_rfl) (fun _ _ _ h => h) (Or.inl ⟨by rfl, ?_⟩) hHeld ?_ ?_
                rotate_left
                · intro w' s0
                  go_simp
                  with_reducible rfl
                rotate_left
                · simp only [Act.put, List.setIfInBounds_toArray, List.set_cons_zero, List.set_cons_succ, i64_w, i32_w]
                  rfl
                have H1 := H1'.out
                clear H1'
                by_cases c11 : t237 = n
                · rw [if_pos c11] at H1
                  have c11b : (t237 != n) = false := bne_eq_false_iff_eq.mpr c11
                  by_cases c12 : x8_1.length < 2932031007402
                  · rw [if_pos c12] at H1
                    have LMc12 := Aside0.mk c12
                    clear c12
                    obtain ⟨y245, hy245⟩ : ∃ y_ : List (S50), y_ = (x8_1 ++ [(⟨t237, (⟨t238⟩ : S48), t241, t242⟩ : S50)]) := ⟨_, rfl⟩
                    rw [← hy245] at H1
                    have Ny245 := Aside0.mk hy245
                    clear hy245
                    have H' := Aside0.mk H1
                    clear H1 c11
                    refine one_ (i := 6) (N := some 38) #[true, true, true, true, true, true, true, false, false] rfl rfl (by kernel_rfl) (by decide) (fun K hK => ?_)
                    refine call_ 51 #[.pointer (some ⟨g, 0, none⟩)] (by rfl) rfl (by go_simp) ?_
                    refine (jv_next g n w18 (HJ.out.at_ HB.out) HN.out.1 HN.out.2).mono ?_
                    rintro e w19 ⟨rfl, rfl⟩
                    refine ⟨_, rfl, ?_⟩
                    have n0_ := Aside0.mk (HJ.out.far (m := n + 1) HO_8.out)
                    have n1_ := Aside0.mk (HJ.out.far (m := n + 1) HO_18.out)
                    have n2_ := Aside0.mk (HJ.out.farR (m := n + 1) HO240.out)
                    have n3_ := Aside0.mk (HJ.out.blk (m := n + 1) GE244.out BK244.out).1
                    have n6_ := Aside0.mk (HJ.out.blk (m := n + 1) GE244.out BK244.out).2
                    have n4_ := Aside0.mk (HJ.out.put HB.out (n + 1))
                    have n5_ := Aside0.mk (HJ.out.next (n + 1))
                    have n7_ := Aside0.mk (HJ.out.farR (m := n + 1) HL236_0.out)
                    clear HO_8 HO_18 HO240 BK244 HB GE244 GW244 HJ hHeld HL236_0
                    have HL236_0 := n7_
                    have HO_8 := n0_
                    have HO_18 := n1_
                    have HO240 := n2_
                    have BK244 := n3_
                    have HB := n4_
                    have HJ := n5_
                    have GE244 := n6_
                    clear n0_ n1_ n2_ n3_ n4_ n5_ n6_ n7_
                    generalize wb.setCell ⟨g, 0, none⟩ (.int .i64 (n + 1)) = wc at HO_8 HO_18 HO240 BK244 HB HJ GE244 HL236_0
                    generalize w18.setCell ⟨g, 0, none⟩ (.int .i64 (n + 1)) = w20 at HO_8 HO_18 HO240 BK244 HB HL236_0 ⊢
                    refine hK.out _ _ ((blk_cell BK244.out 0).trans rfl) (fun hHeld => ?_)
                    clear hK K
                    refine norm_ (a' := ?_) ?_ ?_
                    rotate_left
                    · show Act.put _ (some 38) _ = _
                      simp only [Act.put, List.setIfInBounds_toArray, List.set_cons_zero, List.set_cons_succ, i64_w, i32_w]
                      rfl
                    refine take_ (i := 7) (N := some 39) (v := ?_) (a' := ?_) #[true, true, true, true, true, true, true, true, false] rfl rfl (by kernel_rfl) (fun _ _ _ h => h) (Or.inl ⟨by rfl, ?_⟩) hHeld ?_ ?_
                    rotate_left
                    · intro w' s0
                      go_simp
                      with_reducible rfl
                    rotate_left
                    · simp only [Act.put, List.setIfInBounds_toArray, List.set_cons_zero, List.set_cons_succ, i64_w, i32_w]
                      rfl
                    refine take_ (i := 8) (N := some 40) (v := ?_) (a' := ?_) #[true, true, true, true, true, true, true, true, true] rfl rfl (by kernel_rfl) (fun _ _ _ h => h) (Or.inl ⟨by rfl, ?_⟩) hHeld ?_ ?_
                    rotate_left
                    · intro w' s0
                      go_simp
                      with_reducible rfl
                    rotate_left
                    · simp only [Act.put, List.setIfInBounds_toArray, List.set_cons_zero, List.set_cons_succ, i64_w, i32_w]
                      rfl
                    refine done_ (by kernel_rfl) ?_
                    skip
                    have hcz0 : w20.cell? ⟨gb244, 0, none⟩ = some (.int .i64 t237) := (blk_cell BK244.out 0).trans rfl
                    have hcz1 : w20.cell? ⟨gb244, 1, none⟩ = some (.slice Ao16 t238.length co16) := (blk_cell BK244.out 1).trans rfl
                    have hcz2 : w20.cell? ⟨gb244, 2, none⟩ = some (.int .i64 t241) := (blk_cell BK244.out 2).trans rfl
                    have hcz3 : w20.cell? ⟨gb244, 3, none⟩ = some (.bool t242) := (blk_cell BK244.out 3).trans rfl
                    go_wp2_with (first | ((with_reducible refine gate_builtin (b := .append) (xs := #[.tmp 41, .tmp 43]) rfl ?_); at_builtin; refine Kd.S_append k50 (w0 := wc) wc.heap.size rfl (.tmp 41) (.tmp 43) 33 50 (.agg #[(.int .i64 0), (.slice none 0 0), (.int .i64 0), (.bool false)]) 48 rfl Try.underlying33 info50 rfl (by decide) (by omega) u4 x8_1 (⟨t237, (⟨t238⟩ : S48), t241, t242⟩ : S50) [.int .i64 t237, .slice Ao16 t238.length co16, .int .i64 t241, .bool t242] (fun k_ => k_ ≠ gb244) (fun k_ => some k_ = (.slice Ao16 t238.length co16 : Value).ownBlock) rfl rfl ?aP (fun k_ hk_ => ((Kd.R_mono (ok' := fun k_ => ((fun k_ => k_ ≠ gb244)) k_ ∧ some k_ ≠ (u4 : Value).ownBlock) (Kd.R_types (Kd.R_apart' (HO240.out) (Kd.S_typed HO_8.out) (by decide)) BK244.out (by decide)) (fun k_ hk => ⟨hk.2, hk.1.2⟩))).1 k_ hk_.symm) ?aF ?aO ?aB ?aS ?aL ?_; (case aP => exact k50_mkM _ _ _ (⟨t237, (⟨t238⟩ : S48), t241, t242⟩ : S50) (Kd.R_mono (Kd.R_tight rfl (Kd.R_mono (ok' := fun k_ => ((fun k_ => k_ ≠ gb244)) k_ ∧ some k_ ≠ (u4 : Value).ownBlock) (Kd.R_types (Kd.R_apart' (HO240.out) (Kd.S_typed HO_8.out) (by decide)) BK244.out (by decide)) (fun k_ hk => ⟨hk.2, hk.1.2⟩))) (fun _ h_ => h_))); (case aB => exact (by repeat (first | (with_reducible first | exact HB.out | apply below_alloc | apply pw_below_drewN | apply below_drew1 | refine below_set ?_ GE244.out) | exact HB.out))); (case aF => exact (fun k_ hk => Kd.freshB (g := gb244) (o := .cells #[.int .i64 t237, .slice Ao16 t238.length co16, .int .i64 t241, .bool t242] 50 (0, 0)) (by (with_reducible repeat (first | refine blk_drewN ?_ _ | refine blk_drew ?_ | refine blk_alloc ?_ _)); exact BK244.out) k_ hk)); (case aO => exact (by (with_reducible repeat (first | apply Kd.S_alloc | apply Kd.S_drewN | apply Kd.S_drew)); exact Kd.S_mono HO_8.out (fun k_ hk => ⟨hk.2, fun e_ => hk.1 e_⟩))); (case aS => exact (below_size (by repeat (first | (with_reducible first | exact HB.out | apply below_alloc | apply pw_below_drewN | apply below_drew1 | refine below_set ?_ GE244.out) | exact HB.out)))); (case aL => have := LMc12.out; omega); intro v246 w19 ho hb hg hat; rw [← Ny245.out] at ho; have n0_ := Aside0.mk (Kd.S_over' (by (with_reducible repeat (first | apply Kd.S_alloc | apply Kd.S_drewN | apply Kd.S_drew)); exact HO_18.out) (Kd.S_typed (by (with_reducible repeat (first | apply Kd.S_alloc | apply Kd.S_drewN | apply Kd.S_drew)); exact HO_8.out)) (by decide) hg); have n1_ := Aside0.mk (Kd.R_over' (by (with_reducible repeat (first | apply Kd.R_alloc | apply Kd.R_drewN | apply Kd.R_drew)); exact HL236_0.out) (Kd.S_typed (by (with_reducible repeat (first | apply Kd.S_alloc | apply Kd.S_drewN | apply Kd.S_drew)); exact HO_8.out)) (by decide) hg); have n2_ := Aside0.mk (blk_grown (g := gb244) (o := .cells #[.int .i64 t237, .slice Ao16 t238.length co16, .int .i64 t241, .bool t242] 50 (0, 0)) (by (with_reducible repeat (first | refine blk_drewN ?_ _ | refine blk_drew ?_ | refine blk_alloc ?_ _)); exact BK244.out) hg (Kd.S_away HO_8.out (fun _ hk => hk.2))); have n3_ := Aside0.mk (hb); have n4_ := Aside0.mk (ho); clear HO_18; clear HL236_0; clear BK244; clear HB; clear HO_8; clear HO240; have HO_18 := n0_; have HL236_0 := n1_; have BK244 := n2_; have HB := n3_; have HO247 := n4_; clear n0_ n1_ n2_ n3_ n4_; clear ho hb hg hat))
                    go_roundg k1
                    case measure => have := HK1.out; omega
                    case rel => exact ⟨y245, wrap64 (x20_1 + 1), n + 1, wc, (by first | rfl | (simp; done) | (simp [*]; done)), H', ⟨by have := HK1.out; omega⟩, HJ, ⟨by (with_reducible repeat (first | apply Kd.S_alloc | apply Kd.S_drewN | apply Kd.S_drew)); exact Kd.S_mono HO247.out (fun _ hk => trivial)⟩, ⟨by (with_reducible repeat (first | apply Kd.S_alloc | apply Kd.S_drewN | apply Kd.S_drew)); exact HO_18.out⟩, ⟨by repeat (first | (with_reducible first | exact HB.out | apply below_alloc | apply pw_below_drewN | apply below_drew1 | refine below_set ?_ GE244.out) | exact HB.out)⟩⟩
                  · rw [if_neg c12] at H1
                    exact absurd H1 (by simp)
                · rw [if_neg c11] at H1
                  have c11b : (t237 != n) = true := bne_iff_ne.mpr c11
                  simp only [Option.some.injEq, Prod.mk.injEq] at H1
                  obtain ⟨rfl, rfl, rfl⟩ := H1
                  refine one_ (i := 6) (N := some 38) #[true, true, true, true, true, true, true, false, false] rfl rfl (by kernel_rfl) (by decide) (fun K hK => ?_)
                  refine call_ 51 #[.pointer (some ⟨g, 0, none⟩)] (by rfl) rfl (by go_simp) ?_
                  refine (jv_next g n w18 (HJ.out.at_ HB.out) HN.out.1 HN.out.2).mono ?_
                  rintro e w19 ⟨rfl, rfl⟩
                  refine ⟨_, rfl, ?_⟩
                  have n0_ := Aside0.mk (HJ.out.far (m := n + 1) HO_8.out)
                  have n1_ := Aside0.mk (HJ.out.far (m := n + 1) HO_18.out)
                  have n2_ := Aside0.mk (HJ.out.farR (m := n + 1) HO240.out)
                  have n3_ := Aside0.mk (HJ.out.blk (m := n + 1) GE244.out BK244.out).1
                  have n6_ := Aside0.mk (HJ.out.blk (m := n + 1) GE244.out BK244.out).2
                  have n4_ := Aside0.mk (HJ.out.put HB.out (n + 1))
                  have n5_ := Aside0.mk (HJ.out.next (n + 1))
                  have n7_ := Aside0.mk (HJ.out.farR (m := n + 1) HL236_0.out)
                  clear HO_8 HO_18 HO240 BK244 HB GE244 GW244 HJ hHeld HL236_0
                  have HL236_0 := n7_
                  have HO_8 := n0_
                  have HO_18 := n1_
                  have HO240 := n2_
                  have BK244 := n3_
                  have HB := n4_
                  have HJ := n5_
                  have GE244 := n6_
                  clear n0_ n1_ n2_ n3_ n4_ n5_ n6_ n7_
                  generalize wb.setCell ⟨g, 0, none⟩ (.int .i64 (n + 1)) = wc at HO_8 HO_18 HO240 BK244 HB HJ GE244 HL236_0
                  generalize w18.setCell ⟨g, 0, none⟩ (.int .i64 (n + 1)) = w20 at HO_8 HO_18 HO240 BK244 HB HL236_0 ⊢
                  refine hK.out _ _ ((blk_cell BK244.out 0).trans rfl) (fun hHeld => ?_)
                  clear hK K
                  refine norm_ (a' := ?_) ?_ ?_
                  rotate_left
                  · show Act.put _ (some 38) _ = _
                    simp only [Act.put, List.setIfInBounds_toArray, List.set_cons_zero, List.set_cons_succ, i64_w, i32_w]
                    rfl
                  refine take_ (i := 7) (N := some 39) (v := ?_) (a' := ?_) #[true, true, true, true, true, true, true, true, false] rfl rfl (by kernel_rfl) (fun _ _ _ h => h) (Or.inl ⟨by rfl, ?_⟩) hHeld ?_ ?_
                  rotate_left
                  · intro w' s0
                    go_simp
                    with_reducible rfl
                  rotate_left
                  · simp only [Act.put, List.setIfInBounds_toArray, List.set_cons_zero, List.set_cons_succ, i64_w, i32_w]
                    rfl
                  refine take_ (i := 8) (N := some 40) (v := ?_) (a' := ?_) #[true, true, true, true, true, true, true, true, true] rfl rfl (by kernel_rfl) (fun _ _ _ h => h) (Or.inl ⟨by rfl, ?_⟩) hHeld ?_ ?_
                  rotate_left
                  · intro w' s0
                    go_simp
                    with_reducible rfl
                  rotate_left
                  · simp only [Act.put, List.setIfInBounds_toArray, List.set_cons_zero, List.set_cons_succ, i64_w, i32_w]
                    rfl
                  refine done_ (by kernel_rfl) ?_
                  go_wp2
                  go_ret2
                  exact ⟨_, rfl, Kd.S_nil _ _ _ _ _, (HJ.out.out HB.out).1, (HJ.out.out HB.out).2⟩
            · rw [if_neg c8] at H
              exact absurd H (by simp)
          · rw [if_neg c7] at H
            exact absurd H (by simp)
        · rw [if_neg c6] at H
          have c6b0 : decide (x20_1 < (t232.length : Int)) = false := decide_eq_false c6
          clear c6
          simp only [Option.some.injEq, Prod.mk.injEq] at H
          obtain ⟨rfl, rfl, rfl⟩ := H
          go_wp2
          go_ret2
          exact ⟨_, rfl, by (with_reducible repeat (first | apply Kd.S_alloc | apply Kd.S_drewN | apply Kd.S_drew)); rw [← HJ.out.sz]; exact HO_8.out, (HJ.out.out HB.out).1, (HJ.out.out HB.out).2⟩
  · rw [if_neg c1] at H
    have c1b : (t233 != (l0.length : Int)) = true := bne_iff_ne.mpr c1
    simp only [Option.some.injEq, Prod.mk.injEq] at H
    obtain ⟨rfl, rfl, rfl⟩ := H
    go_enter Try.func36, Try.ntmps36
    go_wp2_with (first | ((with_reducible refine gate_callee (f := 30) rfl ?_); refine goesL_ (some 14) rfl rfl Try.func30 (by kernel_rfl) rfl #[.slice A0 l0.length c0] rfl (by (try simp only [List.map_toArray, List.map_cons, List.map_nil]); first | done | rfl | (simp only [List.length_drop, List.length_take]; rfl)) ?_; (with_reducible refine (seal_Scan.calls _ _ l0 t232 t233 _ ?side1 ?side2 A3.out).mono ?_); (case side1 => repeat (first | exact HR0.out | (with_reducible refine Kd.C_alloc ?_ _) | (with_reducible refine Kd.C_drewN ?_ _) | (with_reducible refine Kd.C_drew ?_))); (case side2 => exact HC0.out); rintro e w4 ⟨v234, rfl, ho0, hb⟩; refine ⟨_, rfl, ?_⟩; have n0_ := Aside0.mk (Kd.S_lower ho0 (below_size (by repeat (first | (with_reducible first | exact HB.out | apply below_alloc | apply pw_below_drewN | apply below_drew1) | exact HB.out)))); have n1_ := Aside0.mk (below_step (by repeat (first | (with_reducible first | exact HB.out | apply below_alloc | apply pw_below_drewN | apply below_drew1) | exact HB.out)) hb); clear HB; have HO235 := n0_; have HB := n1_; clear n0_ n1_; (try clear hb); (try clear hb2); (try clear hk); (try clear hi); (try clear ho0); obtain ⟨Ao5, co5, eo5⟩ := Kd.S_slice HO235.out; subst eo5))
    go_ret2
    exact ⟨_, rfl, Kd.S_nil _ _ _ _ _, (HJ.out.out HB.out).1, (HJ.out.out HB.out).2⟩
set_option maxHeartbeats 4000000 in
set_option maxRecDepth 100000 in
/-- from: the counter, its cell made anew. -/
theorem jv_from (n : Int) (w : World) :
    Calls Try.prog 35 #[.int .i64 n] w fun e w' => e = .returned (.func (.func 51) #[] #[.pointer (some ⟨w.heap.size, 0, none⟩)]) ∧ w' = w.alloc (.cells #[.int .i64 n] 3) := by
  go_enter Try.func35, Try.ntmps35
  go_wp2
  refine bodyPost_ret (v := .func (.func 51) #[] #[.pointer (some ⟨w.heap.size, 0, none⟩)]) (by simp [results, Try.results35, go_sem]) rfl ⟨rfl, rfl⟩
theorem jv_two {w2 w3 w4 : World} {B g : Nat} {v3 v4 : Value} {x1 x2 : List S50} (h3 : Kd.S k50 50 w3 w2.heap.size (fun k => k ≠ g ∧ k < w3.heap.size) v3 x1) (h4 : Kd.S k50 50 w4 w3.heap.size (fun _ => True) v4 x2) (hw : w3.grownBy w4 (some g)) (h2 : B ≤ w2.heap.size) (hB : B ≤ w3.heap.size) :
    Kd.S k50 50 w4 B (fun k_ => some k_ ≠ v4.ownBlock) v3 x1 ∧ Kd.S k50 50 w4 B (fun k_ => some k_ ≠ v3.ownBlock) v4 x2 := by
  refine ⟨Kd.S_mono (Kd.S_lower (Kd.S_grown h3 hw (fun k hk e => by injection e with e; exact hk.1 e)) h2) (fun k hk e => ?_), Kd.S_mono (Kd.S_lower (Kd.S_bound h4) hB) (fun k hk e => ?_)⟩
  · have := Kd.S_base h4 k e.symm
    have := hk.2
    omega
  · have := Kd.S_lt h3 k e.symm
    have := hk.2.1
    omega
def journal_Read.f (l0_0 : List Int) (l0_1 : List Int) : Option (List S50 × List S50 × Int) :=
  if wrap64 ((l0_0.length : Int) + (l0_1.length : Int)) > 1048576 then some ([], [], 2) else (jv_f l0_0 1).bind fun a => if a.2.1 = 0 then ((jv_f l0_1 a.2.2).bind fun b => if b.2.1 = 0 then some (a.1, b.1, 0) else some ([], [], b.2.1)) else some ([], [], a.2.1)
set_option maxHeartbeats 40000000 in
set_option maxRecDepth 100000 in
theorem journal_Read.calls (A0_0 : Option Addr) (c0_0 : Nat) (l0_0 : List Int) (A0_1 : Option Addr) (c0_1 : Nat) (l0_1 : List Int) (r1 : List S50) (r2 : List S50) (r3 : Int) (w : World) (hr0_0 : Kd.C (Kd.int .u8) w A0_0 l0_0.length l0_0) (hc0_0 : l0_0.length ≤ c0_0) (hr0_1 : Kd.C (Kd.int .u8) w A0_1 l0_1.length l0_1) (hc0_1 : l0_1.length ≤ c0_1) (h : journal_Read.f l0_0 l0_1 = some (r1, r2, r3)) :
    Calls Try.prog 21 #[.agg #[.slice A0_0 l0_0.length c0_0, .slice A0_1 l0_1.length c0_1]] w fun e w' => ∃ v0_ v1_ : Value, e = .returned (.tuple #[v0_, v1_, .int .i64 r3]) ∧ Kd.S k50 50 w' w.heap.size (fun k_ => some k_ ≠ (v1_ : Value).ownBlock) v0_ r1 ∧ Kd.S k50 50 w' w.heap.size (fun k_ => some k_ ≠ (v0_ : Value).ownBlock) v1_ r2 ∧ Below w.heap.size w w' := by
  unfold journal_Read.f at h
  by_cases c0 : wrap64 ((l0_0.length : Int) + (l0_1.length : Int)) > 1048576
  · rw [if_pos c0] at h
    have c0b : decide (1048576 < wrap64 ((l0_0.length : Int) + (l0_1.length : Int))) = true := decide_eq_true c0
    simp only [Option.some.injEq, Prod.mk.injEq] at h
    obtain ⟨rfl, rfl, rfl⟩ := h
    go_enter Try.func21, Try.ntmps21
    go_wp2
    refine bodyPost_ret (v := .tuple #[.slice none 0 0, .slice none 0 0, .int .i64 2]) (by simp [results, Try.results21, go_sem]) rfl ⟨_, _, rfl, Kd.S_nil _ _ _ _ _, Kd.S_nil _ _ _ _ _, below_alloc (Below.refl _ _) _⟩
  · rw [if_neg c0] at h
    have c0b : decide (1048576 < wrap64 ((l0_0.length : Int) + (l0_1.length : Int))) = false := decide_eq_false c0
    replace h := Option.bind_eq_some_iff.mp h
    obtain ⟨⟨x1, e1, n1⟩, h1, h⟩ := h
    dsimp only at h
    have HB0 := Aside0.mk (below_alloc (below_alloc (Below.refl w.heap.size w) (.cells #[.slice A0_0 l0_0.length c0_0, .slice A0_1 l0_1.length c0_1] 24)) (.cells #[.int .i64 1] 3))
    have HD0 : (w.alloc (.cells #[.slice A0_0 l0_0.length c0_0, .slice A0_1 l0_1.length c0_1] 24)).heap[w.heap.size]? = some (.cells #[.slice A0_0 l0_0.length c0_0, .slice A0_1 l0_1.length c0_1] 24) := heap_alloc_new w _
    have hs0 : (w.alloc (.cells #[.slice A0_0 l0_0.length c0_0, .slice A0_1 l0_1.length c0_1] 24)).heap.size = w.heap.size + 1 := by simp
    have hs1 : ((w.alloc (.cells #[.slice A0_0 l0_0.length c0_0, .slice A0_1 l0_1.length c0_1] 24)).alloc (.cells #[.int .i64 1] 3)).heap.size = w.heap.size + 2 := by simp
    have HG0 : ((w.alloc (.cells #[.slice A0_0 l0_0.length c0_0, .slice A0_1 l0_1.length c0_1] 24)).alloc (.cells #[.int .i64 1] 3)).heap[w.heap.size + 1]? = some (.cells #[.int .i64 1] 3) := by
      have := heap_alloc_new (w.alloc (.cells #[.slice A0_0 l0_0.length c0_0, .slice A0_1 l0_1.length c0_1] 24)) (.cells #[.int .i64 1] 3); rw [hs0] at this; exact this
    have HD1 := (Below.heap_alloc (w.alloc (.cells #[.slice A0_0 l0_0.length c0_0, .slice A0_1 l0_1.length c0_1] 24)) (.cells #[.int .i64 1] 3) w.heap.size (by omega)).trans HD0
    have HF := Aside0.mk (And.intro hs1 (And.intro HG0 HD1))
    have HS0 := Aside0.mk hs0
    have HR0 := Aside0.mk (And.intro hr0_0 hc0_0)
    have HR1 := Aside0.mk (And.intro hr0_1 hc0_1)
    have H1 := Aside0.mk h1
    have H := Aside0.mk h
    clear hs1 hs0 HG0 HD1 HD0 hr0_0 hc0_0 hr0_1 hc0_1 h1 h
    go_enter Try.func21, Try.ntmps21
    go_wp2_with fail
    refine (jv_from 1 _).mono ?_
    rintro e w' ⟨rfl, rfl⟩
    rw [HS0.out]
    clear HS0
    generalize (w.alloc (.cells #[.slice A0_0 l0_0.length c0_0, .slice A0_1 l0_1.length c0_1] 24)).alloc (.cells #[.int .i64 1] 3) = w2 at HB0 HF ⊢
    have k0 : w2.cell? ⟨w.heap.size, 0, none⟩ = some (.slice A0_0 l0_0.length c0_0) := by rw [World.cell?, HF.out.2.2]; rfl
    have k1 : w2.cell? ⟨w.heap.size, 1, none⟩ = some (.slice A0_1 l0_1.length c0_1) := by rw [World.cell?, HF.out.2.2]; rfl
    go_wp2_with fail
    refine (jv_calls A0_0 c0_0 l0_0 (w.heap.size + 1) 1 x1 e1 n1 w2 (Kd.C_below HR0.out.1 HB0.out) HR0.out.2 HF.out.2.1 H1.out).mono ?_
    rintro e w3 ⟨v3, rfl, ho3, hg3, hw3⟩
    have HD3 := (hw3.block w.heap.size (by have := HF.out.1; omega) (fun e => by injection e with e; omega)).trans HF.out.2.2
    have HB3 := Aside0.mk (HB0.out.grown hw3 (by have := HF.out.1; omega) (fun k e => by cases e; omega))
    have HS3 := Nat.le_trans (Nat.le_of_eq HF.out.1.symm) hw3.size
    have k10 : w3.cell? ⟨w.heap.size, 0, none⟩ = some (.slice A0_0 l0_0.length c0_0) := by rw [World.cell?, HD3]; rfl
    have k11 : w3.cell? ⟨w.heap.size, 1, none⟩ = some (.slice A0_1 l0_1.length c0_1) := by rw [World.cell?, HD3]; rfl
    have O3 := Aside0.mk (Kd.S_mono (Kd.S_bound ho3) (ok' := fun k => k ≠ w.heap.size + 1 ∧ k < w3.heap.size) (fun k hk => ⟨by have := hk.2.1; have := HF.out.1; omega, hk.2.2.1⟩))
    have HW3 := Aside0.mk (And.intro hg3 (And.intro HS3 HF.out.1))
    clear HD3 hw3 hg3 HS3 HF HB0 ho3 k0 k1
    by_cases ce : e1 = 0
    · subst ce
      have h := H.out
      rw [if_pos rfl] at h
      replace h := Option.bind_eq_some_iff.mp h
      obtain ⟨⟨x2, e2, n2⟩, h2, h⟩ := h
      dsimp only at h
      have H2 := Aside0.mk h2
      have H' := Aside0.mk h
      clear h2 h H
      go_wp2_with fail
      refine (jv_calls A0_1 c0_1 l0_1 (w.heap.size + 1) n1 x2 e2 n2 w3 (Kd.C_below HR1.out.1 HB3.out) HR1.out.2 HW3.out.1 H2.out).mono ?_
      rintro e w4 ⟨v4, rfl, ho4, hg4, hw4⟩
      have HB4 := Aside0.mk (HB3.out.grown hw4 (by have := HW3.out.2.1; omega) (fun k e => by cases e; omega))
      have E := Aside0.mk (jv_two (B := w.heap.size) O3.out ho4 hw4 (by have := HW3.out.2.2; omega) (by have := HW3.out.2.1; omega))
      clear O3 ho4 hw4 hg4 HW3 k10 k11
      by_cases ce2 : e2 = 0
      · subst ce2
        have h := H'.out
        rw [if_pos rfl] at h
        simp only [Option.some.injEq, Prod.mk.injEq] at h
        obtain ⟨rfl, rfl, rfl⟩ := h
        go_wp2
        refine bodyPost_ret (v := .tuple #[v3, v4, .int .i64 0]) (by simp [results, Try.results21, go_sem]) rfl ?_
        exact ⟨_, _, rfl, E.out.1, E.out.2, HB4.out⟩
      · have cb : (e2 != 0) = true := bne_iff_ne.mpr ce2
        have h := H'.out
        rw [if_neg ce2] at h
        simp only [Option.some.injEq, Prod.mk.injEq] at h
        obtain ⟨rfl, rfl, rfl⟩ := h
        go_wp2
        refine bodyPost_ret (v := .tuple #[.slice none 0 0, .slice none 0 0, .int .i64 e2]) (by simp [results, Try.results21, go_sem]) rfl ?_
        exact ⟨_, _, rfl, Kd.S_nil _ _ _ _ _, Kd.S_nil _ _ _ _ _, HB4.out⟩
    · have cb : (e1 != 0) = true := bne_iff_ne.mpr ce
      have h := H.out
      rw [if_neg ce] at h
      simp only [Option.some.injEq, Prod.mk.injEq] at h
      obtain ⟨rfl, rfl, rfl⟩ := h
      go_wp2
      refine bodyPost_ret (v := .tuple #[.slice none 0 0, .slice none 0 0, .int .i64 e1]) (by simp [results, Try.results21, go_sem]) rfl ?_
      exact ⟨_, _, rfl, Kd.S_nil _ _ _ _ _, Kd.S_nil _ _ _ _ _, HB3.out⟩
end Go.Proofs.Ytfcdaifaocgjfaa.Pr
