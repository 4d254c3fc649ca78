/- A part of the proof of JournalAgain; no condition. -/
import Derived.Test.YtfcdaifaocgjfaaPr0
import Derived.Test.YtfcdaifaocgjfaaPla
import Derived.Deep.MidRow
namespace Go.Proofs.Ytfcdaifaocgjfaa.Pr
open Go.RowKit Go.Proofs.YtfcdaifaocgjfaaW.PrintWords Go.Proofs.YtfcdaifaocgjfaaW.PrintLast Go.Proofs.YtfcdaifaocgjfaaW.PrintMore
set_option linter.unusedVariables false
set_option linter.unusedSimpArgs false
def zeros256 : Array Value := ((List.range 256).map fun _ => Value.int .u32 0).toArray
def tabV : Array Value := ((List.range 256).map fun j => Value.int .u32 (Pl.st8 j : Nat)).toArray
theorem tabV_size : tabV.size = 256 := by simp [tabV]
theorem zeros256_size : zeros256.size = 256 := by simp [zeros256]
theorem tabV_at (j : Nat) (h : j < 256) : tabV[j]? = some (.int .u32 (Pl.st8 j : Nat)) := by
  simp [tabV, List.getElem?_range h]
theorem info82 : (Try.prog.info? 82).map (fun i => (i.zero, i.size)) = some (some (.agg zeros256), 256) := by kernel_rfl
theorem size82 : (Try.prog.info? 82).map (·.size) = some 256 := by kernel_rfl
theorem run_zero82 (W : World) : (zeroValue 82).run Try.prog W = .ok (.agg zeros256) W := by
  have h := info82
  cases hi : Try.prog.info? 82 with
  | none => rw [hi] at h; simp at h
  | some i =>
    rw [hi] at h
    simp only [Option.map_some, Option.some.injEq, Prod.mk.injEq] at h
    obtain ⟨hz, hs⟩ := h
    unfold zeroValue typeInfo
    simp [hi, hz, go_sem]
section
variable {ops : Array Oper} {rest : List Oper} {o : Oper} {a : Act} {Q : Exit → Act → World → Prop} {W : World}
/-- var t [256]uint32: a new block, its number a letter. -/
theorem alloc82 (hgd : o.guard = none) (ho : o.op = .alloc 82)
    (h : ∀ g, g = W.heap.size → ∀ w1, w1.heap[g]? = some (.cells zeros256 82 (0, 0)) → Below W.heap.size W w1 → w1.heap.size = g + 1 → wpList Try.prog ops Q rest (a.put o.dst (.pointer (some ⟨g, 0, none⟩))) w1) :
    wpList Try.prog ops Q (o :: rest) a W := by
  refine Kd.event_run (w1 := W.alloc (.cells zeros256 82)) hgd ?_ (h _ rfl _ (blk_new W _) (below_alloc (Below.refl _ _) _) (by simp))
  simp only [execOp, ho]
  simp [run_zero82, go_sem]
  exact congrArg (fun z => W.alloc (.cells z 82)) (by kernel_rfl)
/-- A whole array stored into a variable of 256 cells: the cells are the array's. -/
theorem setCells_all (b : Nat) (t : TypeId) : ∀ (vs : List Value) (pre : List Value) (post : List Value) (W : World), post.length = vs.length → W.heap[b]? = some (.cells (pre ++ post).toArray t (0, 0)) →
    (W.setCells b pre.length vs).heap[b]? = some (.cells (pre ++ vs).toArray t (0, 0))
  | [], pre, post, W, hl, hb => by
    obtain rfl : post = [] := List.eq_nil_of_length_eq_zero hl
    simpa [World.setCells] using hb
  | v :: r, pre, post, W, hl, hb => by
    cases post with
    | nil => simp at hl
    | cons p post =>
      have h1 := heap_setCell_same W b pre.length (pre ++ p :: post).toArray t v hb
      have e : (pre ++ p :: post).toArray.setIfInBounds pre.length v = ((pre ++ [v]) ++ post).toArray := by
        simp
      rw [e] at h1
      have := setCells_all b t r (pre ++ [v]) post (W.setCell ⟨b, pre.length, none⟩ v) (by simpa using hl) h1
      rw [List.length_append, List.length_singleton] at this
      rw [World.setCells]
      simpa using this
theorem below_setCells {B b : Nat} {w : World} (hb : B ≤ b) : ∀ (vs : List Value) (o : Nat) (W : World), Below B w W → Below B w (W.setCells b o vs)
  | [], _, _, h => h
  | v :: r, o, W, h => below_setCells hb r (o + 1) _ (h.setCell (p := ⟨b, o, none⟩) hb v)
theorem store82 (hgd : o.guard = none) (x y : Operand) (ho : o.op = .store 82 x y) (g : Nat) (cs cs' : Array Value) (hx : a.eval x = .pointer (some ⟨g, 0, none⟩)) (hy : a.eval y = .agg cs)
    (hs : cs.size = 256) (hs' : cs'.size = 256) (h1 : cs.all (·.oneCell') = true) (hg : W.heap[g]? = some (.cells cs' 82 (0, 0))) {B : Nat} {w : World} (hB : B ≤ g) (hb : Below B w W)
    (h : ∀ w1, w1.heap[g]? = some (.cells cs 82 (0, 0)) → Below B w w1 → wpList Try.prog ops Q rest (a.put o.dst undef) w1) :
    wpList Try.prog ops Q (o :: rest) a W := by
  have hth : W.there g 0 cs.size := fun j hj => by
    have hc : W.cell? ⟨g, j, none⟩ = cs'[j]? := cell_of_row W g j cs' 82 (0, 0) hg
    refine ⟨?_, ?_⟩
    · rw [Nat.zero_add, hc, Array.getElem?_eq_getElem (by omega)]; rfl
    · exact frozen_of_row W g _ cs' 82 hg
  refine wpList_store_mid hgd 82 x y ho g 0 cs hx hy hth (by rw [size82, hs]) h1 ?_
  refine h _ ?_ (below_setCells hB _ _ _ hb)
  have := setCells_all g 82 cs.toList [] cs'.toList W (by simp [hs, hs']) (by simpa using hg)
  simpa using this
end
theorem ofInt_u32 (a : Nat) (ha : a < 4294967296) : (BitVec.ofInt 32 (a : Int)).toNat = a := by
  rw [BitVec.ofInt_natCast, BitVec.toNat_ofNat]; exact Nat.mod_eq_of_lt (by omega)
theorem wrap_u32 (n : Nat) (h : n < 4294967296) : IntKind.u32.wrap (n : Int) = n := by
  rw [IntKind.wrap_u32]; omega
theorem u32_xor (a b : Nat) (ha : a < 4294967296) (hb : b < 4294967296) : Go.bits .xor .u32 (a : Int) (b : Int) = ((a ^^^ b : Nat) : Int) := by
  have hx : a ^^^ b < 2 ^ 32 := Nat.xor_lt_two_pow (by omega) (by omega)
  show IntKind.u32.wrap ((BitVec.ofInt 32 (a : Int) ^^^ BitVec.ofInt 32 (b : Int)).toNat : Int) = _
  rw [BitVec.toNat_xor, ofInt_u32 a ha, ofInt_u32 b hb, wrap_u32 _ (by omega)]
theorem u32_and (a b : Nat) (ha : a < 4294967296) (hb : b < 4294967296) : Go.bits .and .u32 (a : Int) (b : Int) = ((a &&& b : Nat) : Int) := by
  have hx : a &&& b < 2 ^ 32 := Nat.and_lt_two_pow _ (by omega)
  show IntKind.u32.wrap ((BitVec.ofInt 32 (a : Int) &&& BitVec.ofInt 32 (b : Int)).toNat : Int) = _
  rw [BitVec.toNat_and, ofInt_u32 a ha, ofInt_u32 b hb, wrap_u32 _ (by omega)]
theorem step_lt (n : Nat) (h : n < 4294967296) : Pl.step n < 4294967296 := by
  unfold Pl.step
  split
  · exact Nat.xor_lt_two_pow (n := 32) (by omega) (by omega)
  · omega
theorem step_bits (n : Nat) (h : n < 4294967296) :
    Go.bits .xor .u32 ((n : Int) / 2) (Go.bits .and .u32 3988292384 ((-Go.bits .and .u32 (n : Int) 1) % 4294967296)) = ((Pl.step n : Nat) : Int) := by
  have e1 : Go.bits .and .u32 (n : Int) 1 = ((n % 2 : Nat) : Int) := by
    have := u32_and n 1 h (by omega)
    rw [Nat.and_one_is_mod] at this
    exact this
  rw [e1]
  have e2 : ((n : Int) / 2) = ((n / 2 : Nat) : Int) := by omega
  rw [e2]
  unfold Pl.step
  rcases Nat.mod_two_eq_zero_or_one n with h2 | h2
  · rw [h2, if_neg (by omega)]
    have e3 : Go.bits .and .u32 3988292384 ((-((0 : Nat) : Int)) % 4294967296) = ((0 : Nat) : Int) := by decide +kernel
    rw [e3, u32_xor _ _ (by omega) (by omega), Nat.xor_zero]
  · rw [h2, if_pos rfl]
    have e3 : Go.bits .and .u32 3988292384 ((-((1 : Nat) : Int)) % 4294967296) = ((3988292384 : Nat) : Int) := by decide +kernel
    rw [e3, u32_xor _ _ (by omega) (by omega)]
def stepK : Nat → Nat → Nat
  | 0, n => n
  | k + 1, n => Pl.step (stepK k n)
theorem stepK_lt (j n : Nat) (h : n < 4294967296) : stepK j n < 4294967296 := by
  induction j with
  | zero => exact h
  | succ j ih => exact step_lt _ ih
theorem stepK_8 (n : Nat) : stepK 8 n = Pl.st8 n := rfl
/-- The table when k rounds are over. -/
def curV (k : Nat) : Array Value := ((List.range 256).map fun j => Value.int .u32 (if j < k then ((Pl.st8 j : Nat) : Int) else 0)).toArray
theorem curV_zero : curV 0 = zeros256 := by
  unfold curV zeros256
  rw [show ((List.range 256).map fun j => Value.int .u32 (if j < 0 then ((Pl.st8 j : Nat) : Int) else 0)) = ((List.range 256).map fun _ => Value.int .u32 0) from List.map_congr_left (fun j _ => by rw [if_neg (Nat.not_lt_zero j)])]
theorem curV_all : curV 256 = tabV := by
  unfold curV tabV
  rw [show ((List.range 256).map fun j => Value.int .u32 (if j < 256 then ((Pl.st8 j : Nat) : Int) else 0)) = ((List.range 256).map fun j => Value.int .u32 ((Pl.st8 j : Nat) : Int)) from List.map_congr_left (fun j hj => by rw [if_pos (List.mem_range.1 hj)])]
theorem curV_size (k : Nat) : (curV k).size = 256 := by simp [curV]
theorem curV_at (k j : Nat) (h : j < 256) : (curV k)[j]? = some (.int .u32 (if j < k then ((Pl.st8 j : Nat) : Int) else 0)) := by
  simp [curV, List.getElem?_range h]
theorem curV_set (k : Nat) (hk : k < 256) : (curV k).setIfInBounds k (.int .u32 ((Pl.st8 k : Nat) : Int)) = curV (k + 1) := by
  apply Array.ext_getElem?
  intro j
  rw [Array.getElem?_setIfInBounds]
  by_cases hj : j < 256
  · rw [curV_at _ _ hj, curV_at _ _ hj, curV_size]
    by_cases e : k = j
    · subst e; rw [if_pos rfl, if_pos hk, if_pos (by omega)]
    · rw [if_neg e]
      by_cases h1 : j < k
      · rw [if_pos h1, if_pos (by omega)]
      · rw [if_neg h1, if_neg (by omega)]
  · have e1 : (curV k)[j]? = none := Array.getElem?_eq_none (by rw [curV_size]; omega)
    have e2 : (curV (k + 1))[j]? = none := Array.getElem?_eq_none (by rw [curV_size]; omega)
    rw [e1, e2, if_neg (by omega)]
theorem tabV_one : tabV.all (·.oneCell') = true := by
  rw [Array.all_eq_true]
  intro i hi
  have := tabV_at i (by rwa [tabV_size] at hi)
  rw [Array.getElem?_eq_getElem hi] at this
  rw [Option.some.inj this]; rfl
set_option maxHeartbeats 2000000 in
set_option maxRecDepth 100000 in
theorem table_calls (w : World) : Calls Try.prog 50 #[] w fun e w' => e = .returned (.agg tabV) ∧ Below w.heap.size w w' := by
  go_enter Try.func50, Try.ntmps50
  go_wp2_with (first
    | ((with_reducible refine gate_dst (N := 0) rfl ?_); refine alloc82 rfl rfl ?_; intro g0 hg0 w1 hb1 hB1 hs1; have HB0 := Aside0.mk hb1; have HS0 := Aside0.mk (show w.heap.size = g0 ∧ w1.heap.size = g0 + 1 from ⟨hg0.symm, hs1⟩); have HW0 := Aside0.mk hB1; clear hg0 hs1 hb1 hB1)
    | ((with_reducible refine gate_dst (N := 1) rfl ?_); refine alloc82 rfl rfl ?_; intro g1 hg1 w2 hb1 hB1 hs1; have HB1 := Aside0.mk hb1; have HS1 := Aside0.mk (show w1.heap.size = g1 ∧ w2.heap.size = g1 + 1 from ⟨hg1.symm, hs1⟩); have HW1 := Aside0.mk hB1; clear hg1 hs1 hb1 hB1))
  have hne : g1 ≠ g0 := by have := HS0.out; have := HS1.out; omega
  have HE := Aside0.mk hne
  clear hne
  have hB2 : Below w.heap.size w w2 := HW0.out.trans (HW1.out.mono HW0.out.size)
  have hB02 : w2.heap[g0]? = some (.cells zeros256 82 (0, 0)) := (HW1.out.block g0 (by have := HS0.out; omega)).trans HB0.out
  have H0 := Aside0.mk (show Below w.heap.size w w2 ∧ w2.heap[g0]? = some (.cells zeros256 82 (0, 0)) ∧ w2.heap[g1]? = some (.cells zeros256 82 (0, 0)) from ⟨hB2, hB02, HB1.out⟩)
  have HG := Aside0.mk (show w.heap.size ≤ g0 ∧ w.heap.size ≤ g1 by have := HS0.out; have := HS1.out; omega)
  clear hB2 hB02 HB0 HB1 HW0 HW1
  go_loopw [4] (fun i wr => ∃ k : Nat, k ≤ 256 ∧ i = .int .i64 k ∧ Aside0 (Below w.heap.size w wr ∧ wr.heap[g0]? = some (.cells zeros256 82 (0, 0)) ∧ wr.heap[g1]? = some (.cells (curV k) 82 (0, 0)))) (fun i _ => 256 - (intOf i).toNat)
  case atStart => exact ⟨0, by omega, rfl, ⟨by rw [curV_zero]; exact H0.out⟩⟩
  case round =>
    obtain ⟨k, hk, rfl, hrr⟩ := hrel
    by_cases hlt : k < 256
    · go_wp2
      go_loop [3, 9] (fun n i => ∃ j : Nat, j ≤ 8 ∧ i = .int .i64 j ∧ n = .int .u32 (stepK j k : Nat)) (fun _ i => 8 - (intOf i).toNat)
      case atStart => exact ⟨0, by omega, rfl, by simp [stepK]⟩
      case round =>
        obtain ⟨j, hj, rfl, rfl⟩ := hrel
        by_cases hl : j < 8
        · have HST := Aside0.mk (step_bits (stepK j k) (stepK_lt j k (by omega)))
          go_wp2
          go_round
          case rel => exact ⟨j + 1, by omega, by go_num, by rw [HST.out]; rfl⟩
          case measure => simp [intOf]; omega
        · obtain rfl : j = 8 := by omega
          have hcell : wr.cell? ⟨g1, k, none⟩ = some (.int .u32 0) := by rw [blk_cell hrr.out.2.2, curV_at _ _ hlt, if_neg (by omega)]
          have hfr : wr.frozen? ⟨g1, k, none⟩ = false := frozen_of_row wr g1 k _ 82 hrr.out.2.2
          go_wp2
          go_roundw
          case rel => exact ⟨k + 1, by omega, by go_num, ⟨hrr.out.1.setCell (p := ⟨g1, k, none⟩) HG.out.2 _, (heap_setCell_other _ _ _ _ (Ne.symm HE.out)).trans hrr.out.2.1, by rw [stepK_8, ← curV_set k hlt]; exact heap_setCell_same wr g1 k _ 82 _ hrr.out.2.2⟩⟩
          case measure => simp [intOf]; omega
    · obtain rfl : k = 256 := by omega
      rw [curV_all] at hrr
      go_wp2_with (first
        | ((with_reducible refine gate_dst (N := 23) rfl ?_); refine wpList_load_row rfl 82 _ rfl g1 rfl 82 tabV (0, 0) _ hrr.out.2.2 Try.underlying82 rfl (by rw [size82, tabV_size]) ?_)
        | (refine store82 rfl _ _ rfl g0 tabV zeros256 rfl rfl tabV_size zeros256_size tabV_one hrr.out.2.1 HG.out.1 hrr.out.1 ?_; intro w3 hb3 hB3; have H3 := Aside0.mk hb3; have H4 := Aside0.mk hB3; clear hb3 hB3))
      exact bodyPost_ret (results_cell_row rfl _ _ g0 82 tabV (0, 0) _ rfl H3.out Try.underlying82 rfl (by rw [size82, tabV_size])) rfl ⟨rfl, H4.out⟩
end Go.Proofs.Ytfcdaifaocgjfaa.Pr
