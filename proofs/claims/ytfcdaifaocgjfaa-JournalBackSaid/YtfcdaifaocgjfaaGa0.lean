/- Parts of the proof of JournalBack; no condition. -/
import Derived.Test.YtfcdaifaocgjfaaProg
import Derived.Below
import Derived.Deep.Draws
import Derived.Deep.AppendLies
import Derived.Maps.AppendAt
import Derived.OwnWalk
import Derived.Laws.BytesArg
import Derived.Laws.MakeOwn
import Derived.Laws.OwnMore
import Derived.Deep.OwnRows
import Derived.Tactics
import Derived.Lib.ConvBytes
import Derived.Laws.Slices
import Derived.WalkKit
import Derived.KernelRfl
import Derived.RowKit3
import Derived.Deep.LoopGhost
import Derived.Deep.QuietTactic
import Derived.BigQuiet
import Derived.WideLaws
import Derived.Deep.DeepCutAuto
import Derived.Deep.CutBlock
import Derived.Deep.RegionHeld3
import Derived.Laws.Rows
import Derived.Lib.AppendStr
import Derived.ArgAppend
import Derived.Laws.IdiomCopy
import Derived.OrdersHeld
import Derived.Laws.BitsLemmas
import Derived.RowKit
import Derived.Test.YtfcdaifaocgjfaaWa
import Derived.Lib.SliceRun
import Derived.Test.YtfcdaifaocgjfaaPla
import Derived.Deep.MidRow
section
namespace Go.Proofs.Ytfcdaifaocgjfaa.Pr
open Go.RowKit Go.Proofs.YtfcdaifaocgjfaaW.PrintWords Go.Proofs.YtfcdaifaocgjfaaW.PrintLast Go.Proofs.YtfcdaifaocgjfaaW.PrintMore
attribute [local go_sem] max2_int min2_int max_two min_two max_three min_three max_four min_four   -- for this text's walks alone
set_option linter.unusedVariables false
set_option linter.unusedSimpArgs false
def errW : Option Int → Value
  | none => .nilIface
  | some c => .iface 0 (.int .i64 c)
theorem errW_none : errW none = .nilIface := rfl
theorem errW_some (c : Int) : errW (some c) = .iface 0 (.int .i64 c) := rfl
theorem info5 : (Try.prog.info? 5).map (fun i => (i.zero, i.size, i.bytes)) = some (some (.int .u8 0), 1, 1) := by kernel_rfl
theorem info22 : (Try.prog.info? 22).map (fun i => (i.zero, i.size, i.bytes)) = some (some (.slice none 0 0), 1, 24) := by kernel_rfl
theorem info50 : (Try.prog.info? 50).map (fun i => (i.zero, i.size, i.bytes)) = some (some (.agg #[(.int .i64 0), (.slice none 0 0), (.int .i64 0), (.bool false)]), 4, 48) := by kernel_rfl
theorem info76 : (Try.prog.info? 76).map (fun i => (i.zero, i.size, i.bytes)) = some (some (.agg #[(.int .i64 0), (.int .i64 0)]), 2, 16) := by kernel_rfl
def rd_L1 (xs : List (List Int)) (i : Int) : (List Int) := xs.getD i.toNat ([] : List Int)
theorem at_L1 {w : World} {A : Option Addr} {n : Nat} {xs : List (List Int)} (h : Kd.C (Kd.slice 5 (Kd.int .u8)) w A n xs) (i : Int) (h0 : 0 ≤ i) (h1 : i < n) : ∃ ad A0 c0, A = some ad ∧ w.cell? (ad.add i.toNat) = some (.slice A0 (rd_L1 xs i).length c0) ∧ (rd_L1 xs i).length ≤ c0 ∧ (Kd.int .u8).C w A0 (rd_L1 xs i).length (rd_L1 xs i) := by
  obtain ⟨ad, c, e, _, hK, hc0⟩ := Kd.C_get h ([] : List Int) i h0 h1
  have hc : ∀ j u, c[j]? = some u → w.cell? (ad.add (i.toNat * 1 + j)) = some u := hc0
  obtain ⟨A0, c0, rfl, l0, g0⟩ := hK
  exact ⟨ad, A0, c0, e, by have hq := hc 0 _ rfl; rwa [Nat.mul_one, Nat.add_zero] at hq, l0, g0⟩
structure S76 where
  f0 : Int
  f1 : Int
def z76 : S76 := ⟨(0 : Int), (0 : Int)⟩
def k76 : Kd S76 := Kd.iso (Kd.pair (Kd.int .i64) (Kd.int .i64)) (fun x : S76 => (x.f0, x.f1))
theorem k76_open {w : World} {x : S76} {cs : List Value} (h : k76.K w x cs) : cs = [.int .i64 x.f0, .int .i64 x.f1] := by
  obtain ⟨_, _, rfl, rfl, rfl⟩ := h
  exact rfl
theorem k76_openM {w : World} {base : Nat} {ok : Nat → Prop} {x : S76} {cs : List Value} (h : k76.M w base ok x cs) : cs = [.int .i64 x.f0, .int .i64 x.f1] := by
  obtain ⟨_, _, rfl, rfl, rfl⟩ := h
  exact rfl
theorem k76_mk (w : World) (x : S76)  : k76.K w x [.int .i64 x.f0, .int .i64 x.f1] := ⟨[.int .i64 x.f0], [.int .i64 x.f1], rfl, rfl, rfl⟩
theorem k76_mkM (w : World) (base : Nat) (ok : Nat → Prop) (x : S76)  : k76.M w base ok x [.int .i64 x.f0, .int .i64 x.f1] := ⟨[.int .i64 x.f0], [.int .i64 x.f1], rfl, rfl, rfl⟩
def rd_T76 (xs : List S76) (i : Int) : S76 := xs.getD i.toNat z76
theorem at_T76 {w : World} {A : Option Addr} {n : Nat} {xs : List S76} (h : Kd.C k76 w A n xs) (i : Int) (h0 : 0 ≤ i) (h1 : i < n) : ∃ ad , A = some ad ∧ w.cell? (ad.add (i.toNat * 2)) = some (.int .i64 (rd_T76 xs i).f0) ∧ w.cell? ⟨(ad.add (i.toNat * 2)).block, (ad.add (i.toNat * 2)).off + 1, none⟩ = some (.int .i64 (rd_T76 xs i).f1) := by
  obtain ⟨ad, c, e, _, hK, hc0⟩ := Kd.C_get h z76 i h0 h1
  have hc : ∀ j u, c[j]? = some u → w.cell? (ad.add (i.toNat * 2 + j)) = some u := hc0
  obtain rfl := k76_open hK
  exact ⟨ad, e, hc 0 _ rfl, by rw [← add_field _ _ 1 (by omega)]; exact hc 1 _ rfl⟩
structure S48 where
  f0 : (List S76)
def z48 : S48 := ⟨([] : List S76)⟩
def k48 : Kd S48 := Kd.iso (Kd.slice 76 k76) (fun x : S48 => x.f0)
theorem k48_open {w : World} {x : S48} {cs : List Value} (h : k48.K w x cs) : ∃ A0 c0, cs = [.slice A0 x.f0.length c0] ∧ x.f0.length ≤ c0 ∧ k76.C w A0 x.f0.length x.f0 := by
  obtain ⟨A0, c0, rfl, l0, g0⟩ := h
  exact ⟨A0, c0, rfl, l0, g0⟩
theorem k48_mk (w : World) (x : S48) {A0 : Option Addr} {c0 : Nat} (l0 : x.f0.length ≤ c0) (g0 : k76.C w A0 x.f0.length x.f0) : k48.K w x [.slice A0 x.f0.length c0] := ⟨A0, c0, rfl, l0, g0⟩
theorem k48_mkM (w : World) (base : Nat) (ok : Nat → Prop) (x : S48) {v0 : Value} (g0 : k76.R 76 w base ok v0 x.f0) : k48.M w base ok x [v0] := ⟨v0, rfl, g0⟩
structure S50 where
  f0 : Int
  f1 : S48
  f2 : Int
  f3 : Bool
def z50 : S50 := ⟨(0 : Int), z48, (0 : Int), false⟩
def k50 : Kd S50 := Kd.iso (Kd.pair (Kd.int .i64) (Kd.pair k48 (Kd.pair (Kd.int .i64) Kd.bool))) (fun x : S50 => (x.f0, x.f1, x.f2, x.f3))
theorem k50_open {w : World} {x : S50} {cs : List Value} (h : k50.K w x cs) : ∃ A1 c1, cs = [.int .i64 x.f0, .slice A1 x.f1.f0.length c1, .int .i64 x.f2, .bool x.f3] ∧ x.f1.f0.length ≤ c1 ∧ k76.C w A1 x.f1.f0.length x.f1.f0 := by
  obtain ⟨_, _, rfl, rfl, ⟨_, _, rfl, s1, ⟨_, _, rfl, rfl, rfl⟩⟩⟩ := h
  obtain ⟨A1, c1, rfl, l1, g1⟩ := k48_open s1
  exact ⟨A1, c1, rfl, l1, g1⟩
theorem k50_mk (w : World) (x : S50) {A1 : Option Addr} {c1 : Nat} (l1 : x.f1.f0.length ≤ c1) (g1 : k76.C w A1 x.f1.f0.length x.f1.f0) : k50.K w x [.int .i64 x.f0, .slice A1 x.f1.f0.length c1, .int .i64 x.f2, .bool x.f3] := ⟨[.int .i64 x.f0], [.slice A1 x.f1.f0.length c1, .int .i64 x.f2, .bool x.f3], rfl, rfl, ⟨[.slice A1 x.f1.f0.length c1], [.int .i64 x.f2, .bool x.f3], rfl, (k48_mk w x.f1 l1 g1), ⟨[.int .i64 x.f2], [.bool x.f3], rfl, rfl, rfl⟩⟩⟩
theorem k50_mkM (w : World) (base : Nat) (ok : Nat → Prop) (x : S50) {v1 : Value} (g1 : k76.R 76 w base ok v1 x.f1.f0) : k50.M w base ok x [.int .i64 x.f0, v1, .int .i64 x.f2, .bool x.f3] := ⟨[.int .i64 x.f0], [v1, .int .i64 x.f2, .bool x.f3], rfl, rfl, ⟨[v1], [.int .i64 x.f2, .bool x.f3], rfl, (k48_mkM w base ok x.f1 g1), ⟨[.int .i64 x.f2], [.bool x.f3], rfl, rfl, rfl⟩⟩⟩
theorem k50_openF {W : World} {ok : Nat → Prop} {x : S50} {cs : List Value} (h : Kd.FK k50 W ok x cs) : ∃ A1 c1, cs = [.int .i64 x.f0, .slice A1 x.f1.f0.length c1, .int .i64 x.f2, .bool x.f3] ∧ x.f1.f0.length ≤ c1 ∧ Kd.F k76 W ok A1 x.f1.f0.length x.f1.f0 := by
  obtain ⟨A1, c1, rfl, l1, _⟩ := k50_open (Kd.FK_now h)
  exact ⟨A1, c1, rfl, l1, (fun W' hW => by obtain ⟨A1_, c1_, he, l1_, g1_⟩ := k50_open (h W' hW); injection (Option.some.inj (show some (Value.slice A1 x.f1.f0.length c1) = some (Value.slice A1_ x.f1.f0.length c1_) from congrArg (fun l => l[1]?) he)) with ha_ _ _; rw [ha_]; exact g1_)⟩
theorem k50_mkF (W : World) (ok : Nat → Prop) (x : S50) {A1 : Option Addr} {c1 : Nat} (l1 : x.f1.f0.length ≤ c1) (g1 : Kd.F k76 W ok A1 x.f1.f0.length x.f1.f0) : Kd.FK k50 W ok x [.int .i64 x.f0, .slice A1 x.f1.f0.length c1, .int .i64 x.f2, .bool x.f3] := fun W2 hW => k50_mk W2 x l1 (g1 W2 hW)
def rd_T50 (xs : List S50) (i : Int) : S50 := xs.getD i.toNat z50
theorem at_T50 {w : World} {A : Option Addr} {n : Nat} {xs : List S50} (h : Kd.C k50 w A n xs) (i : Int) (h0 : 0 ≤ i) (h1 : i < n) : ∃ ad A1 c1, A = some ad ∧ w.cell? (ad.add (i.toNat * 4)) = some (.int .i64 (rd_T50 xs i).f0) ∧ w.cell? ⟨(ad.add (i.toNat * 4)).block, (ad.add (i.toNat * 4)).off + 1, none⟩ = some (.slice A1 (rd_T50 xs i).f1.f0.length c1) ∧ w.cell? ⟨(ad.add (i.toNat * 4)).block, (ad.add (i.toNat * 4)).off + 2, none⟩ = some (.int .i64 (rd_T50 xs i).f2) ∧ w.cell? ⟨(ad.add (i.toNat * 4)).block, (ad.add (i.toNat * 4)).off + 3, none⟩ = some (.bool (rd_T50 xs i).f3) ∧ (rd_T50 xs i).f1.f0.length ≤ c1 ∧ k76.C w A1 (rd_T50 xs i).f1.f0.length (rd_T50 xs i).f1.f0 := by
  obtain ⟨ad, c, e, _, hK, hc0⟩ := Kd.C_get h z50 i h0 h1
  have hc : ∀ j u, c[j]? = some u → w.cell? (ad.add (i.toNat * 4 + j)) = some u := hc0
  obtain ⟨A1, c1, rfl, l1, g1⟩ := k50_open hK
  exact ⟨ad, A1, c1, e, hc 0 _ rfl, by rw [← add_field _ _ 1 (by omega)]; exact hc 1 _ rfl, by rw [← add_field _ _ 2 (by omega)]; exact hc 2 _ rfl, by rw [← add_field _ _ 3 (by omega)]; exact hc 3 _ rfl, l1, g1⟩
end Go.Proofs.Ytfcdaifaocgjfaa.Pr
end
section
namespace Go.Proofs.Ytfcdaifaocgjfaa.Pr
open Go.RowKit Go.Proofs.YtfcdaifaocgjfaaW.PrintWords Go.Proofs.YtfcdaifaocgjfaaW.PrintLast Go.Proofs.YtfcdaifaocgjfaaW.PrintMore
attribute [local go_sem] max2_int min2_int max_two min_two max_three min_three max_four min_four   -- for this text's walks alone
set_option linter.unusedVariables false
set_option linter.unusedSimpArgs false
def slices_Clone_byte_byte.f (l0 : List Int) : Option (List Int) := if l0.length < 140737488355328 then some l0 else none
set_option maxHeartbeats 1000000 in
theorem slices_Clone_byte_byte.calls (A0 : Option Addr) (c0 : Nat) (l0 : List Int) (r : List Int) (w : World) (hr0 : Kd.C (Kd.int .u8) w A0 l0.length l0) (hc0 : l0.length ≤ c0) (h : slices_Clone_byte_byte.f l0 = some r) :
    Calls Try.prog 33 #[.slice A0 l0.length c0] w fun e w' => ∃ v0_ : Value, e = .returned (v0_) ∧ Kd.R (Kd.int .u8) 5 w' w.heap.size (fun _ => True) v0_ r ∧ Below w.heap.size w w' := by
  unfold slices_Clone_byte_byte.f at h
  split at h
  · rename_i hl
    obtain rfl := Option.some.inj h
    clear h
    have HL := Aside0.mk hl
    clear hl
    have hen := fun (n c : Nat) => Lib.run_eql_slice_nil (P := Try.prog) w 22 5 none n c 0 0 Try.underlying22
    have hes := fun (a : Addr) (n c : Nat) => Lib.run_eql_slice_nil (P := Try.prog) w 22 5 (some a) n c 0 0 Try.underlying22
    cases A0 with
    | none =>
      have h0 : l0.length = 0 := by
        rcases Nat.eq_zero_or_pos l0.length with h0 | h0
        · exact h0
        · obtain ⟨ad, e, _⟩ := hr0.2.2 h0
          cases e
      obtain rfl : l0 = [] := List.eq_nil_of_length_eq_zero h0
      clear hr0 hc0 hes
      go_enter Try.func33, Try.ntmps33
      go_wp2
      go_ret
      exact ⟨_, rfl, Kd.R_nil _ _ _ _ _, Below.refl _ _⟩
    | some ad =>
      have HR := Aside0.mk hr0
      clear hr0 hc0 hen
      go_enter Try.func33, Try.ntmps33
      go_wp2_with (at_builtin; refine print_append_row_of (w0 := w) (Value.int .u8) (0 : Int) w.heap.size rfl _ _ 22 5 (.int .u8 0) 1 rfl Try.underlying22 info5 rfl (by omega) (fun _ => rfl) _ [] l0 (some ad) l0.length c0 rfl rfl (World.ownsRow_lit (base := w.heap.size) (e := 5) (size := 1) w #[] 0 (Nat.le_refl _) (by simp [maxLen]) (by simp)) (Kd.reads_of_C (Kd.C_below HR.out (below_alloc (Below.refl _ _) _))) (below_alloc (Below.refl _ _) _) (by simp) (by have := HL.out; simp; omega) ?_; intro v1 w1 hown hb hg hat)
      go_ret
      exact ⟨_, rfl, Kd.R_of_own (by simpa using hown) (fun _ _ => trivial), hb⟩
  · exact absurd h (by simp)
end Go.Proofs.Ytfcdaifaocgjfaa.Pr
end
section
namespace Go.Proofs.Ytfcdaifaocgjfaa.Pr
open Go.RowKit Go.Proofs.YtfcdaifaocgjfaaW.PrintWords Go.Proofs.YtfcdaifaocgjfaaW.PrintLast Go.Proofs.YtfcdaifaocgjfaaW.PrintMore
set_option linter.unusedVariables false
set_option linter.unusedSimpArgs false
def zeros256 : Array Value := ((List.range 256).map fun _ => Value.int .u32 0).toArray
def tabV : Array Value := ((List.range 256).map fun j => Value.int .u32 (Pl.st8 j : Nat)).toArray
theorem tabV_size : tabV.size = 256 := by simp [tabV]
theorem zeros256_size : zeros256.size = 256 := by simp [zeros256]
theorem tabV_at (j : Nat) (h : j < 256) : tabV[j]? = some (.int .u32 (Pl.st8 j : Nat)) := by
  simp [tabV, List.getElem?_range h]
theorem info82 : (Try.prog.info? 82).map (fun i => (i.zero, i.size)) = some (some (.agg zeros256), 256) := by kernel_rfl
theorem size82 : (Try.prog.info? 82).map (·.size) = some 256 := by kernel_rfl
theorem run_zero82 (W : World) : (zeroValue 82).run Try.prog W = .ok (.agg zeros256) W := by
  have h := info82
  cases hi : Try.prog.info? 82 with
  | none => rw [hi] at h; simp at h
  | some i =>
    rw [hi] at h
    simp only [Option.map_some, Option.some.injEq, Prod.mk.injEq] at h
    obtain ⟨hz, hs⟩ := h
    unfold zeroValue typeInfo
    simp [hi, hz, go_sem]
section
variable {ops : Array Oper} {rest : List Oper} {o : Oper} {a : Act} {Q : Exit → Act → World → Prop} {W : World}
/-- var t [256]uint32: a new block, its number a letter. -/
theorem alloc82 (hgd : o.guard = none) (ho : o.op = .alloc 82)
    (h : ∀ g, g = W.heap.size → ∀ w1, w1.heap[g]? = some (.cells zeros256 82 (0, 0)) → Below W.heap.size W w1 → w1.heap.size = g + 1 → wpList Try.prog ops Q rest (a.put o.dst (.pointer (some ⟨g, 0, none⟩))) w1) :
    wpList Try.prog ops Q (o :: rest) a W := by
  refine Kd.event_run (w1 := W.alloc (.cells zeros256 82)) hgd ?_ (h _ rfl _ (blk_new W _) (below_alloc (Below.refl _ _) _) (by simp))
  simp only [execOp, ho]
  simp [run_zero82, go_sem]
  exact congrArg (fun z => W.alloc (.cells z 82)) (by kernel_rfl)
/-- A whole array stored into a variable of 256 cells: the cells are the array's. -/
theorem setCells_all (b : Nat) (t : TypeId) : ∀ (vs : List Value) (pre : List Value) (post : List Value) (W : World), post.length = vs.length → W.heap[b]? = some (.cells (pre ++ post).toArray t (0, 0)) →
    (W.setCells b pre.length vs).heap[b]? = some (.cells (pre ++ vs).toArray t (0, 0))
  | [], pre, post, W, hl, hb => by
    obtain rfl : post = [] := List.eq_nil_of_length_eq_zero hl
    simpa [World.setCells] using hb
  | v :: r, pre, post, W, hl, hb => by
    cases post with
    | nil => simp at hl
    | cons p post =>
      have h1 := heap_setCell_same W b pre.length (pre ++ p :: post).toArray t v hb
      have e : (pre ++ p :: post).toArray.setIfInBounds pre.length v = ((pre ++ [v]) ++ post).toArray := by
        simp
      rw [e] at h1
      have := setCells_all b t r (pre ++ [v]) post (W.setCell ⟨b, pre.length, none⟩ v) (by simpa using hl) h1
      rw [List.length_append, List.length_singleton] at this
      rw [World.setCells]
      simpa using this
theorem below_setCells {B b : Nat} {w : World} (hb : B ≤ b) : ∀ (vs : List Value) (o : Nat) (W : World), Below B w W → Below B w (W.setCells b o vs)
  | [], _, _, h => h
  | v :: r, o, W, h => below_setCells hb r (o + 1) _ (h.setCell (p := ⟨b, o, none⟩) hb v)
theorem store82 (hgd : o.guard = none) (x y : Operand) (ho : o.op = .store 82 x y) (g : Nat) (cs cs' : Array Value) (hx : a.eval x = .pointer (some ⟨g, 0, none⟩)) (hy : a.eval y = .agg cs)
    (hs : cs.size = 256) (hs' : cs'.size = 256) (h1 : cs.all (·.oneCell') = true) (hg : W.heap[g]? = some (.cells cs' 82 (0, 0))) {B : Nat} {w : World} (hB : B ≤ g) (hb : Below B w W)
    (h : ∀ w1, w1.heap[g]? = some (.cells cs 82 (0, 0)) → Below B w w1 → wpList Try.prog ops Q rest (a.put o.dst undef) w1) :
    wpList Try.prog ops Q (o :: rest) a W := by
  have hth : W.there g 0 cs.size := fun j hj => by
    have hc : W.cell? ⟨g, j, none⟩ = cs'[j]? := cell_of_row W g j cs' 82 (0, 0) hg
    refine ⟨?_, ?_⟩
    · rw [Nat.zero_add, hc, Array.getElem?_eq_getElem (by omega)]; rfl
    · exact frozen_of_row W g _ cs' 82 hg
  refine wpList_store_mid hgd 82 x y ho g 0 cs hx hy hth (by rw [size82, hs]) h1 ?_
  refine h _ ?_ (below_setCells hB _ _ _ hb)
  have := setCells_all g 82 cs.toList [] cs'.toList W (by simp [hs, hs']) (by simpa using hg)
  simpa using this
end
theorem ofInt_u32 (a : Nat) (ha : a < 4294967296) : (BitVec.ofInt 32 (a : Int)).toNat = a := by
  rw [BitVec.ofInt_natCast, BitVec.toNat_ofNat]; exact Nat.mod_eq_of_lt (by omega)
theorem wrap_u32 (n : Nat) (h : n < 4294967296) : IntKind.u32.wrap (n : Int) = n := by
  rw [IntKind.wrap_u32]; omega
theorem u32_xor (a b : Nat) (ha : a < 4294967296) (hb : b < 4294967296) : Go.bits .xor .u32 (a : Int) (b : Int) = ((a ^^^ b : Nat) : Int) := by
  have hx : a ^^^ b < 2 ^ 32 := Nat.xor_lt_two_pow (by omega) (by omega)
  show IntKind.u32.wrap ((BitVec.ofInt 32 (a : Int) ^^^ BitVec.ofInt 32 (b : Int)).toNat : Int) = _
  rw [BitVec.toNat_xor, ofInt_u32 a ha, ofInt_u32 b hb, wrap_u32 _ (by omega)]
theorem u32_and (a b : Nat) (ha : a < 4294967296) (hb : b < 4294967296) : Go.bits .and .u32 (a : Int) (b : Int) = ((a &&& b : Nat) : Int) := by
  have hx : a &&& b < 2 ^ 32 := Nat.and_lt_two_pow _ (by omega)
  show IntKind.u32.wrap ((BitVec.ofInt 32 (a : Int) &&& BitVec.ofInt 32 (b : Int)).toNat : Int) = _
  rw [BitVec.toNat_and, ofInt_u32 a ha, ofInt_u32 b hb, wrap_u32 _ (by omega)]
theorem step_lt (n : Nat) (h : n < 4294967296) : Pl.step n < 4294967296 := by
  unfold Pl.step
  split
  · exact Nat.xor_lt_two_pow (n := 32) (by omega) (by omega)
  · omega
theorem step_bits (n : Nat) (h : n < 4294967296) :
    Go.bits .xor .u32 ((n : Int) / 2) (Go.bits .and .u32 3988292384 ((-Go.bits .and .u32 (n : Int) 1) % 4294967296)) = ((Pl.step n : Nat) : Int) := by
  have e1 : Go.bits .and .u32 (n : Int) 1 = ((n % 2 : Nat) : Int) := by
    have := u32_and n 1 h (by omega)
    rw [Nat.and_one_is_mod] at this
    exact this
  rw [e1]
  have e2 : ((n : Int) / 2) = ((n / 2 : Nat) : Int) := by omega
  rw [e2]
  unfold Pl.step
  rcases Nat.mod_two_eq_zero_or_one n with h2 | h2
  · rw [h2, if_neg (by omega)]
    have e3 : Go.bits .and .u32 3988292384 ((-((0 : Nat) : Int)) % 4294967296) = ((0 : Nat) : Int) := by decide +kernel
    rw [e3, u32_xor _ _ (by omega) (by omega), Nat.xor_zero]
  · rw [h2, if_pos rfl]
    have e3 : Go.bits .and .u32 3988292384 ((-((1 : Nat) : Int)) % 4294967296) = ((3988292384 : Nat) : Int) := by decide +kernel
    rw [e3, u32_xor _ _ (by omega) (by omega)]
def stepK : Nat → Nat → Nat
  | 0, n => n
  | k + 1, n => Pl.step (stepK k n)
theorem stepK_lt (j n : Nat) (h : n < 4294967296) : stepK j n < 4294967296 := by
  induction j with
  | zero => exact h
  | succ j ih => exact step_lt _ ih
theorem stepK_8 (n : Nat) : stepK 8 n = Pl.st8 n := rfl
/-- The table when k rounds are over. -/
def curV (k : Nat) : Array Value := ((List.range 256).map fun j => Value.int .u32 (if j < k then ((Pl.st8 j : Nat) : Int) else 0)).toArray
theorem curV_zero : curV 0 = zeros256 := by
  unfold curV zeros256
  rw [show ((List.range 256).map fun j => Value.int .u32 (if j < 0 then ((Pl.st8 j : Nat) : Int) else 0)) = ((List.range 256).map fun _ => Value.int .u32 0) from List.map_congr_left (fun j _ => by rw [if_neg (Nat.not_lt_zero j)])]
theorem curV_all : curV 256 = tabV := by
  unfold curV tabV
  rw [show ((List.range 256).map fun j => Value.int .u32 (if j < 256 then ((Pl.st8 j : Nat) : Int) else 0)) = ((List.range 256).map fun j => Value.int .u32 ((Pl.st8 j : Nat) : Int)) from List.map_congr_left (fun j hj => by rw [if_pos (List.mem_range.1 hj)])]
theorem curV_size (k : Nat) : (curV k).size = 256 := by simp [curV]
theorem curV_at (k j : Nat) (h : j < 256) : (curV k)[j]? = some (.int .u32 (if j < k then ((Pl.st8 j : Nat) : Int) else 0)) := by
  simp [curV, List.getElem?_range h]
theorem curV_set (k : Nat) (hk : k < 256) : (curV k).setIfInBounds k (.int .u32 ((Pl.st8 k : Nat) : Int)) = curV (k + 1) := by
  apply Array.ext_getElem?
  intro j
  rw [Array.getElem?_setIfInBounds]
  by_cases hj : j < 256
  · rw [curV_at _ _ hj, curV_at _ _ hj, curV_size]
    by_cases e : k = j
    · subst e; rw [if_pos rfl, if_pos hk, if_pos (by omega)]
    · rw [if_neg e]
      by_cases h1 : j < k
      · rw [if_pos h1, if_pos (by omega)]
      · rw [if_neg h1, if_neg (by omega)]
  · have e1 : (curV k)[j]? = none := Array.getElem?_eq_none (by rw [curV_size]; omega)
    have e2 : (curV (k + 1))[j]? = none := Array.getElem?_eq_none (by rw [curV_size]; omega)
    rw [e1, e2, if_neg (by omega)]
theorem tabV_one : tabV.all (·.oneCell') = true := by
  rw [Array.all_eq_true]
  intro i hi
  have := tabV_at i (by rwa [tabV_size] at hi)
  rw [Array.getElem?_eq_getElem hi] at this
  rw [Option.some.inj this]; rfl
set_option maxHeartbeats 2000000 in
set_option maxRecDepth 100000 in
theorem table_calls (w : World) : Calls Try.prog 50 #[] w fun e w' => e = .returned (.agg tabV) ∧ Below w.heap.size w w' := by
  go_enter Try.func50, Try.ntmps50
  go_wp2_with (first
    | ((with_reducible refine gate_dst (N := 0) rfl ?_); refine alloc82 rfl rfl ?_; intro g0 hg0 w1 hb1 hB1 hs1; have HB0 := Aside0.mk hb1; have HS0 := Aside0.mk (show w.heap.size = g0 ∧ w1.heap.size = g0 + 1 from ⟨hg0.symm, hs1⟩); have HW0 := Aside0.mk hB1; clear hg0 hs1 hb1 hB1)
    | ((with_reducible refine gate_dst (N := 1) rfl ?_); refine alloc82 rfl rfl ?_; intro g1 hg1 w2 hb1 hB1 hs1; have HB1 := Aside0.mk hb1; have HS1 := Aside0.mk (show w1.heap.size = g1 ∧ w2.heap.size = g1 + 1 from ⟨hg1.symm, hs1⟩); have HW1 := Aside0.mk hB1; clear hg1 hs1 hb1 hB1))
  have hne : g1 ≠ g0 := by have := HS0.out; have := HS1.out; omega
  have HE := Aside0.mk hne
  clear hne
  have hB2 : Below w.heap.size w w2 := HW0.out.trans (HW1.out.mono HW0.out.size)
  have hB02 : w2.heap[g0]? = some (.cells zeros256 82 (0, 0)) := (HW1.out.block g0 (by have := HS0.out; omega)).trans HB0.out
  have H0 := Aside0.mk (show Below w.heap.size w w2 ∧ w2.heap[g0]? = some (.cells zeros256 82 (0, 0)) ∧ w2.heap[g1]? = some (.cells zeros256 82 (0, 0)) from ⟨hB2, hB02, HB1.out⟩)
  have HG := Aside0.mk (show w.heap.size ≤ g0 ∧ w.heap.size ≤ g1 by have := HS0.out; have := HS1.out; omega)
  clear hB2 hB02 HB0 HB1 HW0 HW1
  go_loopw [4] (fun i wr => ∃ k : Nat, k ≤ 256 ∧ i = .int .i64 k ∧ Aside0 (Below w.heap.size w wr ∧ wr.heap[g0]? = some (.cells zeros256 82 (0, 0)) ∧ wr.heap[g1]? = some (.cells (curV k) 82 (0, 0)))) (fun i _ => 256 - (intOf i).toNat)
  case atStart => exact ⟨0, by omega, rfl, ⟨by rw [curV_zero]; exact H0.out⟩⟩
  case round =>
    obtain ⟨k, hk, rfl, hrr⟩ := hrel
    by_cases hlt : k < 256
    · go_wp2
      go_loop [3, 9] (fun n i => ∃ j : Nat, j ≤ 8 ∧ i = .int .i64 j ∧ n = .int .u32 (stepK j k : Nat)) (fun _ i => 8 - (intOf i).toNat)
      case atStart => exact ⟨0, by omega, rfl, by simp [stepK]⟩
      case round =>
        obtain ⟨j, hj, rfl, rfl⟩ := hrel
        by_cases hl : j < 8
        · have HST := Aside0.mk (step_bits (stepK j k) (stepK_lt j k (by omega)))
          go_wp2
          go_round
          case rel => exact ⟨j + 1, by omega, by go_num, by rw [HST.out]; rfl⟩
          case measure => simp [intOf]; omega
        · obtain rfl : j = 8 := by omega
          have hcell : wr.cell? ⟨g1, k, none⟩ = some (.int .u32 0) := by rw [blk_cell hrr.out.2.2, curV_at _ _ hlt, if_neg (by omega)]
          have hfr : wr.frozen? ⟨g1, k, none⟩ = false := frozen_of_row wr g1 k _ 82 hrr.out.2.2
          go_wp2
          go_roundw
          case rel => exact ⟨k + 1, by omega, by go_num, ⟨hrr.out.1.setCell (p := ⟨g1, k, none⟩) HG.out.2 _, (heap_setCell_other _ _ _ _ (Ne.symm HE.out)).trans hrr.out.2.1, by rw [stepK_8, ← curV_set k hlt]; exact heap_setCell_same wr g1 k _ 82 _ hrr.out.2.2⟩⟩
          case measure => simp [intOf]; omega
    · obtain rfl : k = 256 := by omega
      rw [curV_all] at hrr
      go_wp2_with (first
        | ((with_reducible refine gate_dst (N := 23) rfl ?_); refine wpList_load_row rfl 82 _ rfl g1 rfl 82 tabV (0, 0) _ hrr.out.2.2 Try.underlying82 rfl (by rw [size82, tabV_size]) ?_)
        | (refine store82 rfl _ _ rfl g0 tabV zeros256 rfl rfl tabV_size zeros256_size tabV_one hrr.out.2.1 HG.out.1 hrr.out.1 ?_; intro w3 hb3 hB3; have H3 := Aside0.mk hb3; have H4 := Aside0.mk hB3; clear hb3 hB3))
      exact bodyPost_ret (results_cell_row rfl _ _ g0 82 tabV (0, 0) _ rfl H3.out Try.underlying82 rfl (by rw [size82, tabV_size])) rfl ⟨rfl, H4.out⟩
end Go.Proofs.Ytfcdaifaocgjfaa.Pr
end
section
namespace Go.Proofs.Ytfcdaifaocgjfaa.Pr
open Go.RowKit Go.Proofs.YtfcdaifaocgjfaaW.PrintWords Go.Proofs.YtfcdaifaocgjfaaW.PrintLast Go.Proofs.YtfcdaifaocgjfaaW.PrintMore
attribute [local go_sem] max2_int min2_int max_two min_two max_three min_three max_four min_four   -- for this text's walks alone
set_option linter.unusedVariables false
set_option linter.unusedSimpArgs false
theorem u8_xor_any (n : Nat) (x : Int) : Go.bits .xor .u8 ((n : Int) % 256) x = ((n % 256 ^^^ (x % 256).toNat : Nat) : Int) := by
  show IntKind.u8.wrap ((BitVec.ofInt 8 ((n : Int) % 256) ^^^ BitVec.ofInt 8 x).toNat : Int) = _
  have h1 : (BitVec.ofInt 8 ((n : Int) % 256)).toNat = n % 256 := by rw [BitVec.toNat_ofInt]; omega
  have h2 : (BitVec.ofInt 8 x).toNat = (x % 256).toNat := by rw [BitVec.toNat_ofInt]; rfl
  have h3 : n % 256 ^^^ (x % 256).toNat < 2 ^ 8 := Nat.xor_lt_two_pow (by omega) (by omega)
  rw [BitVec.toNat_xor, h1, h2, IntKind.wrap_u8]
  omega
def seal_Sum.f (l0 : List Int) : Option (Int) := some (Pl.sumI l0)
set_option maxHeartbeats 2000000 in
set_option maxRecDepth 100000 in
theorem seal_Sum.calls (A0 : Option Addr) (c0 : Nat) (l0 : List Int) (r : Int) (w : World) (hr0 : Kd.C (Kd.int .u8) w A0 l0.length l0) (hc0 : l0.length ≤ c0) (h : seal_Sum.f l0 = some r) :
    Calls Try.prog 34 #[.slice A0 l0.length c0] w fun e w' => e = .returned (.int .u32 r) ∧ Below w.heap.size w w' := by
  obtain rfl := Option.some.inj h
  clear h
  have hm : l0.length ≤ 9223372036854775807 := hr0.2.1
  have HR := Aside0.mk hr0
  clear hr0 hc0
  go_enter Try.func34, Try.ntmps34
  go_wp2_with (first
    | (go_at_call 50; refine (table_calls _).mono ?_; rintro e w1 ⟨rfl, hb⟩; have HB := Aside0.mk hb; clear hb)
    | (refine alloc82 rfl rfl ?_; intro g hg w2 hb1 hB1 hs1; have HG := Aside0.mk (show w1.heap.size ≤ g by omega); have HC := Aside0.mk hb1; have HW := Aside0.mk hB1; clear hg hs1 hb1 hB1)
    | (refine store82 rfl _ _ rfl g tabV zeros256 rfl rfl tabV_size zeros256_size tabV_one HC.out HG.out HW.out ?_; intro w3 hb3 hB3; have H3 := Aside0.mk hb3; have H4 := Aside0.mk (HB.out.trans (hB3.mono HB.out.size)); clear hb3 hB3))
  have HR3 := Aside0.mk (Kd.C_below HR.out H4.out)
  clear HR HC HW HG HB
  go_loop [4, 10] (fun n i => ∃ k : Nat, k ≤ l0.length ∧ i = .int .i64 k ∧ n = .int .u32 (Pl.crc 4294967295 (l0.take k) : Nat)) (fun _ i => l0.length - (intOf i).toNat)
  case atStart => exact ⟨0, Nat.zero_le _, rfl, by simp [Pl.crc]⟩
  case round =>
    obtain ⟨k, hk, rfl, rfl⟩ := hrel
    by_cases hlt : k < l0.length
    · obtain ⟨ad, rfl, hcell⟩ := Kd.at_int HR3.out (k : Int) (by omega) (by omega)
      rw [Int.toNat_natCast] at hcell
      have hn : Pl.crc 4294967295 (l0.take k) < 4294967296 := Pl.crc_lt _ _ (by omega)
      have hs : Pl.crc 4294967295 (l0.take (k + 1)) = Pl.st8 (Pl.crc 4294967295 (l0.take k) ^^^ (rd l0 k % 256).toNat) := by
        rw [List.take_succ_eq_append_getElem hlt, Pl.crc_append, Pl.crc_cons, Pl.crc_nil]
        simp [rd, List.getD_eq_getElem?_getD, List.getElem?_eq_getElem hlt]
      generalize hc : Pl.crc 4294967295 (l0.take k) = c at hn hs ⊢
      generalize hx : rd l0 k = x at hcell hs
      have hb8 := u8_xor_any c x
      have hm8 : c % 256 ^^^ (x % 256).toNat < 256 := Nat.xor_lt_two_pow (n := 8) (by omega) (by omega)
      generalize hmm : c % 256 ^^^ (x % 256).toNat = m at hb8 hm8
      have hct : w3.cell? ⟨g, m, none⟩ = some (.int .u32 (Pl.st8 m : Nat)) := by rw [blk_cell H3.out, tabV_at _ hm8]
      have hst : Pl.st8 m < 4294967296 := Pl.st8_lt _ (by omega)
      have hx2 : Go.bits .xor .u32 (Pl.st8 m : Nat) ((c : Int) / 256) = ((Pl.st8 (c ^^^ (x % 256).toNat) : Nat) : Int) := by
        rw [show ((c : Int) / 256) = ((c / 256 : Nat) : Int) by omega, u32_xor _ _ hst (by omega), ← hmm, Pl.st8_table]
      have HS := Aside0.mk hs
      have HX := Aside0.mk hx2
      clear hs hx2 hmm hx hc
      generalize hsm : Pl.st8 m = sm at *
      clear hsm
      go_wp2
      go_round
      case rel => exact ⟨k + 1, by omega, by go_num, by rw [HS.out, ← HX.out]⟩
      case measure => simp [intOf]; omega
    · obtain rfl : k = l0.length := by omega
      go_wp2
      go_ret
      refine ⟨?_, H4.out⟩
      have hc : Pl.crc 4294967295 l0 < 4294967296 := Pl.crc_lt _ _ (by omega)
      have e : Go.bits .xor .u32 IntKind.u32.max ((Pl.crc 4294967295 l0 : Nat) : Int) = Pl.sumI l0 := by
        rw [show IntKind.u32.max = ((4294967295 : Nat) : Int) by decide, u32_xor _ _ (by omega) hc, Nat.xor_comm]
        rfl
      rw [← e]
      rfl
end Go.Proofs.Ytfcdaifaocgjfaa.Pr
end
section
namespace Go.Proofs.Ytfcdaifaocgjfaa.Pr
open Go.RowKit Go.Proofs.YtfcdaifaocgjfaaW.PrintWords Go.Proofs.YtfcdaifaocgjfaaW.PrintLast Go.Proofs.YtfcdaifaocgjfaaW.PrintMore
attribute [local go_sem] max2_int min2_int max_two min_two max_three min_three max_four min_four   -- for this text's walks alone
set_option linter.unusedVariables false
set_option linter.unusedSimpArgs false
def seal_get.acc (l0 : List Int) (k : Nat) : Nat := (l0.take k).foldl (fun n x => (n * 256 % 4294967296) ||| (x % 4294967296).toNat) 0
def seal_get.f (l0 : List Int) : Option (Int) := if 4 ≤ l0.length then some (Pl.get4 l0 : Nat) else none
theorem u32_or_nat_ (a b : Nat) (ha : a < 4294967296) (hb : b < 4294967296) : Go.bits .or .u32 (a : Int) (b : Int) = ((a ||| b : Nat) : Int) := by
  have hx : a ||| b < 2 ^ 32 := Nat.or_lt_two_pow (by omega) (by omega)
  have e1 : (BitVec.ofInt 32 (a : Int)).toNat = a := by rw [BitVec.ofInt_natCast, BitVec.toNat_ofNat]; exact Nat.mod_eq_of_lt (by omega)
  have e2 : (BitVec.ofInt 32 (b : Int)).toNat = b := by rw [BitVec.ofInt_natCast, BitVec.toNat_ofNat]; exact Nat.mod_eq_of_lt (by omega)
  show IntKind.u32.wrap ((BitVec.ofInt 32 (a : Int) ||| BitVec.ofInt 32 (b : Int)).toNat : Int) = _
  rw [BitVec.toNat_or, e1, e2, IntKind.wrap_u32]
  omega
theorem seal_get.acc_succ (l0 : List Int) (k : Nat) (hk : k < l0.length) : ((seal_get.acc l0 (k + 1) : Nat) : Int) = Go.bits .or .u32 (((seal_get.acc l0 k : Nat) : Int) * 256 % 4294967296) ((rd l0 k) % 4294967296) := by
  have e : seal_get.acc l0 (k + 1) = (seal_get.acc l0 k * 256 % 4294967296) ||| (rd l0 k % 4294967296).toNat := by
    unfold seal_get.acc
    rw [List.take_succ_eq_append_getElem hk, List.foldl_append]
    simp [rd, List.getD_eq_getElem?_getD, List.getElem?_eq_getElem hk]
  rw [e, ← u32_or_nat_ _ _ (by omega) (by omega)]
  congr 1
  · omega
set_option maxHeartbeats 1000000 in
set_option maxRecDepth 100000 in
theorem seal_get.same (A0 : Option Addr) (c0 : Nat) (l0 : List Int) (r : Int) (w : World) (hr0 : Kd.C (Kd.int .u8) w A0 l0.length l0) (hc0 : l0.length ≤ c0) (h : seal_get.f l0 = some r) :
    Calls Try.prog 32 #[.slice A0 l0.length c0] w fun e w' => e = .returned (.int .u32 r) ∧ w' = w := by
  unfold seal_get.f at h
  split at h
  · rename_i h4
    obtain rfl := Option.some.inj h
    clear h
    obtain ⟨i03, hi03, _, hsz3, _⟩ := info_parts info5
    obtain ⟨hcut3, _, _⟩ := print_take_of (P := Try.prog) (Value.int .u8) 0 22 5 .i64 Try.underlying22 hi03 hsz3 A0 c0 l0 4 (by omega) (by omega) hc0
    have ht : (l0.take (Int.toNat 4)).length = 4 := by simp; omega
    rw [ht] at hcut3
    clear ht hi03 hsz3
    have hx : ∀ k, k < 4 → ∃ ad, A0 = some ad ∧ w.cell? (ad.add k) = some (.int .u8 (rd l0 k)) := fun k hk => by
      obtain ⟨ad, e, hc⟩ := Kd.at_int hr0 (k : Int) (by omega) (by omega)
      exact ⟨ad, e, by simpa using hc⟩
    obtain ⟨ad, rfl, _⟩ := hx 0 (by omega)
    have HX := Aside0.mk hx
    clear hx hr0 hc0
    have H4 := Aside0.mk h4
    clear h4
    go_enter Try.func32, Try.ntmps32
    go_wp2
    go_loop [2, 8] (fun n i => ∃ k : Nat, k ≤ 4 ∧ i = .int .i64 k ∧ n = .int .u32 ((seal_get.acc l0 k : Nat) : Int)) (fun _ i => 4 - (intOf i).toNat)
    case atStart => exact ⟨0, by omega, rfl, by simp [seal_get.acc]⟩
    case round =>
      obtain ⟨k, hk, rfl, rfl⟩ := hrel
      by_cases hlt : k < 4
      · obtain ⟨ad', e, hcell⟩ := HX.out k hlt
        obtain rfl : ad = ad' := by injection e
        clear e
        have HS := Aside0.mk (seal_get.acc_succ l0 k (by have := H4.out; omega))
        go_wp2
        go_round
        case rel => exact ⟨k + 1, by omega, by go_num, by rw [HS.out]⟩
        case measure => simp [intOf]; omega
      · obtain rfl : k = 4 := by omega
        go_wp2
        go_ret
        exact ⟨rfl, rfl⟩
  · exact absurd h (by simp)
end Go.Proofs.Ytfcdaifaocgjfaa.Pr
end
section
namespace Go.Proofs.Ytfcdaifaocgjfaa.Pr
open Go.RowKit Go.Proofs.YtfcdaifaocgjfaaW.PrintWords Go.Proofs.YtfcdaifaocgjfaaW.PrintLast Go.Proofs.YtfcdaifaocgjfaaW.PrintMore
attribute [local go_sem] max2_int min2_int max_two min_two max_three min_three max_four min_four   -- for this text's walks alone
set_option linter.unusedVariables false
set_option linter.unusedSimpArgs false
def seal_Open.f (l0 : List Int) (a1 : Int) : Option (List Int × Int × Int) := some (Pl.openI l0 a1)
set_option maxHeartbeats 4000000 in
set_option maxRecDepth 100000 in
theorem seal_Open.calls (A0 : Option Addr) (c0 : Nat) (l0 : List Int) (a1 : Int) (r1 : List Int) (r2 : Int) (r3 : Int) (w : World) (hr0 : Kd.C (Kd.int .u8) w A0 l0.length l0) (hc0 : l0.length ≤ c0) (h : seal_Open.f l0 a1 = some (r1, r2, r3)) :
    Calls Try.prog 19 #[.slice A0 l0.length c0, .int .i64 a1] w fun e w' => ∃ v0_ : Value, e = .returned (.tuple #[v0_, .int .i64 r2, .int .i64 r3]) ∧ Kd.R (Kd.int .u8) 5 w' w.heap.size (fun _ => True) v0_ r1 ∧ Below w.heap.size w w' := by
  have h := Option.some.inj h
  unfold Pl.openI at h
  by_cases h0 : a1 < 0
  · rw [if_pos h0] at h
    simp only [Prod.mk.injEq] at h
    obtain ⟨rfl, rfl, rfl⟩ := h
    have hd : decide (a1 < 0) = true := decide_eq_true h0
    clear hr0 hc0
    go_enter Try.func19, Try.ntmps19
    go_wp2
    go_ret3
    exact ⟨_, rfl, Kd.R_nil _ _ _ _ _, Below.refl _ _⟩
  rw [if_neg h0] at h
  have hd0 : decide (a1 < 0) = false := decide_eq_false h0
  by_cases h1 : (l0.length : Int) < a1
  · rw [if_pos h1] at h
    simp only [Prod.mk.injEq] at h
    obtain ⟨rfl, rfl, rfl⟩ := h
    have hd : decide ((l0.length : Int) < a1) = true := decide_eq_true h1
    clear hr0 hc0
    go_enter Try.func19, Try.ntmps19
    go_wp2
    go_ret3
    exact ⟨_, rfl, Kd.R_nil _ _ _ _ _, Below.refl _ _⟩
  rw [if_neg h1] at h
  have hd1 : decide ((l0.length : Int) < a1) = false := decide_eq_false h1
  obtain ⟨i0, hi, hz0, hz1, hz2⟩ := info_parts info5
  obtain ⟨A1, hcut1, hA1, hC1⟩ := print_cut_int (P := Try.prog) (k := .u8) 22 5 Try.underlying22 hi hz1 A0 c0 l0 a1 (by omega) (by omega) hc0
  have HR0 := Aside0.mk (hA1 w (Kd.reads_of_C hr0))
  have HLen := Aside0.mk (show a1 ≤ l0.length by omega)
  have HM0 := Aside0.mk (show l0.length ≤ 9223372036854775807 from hr0.2.1)
  clear hA1 h1 hr0
  generalize hrest : l0.drop a1.toNat = rest at h hcut1 hC1 HR0
  generalize hcc : c0 - a1.toNat = c1 at hcut1 hC1
  have HC1 := Aside0.mk hC1
  have HC0 := Aside0.mk hc0
  have HRE := Aside0.mk hrest
  clear hC1 hc0 hcc hrest
  have h0' : (0 : Int) ≤ a1 := by omega
  clear h0
  by_cases h8 : rest.length < 8
  · rw [if_pos h8] at h
    simp only [Prod.mk.injEq] at h
    obtain ⟨rfl, rfl, rfl⟩ := h
    have hd8 : decide ((rest.length : Int) < 8) = true := decide_eq_true (by omega)
    have hd8' : decide (rest.length < 8) = true := decide_eq_true (by omega)
    clear hi hz0 hz1 hz2
    go_enter Try.func19, Try.ntmps19
    go_wp2
    go_ret3
    exact ⟨_, rfl, Kd.R_nil _ _ _ _ _, Below.refl _ _⟩
  rw [if_neg h8] at h
  have hl8 : (8 : Int) ≤ (rest.length : Int) := by omega
  have hd8 : decide ((rest.length : Int) < 8) = false := decide_eq_false (by omega)
  have hd8' : decide (rest.length < 8) = false := decide_eq_false (by omega)
  have HM := Aside0.mk (show rest.length ≤ 9223372036854775807 from HR0.out.2.1)
  obtain ⟨A2, hcut2, hA2, hC2⟩ := print_cut_int (P := Try.prog) (k := .u8) 22 5 Try.underlying22 hi hz1 A1 c1 rest 4 (by omega) (by omega) HC1.out
  have HR2 := Aside0.mk (hA2 w HR0.out)
  have HC2 := Aside0.mk hC2
  clear hA2 hC2
  rw [show ((4 : Int)).toNat = 4 from rfl] at hcut2 HR2 HC2
  have g1 := fun W (hW : Kd.C (Kd.int .u8) W A1 rest.length rest) => seal_get.same A1 c1 rest (Pl.get4 rest : Nat) W hW HC1.out (by unfold seal_get.f; rw [if_pos (by omega)])
  have g2 := fun W (hW : Kd.C (Kd.int .u8) W A2 (rest.drop 4).length (rest.drop 4)) => seal_get.same A2 (c1 - 4) (rest.drop 4) (Pl.get4 (rest.drop 4) : Nat) W hW HC2.out (by unfold seal_get.f; rw [if_pos (by rw [List.length_drop]; omega)])
  have KC1 : ∀ n, Kd.C (Kd.int .u8) (w.drewN n) A1 rest.length rest := fun n => Kd.C_of_reads HR0.out
  have KC2 : ∀ n, Kd.C (Kd.int .u8) (w.drewN n) A2 (rest.drop 4).length (rest.drop 4) := fun n => Kd.C_of_reads HR2.out
  have G1 := Aside0.mk (fun n => g1 (w.drewN n) (KC1 n))
  have G2 := Aside0.mk (fun n => g2 (w.drewN n) (KC2 n))
  clear g1 g2 KC1 KC2
  have hg1 : Pl.get4 rest < 4294967296 := Pl.get4_lt _
  have hg2 : Pl.get4 (rest.drop 4) < 4294967296 := Pl.get4_lt _
  generalize hn : Pl.get4 rest = n at h hg1 G1
  generalize hs : Pl.get4 (rest.drop 4) = s at h hg2 G2
  have HE := Aside0.mk (And.intro hn hs)
  clear hn hs
  generalize hrest4 : rest.drop 4 = rest4 at hcut2 G2
  have HR4 := Aside0.mk hrest4
  clear hrest4
  go_enter Try.func19, Try.ntmps19
  go_wp2
  go_quiet ((go_at_call 32; first | (with_reducible exact Calls.quiet_of_same (G1.out _)) | (with_reducible exact Calls.quiet_of_same (G2.out _))))
  by_cases h9 : 65536 < n
  · rw [if_pos h9] at h
    simp only [Prod.mk.injEq] at h
    obtain ⟨rfl, rfl, rfl⟩ := h
    have hd9 : decide ((65536 : Int) < (n : Int)) = true := decide_eq_true (by omega)
    clear hi hz0 hz1 hz2 G1 G2
    go_wp2
    go_ret3
    exact ⟨_, rfl, Kd.R_nil _ _ _ _ _, pw_below_drewN (Below.refl _ _) _⟩
  rw [if_neg h9] at h
  have hd9 : decide ((65536 : Int) < (n : Int)) = false := decide_eq_false (by omega)
  by_cases h10 : rest.length - 8 < n
  · rw [if_pos h10] at h
    simp only [Prod.mk.injEq] at h
    obtain ⟨rfl, rfl, rfl⟩ := h
    have hd10 : decide ((rest.length : Int) - 8 < (n : Int)) = true := decide_eq_true (by omega)
    have hm := HM.out
    clear hi hz0 hz1 hz2 G1 G2
    go_wp2
    go_ret3
    exact ⟨_, rfl, Kd.R_nil _ _ _ _ _, pw_below_drewN (Below.refl _ _) _⟩
  rw [if_neg h10] at h
  have hd10 : decide ((rest.length : Int) - 8 < (n : Int)) = false := decide_eq_false (by omega)
  have hm := HM.out
  obtain ⟨A3, hcut3, hA3, hC3⟩ := print_mid_int (P := Try.prog) (k := .u8) 22 5 Try.underlying22 hi hz1 A1 c1 rest 8 (8 + n) (by omega) (by omega) (by omega) HC1.out
  have hmid : (rest.take (8 + (n : Int)).toNat).drop (8 : Int).toNat = (rest.drop 8).take n := by
    rw [show (8 + (n : Int)).toNat = 8 + n by omega, show (8 : Int).toNat = 8 from rfl, List.drop_take, Nat.add_sub_cancel_left]
  have hR3 := hA3 w HR0.out
  rw [hmid] at hcut3 hC3 hR3
  have hlb : ((rest.drop 8).take n).length = n := by rw [List.length_take, List.length_drop]; omega
  clear hmid hA3 hi hz0 hz1 hz2 G1 G2
  rw [show (8 : Int).toNat = 8 from rfl] at hcut3 hC3
  generalize hbody : (rest.drop 8).take n = body at h hcut3 hC3 hR3 hlb
  have HR3 := Aside0.mk hR3
  have HC3 := Aside0.mk hC3
  have HBo := Aside0.mk hbody
  have HLB := Aside0.mk hlb
  clear hbody hR3 hC3 hlb
  go_wp2_with fail
  refine (slices_Clone_byte_byte.calls A3 (c1 - 8) body body (w.drewN nq) (Kd.C_of_reads (HR3.out.drewN nq)) HC3.out (by unfold slices_Clone_byte_byte.f; rw [if_pos (by have := HLB.out; omega)])).mono ?_
  rintro e w2 ⟨v2, rfl, ho2, hb2⟩
  obtain ⟨AB, cB, rfl, hcB, hCB⟩ := Kd.R_reads ho2
  have H2 := Aside0.mk (show Kd.R (Kd.int .u8) 5 w2 w.heap.size (fun _ => True) (.slice AB body.length cB) body from ho2)
  have B2 := Aside0.mk (show Below w.heap.size w w2 from below_step (pw_below_drewN (Below.refl _ _) _) hb2)
  have HCB := Aside0.mk hcB
  have HKB := Aside0.mk hCB
  clear ho2 hb2 hcB hCB
  go_wp2_with fail
  refine (seal_Sum.calls AB cB body (Pl.sumI body) _ HKB.out HCB.out rfl).mono ?_
  rintro e w3 ⟨rfl, hb3⟩
  have H3 := Aside0.mk (Kd.R_below H2.out hb3)
  have B3 := Aside0.mk (below_step B2.out hb3)
  clear hb3 H2 B2
  by_cases h11 : Pl.sumI body = (s : Int)
  · rw [if_pos h11] at h
    simp only [Prod.mk.injEq] at h
    obtain ⟨rfl, rfl, rfl⟩ := h
    have hd11 : (Pl.sumI body != (s : Int)) = false := by rw [bne_eq_false_iff_eq]; exact h11
    have H11 := Aside0.mk h11
    clear h11
    have hbnd : a1 + 8 + (n : Int) ≤ 9223372036854775807 := by
      have h1 := HRE.out
      have h2 := HLen.out
      have h3 := HM0.out
      have h4 : rest.length = l0.length - a1.toNat := by rw [← h1, List.length_drop]
      omega
    go_wp2
    go_ret3
    exact ⟨_, rfl, H3.out, B3.out⟩
  · rw [if_neg h11] at h
    simp only [Prod.mk.injEq] at h
    obtain ⟨rfl, rfl, rfl⟩ := h
    have hd11 : (Pl.sumI body != (s : Int)) = true := by rw [bne_iff_ne]; exact h11
    go_wp2
    go_ret3
    exact ⟨_, rfl, Kd.R_nil _ _ _ _ _, B3.out⟩
end Go.Proofs.Ytfcdaifaocgjfaa.Pr
end
