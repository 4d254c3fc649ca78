/- Parts of the proof of JournalBack; no condition. -/
import Derived.Test.YtfcdaifaocgjfaaGa1
import Derived.Test.YtfcdaifaocgjfaaGa2
import Derived.Test.YtfcdaifaocgjfaaGa0
section
namespace Go.Proofs.Ytfcdaifaocgjfaa.Gw
open Go.RowKit Go.Proofs.YtfcdaifaocgjfaaW.PrintWords Go.Proofs.YtfcdaifaocgjfaaW.PrintLast Go.Proofs.YtfcdaifaocgjfaaW.PrintMore
open Go.Proofs.Ytfcdaifaocgjfaa.Pr
attribute [local go_sem] Oper.semAt_some
set_option linter.unusedVariables false
set_option linter.unusedSimpArgs false
/-- append(v, x) to a row of one's own, as a run. -/
theorem R_append_run {α : Type} {P : Program} (d : Kd α) {W : World} (base : Nat) (t ty e : TypeId) (z : Value) (bytes : Nat)
    (ht : P.underlying t = some (.slice e)) (hinfo : (P.info? e).map (fun i => (i.zero, i.size, i.bytes)) = some (some z, d.sz, bytes)) (hz : z.cells.size = d.sz) (hs0 : 0 < d.sz) (hb0 : 0 < bytes)
    (v : Value) (xs : List α) (p : α) (cs : List Value) (ok okp : Nat → Prop) (hp : d.M W base okp p cs) (hokp : ∀ k, okp k → ok k ∧ some k ≠ v.ownBlock) (hfresh : ∀ k, W.heap.size ≤ k → ok k)
    (HO : Kd.R d e W base ok v xs) (hbase : base ≤ W.heap.size) (hl : (xs.length + 1) * bytes ≤ 140737488355328) :
    ∃ v1 w1, (Builtin.append_ #[t, t] ty #[v, .slice (some ⟨W.heap.size, 0, none⟩) 1 1]).run P (W.alloc (.cells cs.toArray e)) = .ok v1 w1 ∧ Kd.R d e w1 base ok v1 (xs ++ [p]) ∧ W.grownBy w1 v.ownBlock := by
  obtain ⟨h0, inner, hown, hr⟩ := HO
  obtain ⟨i0, hi, hzz⟩ := Option.map_eq_some_iff.1 hinfo
  simp only [Prod.mk.injEq] at hzz
  obtain ⟨hz0, hz1, hz2⟩ := hzz
  have hnb : xs.length + 1 ≤ 140737488355328 := Nat.le_trans (Nat.le_mul_of_pos_right _ hb0) hl
  have hcl : cs.length = d.sz := d.K_len (d.K_of_M hp)
  obtain ⟨v1, w1, hrun, hown1, hg1, _, hat⟩ := run_append_own_at (P := P) (w := W.alloc (.cells cs.toArray e)) base t ty e i0 z d.sz bytes ht hi hz0 hz1 hz2 hz hs0 v xs.length inner (hown.alloc _) ⟨W.heap.size, 0, none⟩ 1 1 cs
    (by rw [hcl]; simp) (by simpa using World.news_of_block (cs := cs.toArray) (t := e) (fr := (0, 0)) (heap_alloc_new W (.cells cs.toArray e))) (d.K_one (d.K_of_M hp)) (by simp only [maxLen]; omega) hl (by simp; omega)
  have hg2 : W.grownBy w1 v.ownBlock := World.grownBy.trans (World.grownBy_alloc W _ _) hg1
  have hat2 : v1.ownBlock = v.ownBlock ∨ ∃ b, v1.ownBlock = some b ∧ W.heap.size ≤ b := by
    rcases hat with hat | hat
    · exact .inl hat
    · exact .inr ⟨_, hat, by simp⟩
  exact ⟨v1, w1, hrun, Kd.R_appended (okp := okp) h0 hr hp hokp hfresh hown1 hg2 hat2, hg2⟩
/-- Between two yields: B is the box of the slice, U the cell of the number, D and D + 1 the loop's own blocks. -/
structure Gm (base B U D : Nat) (w : World) (z : List Int) (u : Nat) (W : World) : Prop where
  v : ∃ v, W.cell? ⟨B, 0, none⟩ = some v ∧ Kd.R (Kd.int .u8) 5 W base (fun k => k ≠ B ∧ k ≠ U ∧ k ≠ D ∧ k ≠ D + 1) v z
  f : W.frozen? ⟨B, 0, none⟩ = false
  cu : W.cell? ⟨U, 0, none⟩ = some (.int .u64 (u : Int))
  fu : W.frozen? ⟨U, 0, none⟩ = false
  dd : W.heap[D]? = some (.deferred (some []))
  hb : Below base w W
  sz : D + 2 ≤ W.heap.size
  ord : base ≤ B ∧ base ≤ U ∧ B ≠ U ∧ B < D ∧ U < D
theorem Gm.putU {base B U D : Nat} {w : World} {z : List Int} {u u' : Nat} {W : World} (h : Gm base B U D w z u W) : Gm base B U D w z u' (W.setCell ⟨U, 0, none⟩ (.int .u64 (u' : Int))) := by
  obtain ⟨v, hv, hR⟩ := h.v
  have o := h.ord
  have e : ∀ k, k ≠ U → (W.setCell ⟨U, 0, none⟩ (.int .u64 (u' : Int))).heap[k]? = W.heap[k]? := fun k hk => Below.heap_setCell _ _ _ _ hk
  exact ⟨⟨v, (World.cell?_of_block (e _ o.2.2.1)).trans hv, Kd.R_step hR (fun k hk _ => e k hk.2.1)⟩, (World.frozen?_of_block (e _ o.2.2.1)).trans h.f, World.cell?_setCell_same' _ _ _ (by rw [h.cu]; rfl), by rw [World.frozen?_setCell]; exact h.fu,
    (e _ (by omega)).trans h.dd, h.hb.setCell o.2.1 _, by simpa using h.sz, o⟩
/-- What a round leaves: the byte appended. -/
theorem Gm.put {base B U D : Nat} {w : World} {rdy bsy : Obj} {z z' : List Int} {u : Nat} {W w6 : World} {v v1 : Value} (h : Gm base B U D w z u W)
    (hg : (W.putObj (D + 1) bsy).grownBy w6 v.ownBlock) (hv : ∀ k, v.ownBlock = some k → base ≤ k ∧ k ≠ B ∧ k ≠ U ∧ k ≠ D ∧ k ≠ D + 1)
    (hS : Kd.R (Kd.int .u8) 5 w6 base (fun k => k ≠ B ∧ k ≠ U ∧ k ≠ D ∧ k ≠ D + 1) v1 z') :
    Gm base B U D w z' u ((w6.setCell ⟨B, 0, none⟩ v1).putObj (D + 1) rdy) := by
  have hsz := h.sz
  have o := h.ord
  have hsp : (W.putObj (D + 1) bsy).heap.size = W.heap.size := by simp
  have hk6 : ∀ k, k < D + 1 → some k ≠ v.ownBlock → w6.heap[k]? = W.heap[k]? := fun k hk hne =>
    (hg.block k (by omega) hne).trans (World.putObj_heap_other (by omega))
  have hs6 := hg.size
  obtain ⟨x, hx, _⟩ := h.v
  obtain ⟨W7, hW7⟩ : ∃ W7, w6.setCell ⟨B, 0, none⟩ v1 = W7 := ⟨_, rfl⟩
  have hk7 : ∀ k, k ≠ B → W7.heap[k]? = w6.heap[k]? := fun k h1 => by rw [← hW7]; exact Below.heap_setCell _ _ _ _ h1
  obtain ⟨W8, hW8⟩ : ∃ W8, W7.putObj (D + 1) rdy = W8 := ⟨_, rfl⟩
  have hk8 : ∀ k, k ≠ D + 1 → W8.heap[k]? = W7.heap[k]? := fun k hk => by rw [← hW8]; exact World.putObj_heap_other hk
  have hs7 : W7.heap.size = w6.heap.size := by rw [← hW7]; simp
  have hs8 : W8.heap.size = W7.heap.size := by rw [← hW8]; simp
  have nB : some B ≠ v.ownBlock := fun e => (hv _ e.symm).2.1 rfl
  have nU : some U ≠ v.ownBlock := fun e => (hv _ e.symm).2.2.1 rfl
  have nD : some D ≠ v.ownBlock := fun e => (hv _ e.symm).2.2.2.1 rfl
  have hc6 : w6.cell? ⟨B, 0, none⟩ = some x := (World.cell?_of_block (hk6 _ (by show B < D + 1; omega) nB)).trans hx
  have hc7 : W7.cell? ⟨B, 0, none⟩ = some v1 := by rw [← hW7]; exact World.cell?_setCell_same' _ _ _ (by rw [hc6]; rfl)
  have hf7 : W7.frozen? ⟨B, 0, none⟩ = false := by rw [← hW7, World.frozen?_setCell]; exact (World.frozen?_of_block (hk6 _ (by show B < D + 1; omega) nB)).trans h.f
  have eU : W8.heap[U]? = W.heap[U]? := (hk8 _ (by omega)).trans ((hk7 _ (Ne.symm o.2.2.1)).trans (hk6 _ (by omega) nU))
  rw [hW7, hW8]
  have hb6 : Below base w w6 := (h.hb.grown (grownBy_putObj' W _ bsy) (by omega) (fun k e => by cases e; omega)).grown hg (by omega) (fun k e => (hv k e).1)
  have hb8 : Below base w W8 := by
    rw [← hW8, ← hW7]
    exact (hb6.setCell o.1 _).grown (grownBy_putObj' _ _ rdy) (by simp; omega) (fun k e => by cases e; omega)
  exact ⟨⟨v1, (World.cell?_of_block (hk8 _ (by show B ≠ D + 1; omega))).trans hc7, Kd.R_step hS (fun k hk _ => (hk8 k hk.2.2.2).trans (hk7 k hk.1))⟩,
    (World.frozen?_of_block (hk8 _ (by show B ≠ D + 1; omega))).trans hf7, (World.cell?_of_block eU).trans h.cu, (World.frozen?_of_block eU).trans h.fu,
    (hk8 _ (by omega)).trans ((hk7 _ (by omega)).trans ((hk6 _ (by omega) nD).trans h.dd)), hb8, by omega, o⟩
theorem groups_bits (n : Int) (h : Oc.ok64 n = true) : Go.bits .xor .u64 (IntKind.u64.wrap (IntKind.u64.wrap n * 2)) (IntKind.u64.wrap (n / 9223372036854775808)) = ((Oc.zz n : Nat) : Int) := by
  simp only [Oc.ok64, Bool.and_eq_true, decide_eq_true_eq] at h
  show IntKind.u64.wrap ((BitVec.ofInt 64 (IntKind.u64.wrap (IntKind.u64.wrap n * 2)) ^^^ BitVec.ofInt 64 (IntKind.u64.wrap (n / 9223372036854775808))).toNat : Int) = _
  by_cases h0 : 0 ≤ n
  · have e1 : IntKind.u64.wrap (IntKind.u64.wrap n * 2) = (((2 * n).toNat : Nat) : Int) := by rw [IntKind.wrap_u64, IntKind.wrap_u64]; omega
    have e2 : IntKind.u64.wrap (n / 9223372036854775808) = ((0 : Nat) : Int) := by rw [IntKind.wrap_u64]; omega
    rw [e1, e2, BitVec.toNat_xor, Oc.ofNat64 _ (by omega), Oc.ofNat64 0 (by omega), Nat.xor_zero, IntKind.wrap_u64]
    unfold Oc.zz
    rw [if_pos h0]
    omega
  · have e1 : IntKind.u64.wrap (IntKind.u64.wrap n * 2) = (((2 * n + 18446744073709551616).toNat : Nat) : Int) := by rw [IntKind.wrap_u64, IntKind.wrap_u64]; omega
    have e2 : IntKind.u64.wrap (n / 9223372036854775808) = ((18446744073709551615 : Nat) : Int) := by rw [IntKind.wrap_u64]; omega
    have e3 : BitVec.ofInt 64 ((18446744073709551615 : Nat) : Int) = BitVec.allOnes 64 := by decide
    rw [e1, e2, e3, BitVec.xor_allOnes, BitVec.toNat_not, Oc.ofNat64 _ (by omega), IntKind.wrap_u64]
    unfold Oc.zz
    rw [if_neg h0]
    omega
set_option maxHeartbeats 400000 in
theorem groups (n : Int) (h : Oc.ok64 n = true) (w : World) : Calls Try.prog 71 #[.int .i64 n] w fun e w' => e = .returned (.func (.func 75) #[] #[.pointer (some ⟨w.heap.size, 0, none⟩)]) ∧ w' = w.alloc (.cells #[.int .u64 ((Oc.zz n : Nat) : Int)] 104) := by
  have HB := Aside0.mk (groups_bits n h)
  clear h
  go_enter Try.func71, Try.ntmps71
  go_wp2
  go_ret
  exact ⟨rfl, by rw [HB.out]⟩
theorem low_bits (u : Nat) : Go.bits .or .u8 ((u : Int) % 256) 128 = ((u % 128 + 128 : Nat) : Int) := by
  show IntKind.u8.wrap ((BitVec.ofInt 8 ((u : Int) % 256) ||| BitVec.ofInt 8 ((128 : Nat) : Int)).toNat : Int) = _
  have e1 : (BitVec.ofInt 8 ((u : Int) % 256)).toNat = u % 256 := by rw [BitVec.toNat_ofInt]; omega
  have e2 : (BitVec.ofInt 8 ((128 : Nat) : Int)).toNat = 128 := by decide
  rw [BitVec.toNat_or, e1, e2, IntKind.wrap_u8]
  have h1 := Nat.two_pow_add_eq_or_of_lt (i := 7) (b := u % 128) (by omega) 1
  have h2 : u % 256 ||| 128 = (u % 128) ||| 128 := by
    apply Nat.eq_of_testBit_eq
    intro i
    rw [show (256 : Nat) = 2 ^ 8 from rfl, show (128 : Nat) = 2 ^ 7 from rfl, Nat.testBit_or, Nat.testBit_or, Nat.testBit_mod_two_pow, Nat.testBit_mod_two_pow, Nat.testBit_two_pow]
    by_cases h : i < 7
    · simp [h, show i < 8 by omega]
    · by_cases h7 : i = 7
      · simp [h7]
      · simp [h, show ¬ i < 8 by omega]
  rw [h2, Nat.or_comm]
  have h3 : 128 ||| u % 128 = 128 + u % 128 := by simpa using h1.symm
  rw [h3]
  omega
set_option maxHeartbeats 4000000 in
set_option maxRecDepth 100000 in
theorem iter (base B U D : Nat) (w : World) (z0 : List Int) (u0 : Nat) (hz0 : z0.length + (Oc.grp u0).length ≤ 100000000000000) (rdy : Obj) (m : Nat) (W1 : World) (hM1 : Gm base B U D w z0 u0 W1) (hL1 : W1.heap[D + 1]? = some rdy)
    (hy : ∀ (m : Nat) (x : Int × List Int × Nat) (W : World), (Gm base B U D w x.2.1 x.2.2 W ∧ x.2.1.length ≤ 100000000000000) → W.heap[D + 1]? = some rdy → YieldAt Fence.wide m Try.prog (D + 1) #[.int .u8 x.1] W (fun e W' => e = .returned (.bool true) ∧ W'.heap[D + 1]? = some rdy ∧ Gm base B U D w (x.2.1 ++ [x.1]) x.2.2 W')) :
    CallsIn Fence.wide m Try.prog 75 #[.func (.yield (D + 1)) #[] #[], .pointer (some ⟨U, 0, none⟩)] W1 (fun e W => (∃ v, e = .returned v) ∧ W.heap[D + 1]? = some rdy ∧ ∃ u', Gm base B U D w (z0 ++ Oc.grp u0) u' W) := by
  have hyA := Aside0.mk hy
  have hM1A := Aside0.mk hM1
  have hL1A := Aside0.mk hL1
  have hZ := Aside0.mk hz0
  clear hy hM1 hL1 hz0
  refine callsIn_of_wp Try.func75 rfl trivial ?_
  simp only [Try.ntmps75, List.size_toArray, List.length_cons, List.length_nil, Nat.reduceAdd, Nat.reduceSub, Array.replicate_succ, Array.replicate_zero, List.push_toArray, List.append_toArray, List.nil_append, List.cons_append]
  gi_wp2
  gi_loopg [3] (u0 + 1) (fun kq v3 w' => ∃ (u : Nat) (z : List Int), Aside0 (u < kq) ∧ Aside0 (z ++ Oc.grp u = z0 ++ Oc.grp u0) ∧ Aside0 (Gm base B U D w z u w') ∧ Aside0 (w'.heap[D + 1]? = some rdy))
  case atStart => exact ⟨u0, z0, ⟨Nat.lt_succ_self _⟩, ⟨rfl⟩, hM1A, hL1A⟩
  case round =>
    clear hM1A hL1A
    obtain ⟨u, z, HK, HZ, HM, HL⟩ := hrel
    have hcu := HM.out.cu
    have hfu := HM.out.fu
    have hlb := low_bits u
    have hzl : z.length ≤ 100000000000000 := by have h1 := congrArg List.length HZ.out; have h2 := hZ.out; rw [List.length_append, List.length_append] at h1; omega
    by_cases hu : 127 < u
    · have hg : (z ++ [((u % 128 + 128 : Nat) : Int)]) ++ Oc.grp (u / 128) = z0 ++ Oc.grp u0 := by rw [← HZ.out, Oc.grp_big u hu, List.append_assoc]; rfl
      have HG := Aside0.mk hg
      have hd : decide ((127 : Int) < (u : Int)) = true := decide_eq_true (by omega)
      have hd' : decide (127 < u) = true := decide_eq_true hu
      have HU := Aside0.mk hu
      clear HZ hg hu
      obtain ⟨fn, tm, asg, bd, hrun, hRi⟩ := hyA.out (m - 1) (((u % 128 + 128 : Nat) : Int), z, u) wr ⟨HM.out, hzl⟩ HL.out
      dsimp only at hrun hRi
      have hRiA := Aside0.mk hRi
      clear hRi hzl
      generalize hc : ((u % 128 + 128 : Nat) : Int) = c at *
      have HC := Aside0.mk hc
      clear hc
      gi_wp2
      refine ⟨fun h => by simp [Fence.wide] at h, hRiA.out.mono ?_⟩
      rintro e6 w6 ⟨rfl, hL6, hM6⟩
      simp only []
      have hL6A := Aside0.mk hL6
      have hM6A := Aside0.mk hM6
      have hcu6 := hM6.cu
      have hfu6 := hM6.fu
      clear hL6 hM6 hrun hRiA hlb hcu hfu
      gi_wp2
      have hpu := Gm.putU (u' := u / 128) hM6A.out
      gi_roundg (u / 128 + 1)
      case measure => have h1 := HK.out; have h2 := HU.out; omega
      case rel => exact ⟨u / 128, _, ⟨Nat.lt_succ_self _⟩, HG, ⟨by simpa using hpu⟩, ⟨(Below.heap_setCell _ _ _ _ (by have h3 := hM6A.out.ord; show D + 1 ≠ U; omega)).trans hL6A.out⟩⟩
    · have hg : z ++ [(u : Int)] = z0 ++ Oc.grp u0 := by rw [← HZ.out, Oc.grp_small u (by omega)]
      have HG := Aside0.mk hg
      have hd : decide ((127 : Int) < (u : Int)) = false := decide_eq_false (by omega)
      have hd' : decide (127 < u) = false := decide_eq_false (by omega)
      have hd2 : decide ((u : Int) < 128) = true := decide_eq_true (by omega)
      have hd2' : decide (u < 128) = true := decide_eq_true (by omega)
      have hm8 : (u : Int) % 256 = u := by omega
      obtain ⟨fn, tm, asg, bd, hrun, hRi⟩ := hyA.out (m - 1) ((u : Int), z, u) wr ⟨HM.out, hzl⟩ HL.out
      dsimp only at hrun hRi
      have hRiA := Aside0.mk hRi
      clear hRi hzl HZ hg hu hlb
      gi_wp2
      repeat (refine ⟨fun _ _ => trivial, ?_⟩; gi_wp2)
      refine ⟨fun h => by simp [Fence.wide] at h, hRiA.out.mono ?_⟩
      rintro e6 w6 ⟨rfl, hL6, hM6⟩
      simp only []
      have hL6A := Aside0.mk hL6
      have hM6A := Aside0.mk hM6
      clear hL6 hM6 hrun hRiA hcu hfu
      gi_wp2
      first | go_end0 | refine bodyPost_ret (results_none rfl _ _ _) rfl ?_
      exact ⟨⟨_, rfl⟩, hL6A.out, u, by rw [← HG.out]; exact hM6A.out⟩
end Go.Proofs.Ytfcdaifaocgjfaa.Gw
end
section
namespace Go.Proofs.Ytfcdaifaocgjfaa.Pr
open Go.RowKit Go.Proofs.YtfcdaifaocgjfaaW.PrintWords Go.Proofs.YtfcdaifaocgjfaaW.PrintLast Go.Proofs.YtfcdaifaocgjfaaW.PrintMore
attribute [local go_sem] max2_int min2_int max_two min_two max_three min_three max_four min_four   -- for this text's walks alone
set_option linter.unusedVariables false
set_option linter.unusedSimpArgs false
attribute [local go_sem] Oper.semAt_some
def octet_PutInt.f (l0 : List Int) (a1 : Int) : Option (List Int) := if Oc.ok64 a1 = true ∧ l0.length ≤ 1000000000000 then some (Oc.putI l0 a1) else none
set_option maxHeartbeats 4000000 in
set_option maxRecDepth 100000 in
theorem octet_PutInt.calls (A0 : Option Addr) (c0 : Nat) (l0 : List Int) (a1 : Int) (r : List Int) (w : World) (hr0 : Kd.C (Kd.int .u8) w A0 l0.length l0) (hc0 : l0.length ≤ c0) (h : octet_PutInt.f l0 a1 = some r) :
    Calls Try.prog 58 #[.slice A0 l0.length c0, .int .i64 a1] w fun e w' => ∃ v0_ : Value, e = .returned (v0_) ∧ Kd.R (Kd.int .u8) 5 w' w.heap.size (fun _ => True) v0_ r ∧ Below w.heap.size w w' := by
  unfold octet_PutInt.f at h
  by_cases hl : Oc.ok64 a1 = true ∧ l0.length ≤ 1000000000000
  case neg => rw [if_neg hl] at h; cases h
  rw [if_pos hl] at h
  obtain rfl := Option.some.inj h
  clear h
  have hz := Oc.zz_lt a1 hl.1
  have h10 := Oc.grp_ten _ hz
  have HO := Aside0.mk hl
  have HR := Aside0.mk hr0
  have HC := Aside0.mk hc0
  clear hl hr0 hc0 hz
  have H10 := Aside0.mk h10
  clear h10
  refine (callsIn_wide (n := 9)).1 ?_
  refine callsIn_of_wp_marks Try.func58 rfl trivial ?_
  simp only [Try.ntmps58, List.size_toArray, List.length_cons, List.length_nil, Nat.reduceAdd, Nat.reduceSub, Array.replicate_succ, Array.replicate_zero, List.push_toArray, List.append_toArray, List.nil_append, List.cons_append]
  gi_wp2
  refine ⟨trivial, callsIn_wide.2 ((slices_Clone_byte_byte.calls A0 c0 l0 l0 _ (Kd.C_below HR.out (below_alloc (Below.refl _ _) _)) HC.out (by unfold slices_Clone_byte_byte.f; rw [if_pos (by have := HO.out.2; omega)])).mono ?_)⟩
  rintro e w2 ⟨v2, rfl, ho2, hb2⟩
  simp only []
  obtain ⟨A2, c2, rfl⟩ := Kd.R_slice ho2
  have hs2 : w.heap.size + 1 ≤ w2.heap.size := by have := hb2.size; simpa using this
  have hcB : w2.cell? ⟨w.heap.size, 0, none⟩ = some (.slice A0 l0.length c0) := (World.cell?_of_block (hb2.block _ (by simp))).trans (by simp [go_sem])
  have hfB : w2.frozen? ⟨w.heap.size, 0, none⟩ = false := (World.frozen?_of_block (hb2.block _ (by simp))).trans (by simp [go_sem])
  have HB2 := Aside0.mk (below_step (below_alloc (Below.refl w.heap.size w) _) hb2)
  have HO2 := Aside0.mk (Kd.R_lower ho2 (base' := w.heap.size + 1) (by simp))
  clear hb2 ho2
  gi_wp2
  refine ⟨trivial, callsIn_wide.2 ((Gw.groups a1 HO.out.1 _).mono ?_)⟩
  rintro e w3 ⟨rfl, rfl⟩
  simp only []
  gi_wp2
  obtain ⟨W3, hW3⟩ : ∃ W3, w2.setCell ⟨w.heap.size, 0, none⟩ (.slice A2 l0.length c2) = W3 := ⟨_, rfl⟩
  rw [hW3]
  obtain ⟨U, hU⟩ : ∃ U, W3.heap.size = U := ⟨_, rfl⟩
  rw [hU]
  have hU2 : w2.heap.size = U := by rw [← hU, ← hW3]; simp
  have hne : ∀ k, k ≠ w.heap.size → W3.heap[k]? = w2.heap[k]? := fun k hk => by rw [← hW3]; exact Below.heap_setCell _ _ _ _ hk
  have hc3 : W3.cell? ⟨w.heap.size, 0, none⟩ = some (.slice A2 l0.length c2) := by rw [← hW3]; exact World.cell?_setCell_same' _ _ _ (by rw [hcB]; rfl)
  have hf3 : W3.frozen? ⟨w.heap.size, 0, none⟩ = false := by rw [← hW3, World.frozen?_setCell]; exact hfB
  have hb3 : Below w.heap.size w W3 := by rw [← hW3]; exact HB2.out.setCell (Nat.le_refl _) _
  have hR2 := Kd.R_bound HO2.out
  rw [hU2] at hR2
  have hR3 : Kd.R (Kd.int .u8) 5 W3 w.heap.size (fun k => k ≠ w.heap.size ∧ k < U) (.slice A2 l0.length c2) l0 :=
    Kd.R_lower (Kd.R_mono (Kd.R_step hR2 (fun k hk _ => hne k (by have := hk.2.1; omega))) (fun k hk => ⟨by have := hk.2.1; omega, hk.2.2.1⟩)) (by omega)
  have hUB : w.heap.size < U := by omega
  clear hR2 HO2 HB2 hne hcB hfB hs2 hW3 hU2
  have hD : (W3.alloc (.cells #[.int .u64 ((Oc.zz a1 : Nat) : Int)] 104)).heap.size = U + 1 := by simp [hU]
  refine Ra.wpIn_rangeFunc_law (X := Int × List Int × Nat) (U + 1) hD (gf := 75) (lb := #[.pointer (some ⟨U, 0, none⟩)]) ?hg (fun _ _ => by simp [go_sem]) (fun x => #[.int .u8 x.1]) (fun _ => rfl)
    (fun x W => Gw.Gm w.heap.size w.heap.size U (U + 1) w x.2.1 x.2.2 W ∧ x.2.1.length ≤ 100000000000000)
    (fun x _ W => Gw.Gm w.heap.size w.heap.size U (U + 1) w (x.2.1 ++ [x.1]) x.2.2 W)
    (fun W => ∃ u', Gw.Gm w.heap.size w.heap.size U (U + 1) w (l0 ++ Oc.grp (Oc.zz a1)) u' W) ?hround ?hiter ?hdone
  case hg => simp [go_sem]
  case hround =>
    rintro rdy bsy m ⟨c, z, u⟩ W ⟨hM, hz⟩ hL
    dsimp only at hM hz
    dsimp only
    simp only [List.zip_toArray, List.zip_cons_cons, List.zip_nil_left, List.zip_nil_right, List.foldl_toArray', List.foldl_toArray, List.foldl_cons, List.foldl_nil, List.setIfInBounds_toArray, List.set_cons_succ, List.set_cons_zero]
    gi_wp2
    refine ⟨hL, ?_⟩
    obtain ⟨v, hv, hS⟩ := hM.v
    have hsz := hM.sz
    have hord := hM.ord
    obtain ⟨W2, hW2⟩ : ∃ W2, W.putObj (U + 1 + 1) bsy = W2 := ⟨_, rfl⟩
    have hk2 : ∀ k, k ≠ U + 1 + 1 → W2.heap[k]? = W.heap[k]? := fun k hk => by rw [← hW2]; exact World.putObj_heap_other hk
    have hs2 : W2.heap.size = W.heap.size := by rw [← hW2]; simp
    have hc : W2.cell? ⟨w.heap.size, 0, none⟩ = some v := (World.cell?_of_block (hk2 _ (by show w.heap.size ≠ U + 1 + 1; omega))).trans hv
    have hL2 : W2.heap[U + 1 + 1]? = some bsy := by rw [← hW2]; exact World.putObj_heap_same (by omega)
    have hS2 := Kd.R_step (w1 := W2) hS (fun k hk1 _ => hk2 k (by omega))
    obtain ⟨A, cc, rfl⟩ := Kd.R_slice hS
    obtain ⟨v1, w6, hrun, hS6, hg6⟩ := Gw.R_append_run (P := Try.prog) (Kd.int .u8) (W := W2) w.heap.size 22 22 5 (.int .u8 0) 1 Try.underlying22 info5 rfl (by decide) (by omega) (.slice A z.length cc) z c [.int .u8 c] (fun k => k ≠ w.heap.size ∧ k ≠ U ∧ k ≠ U + 1 ∧ k ≠ U + 1 + 1) (fun _ => False)
      rfl (fun _ h => h.elim) (fun k hk => ⟨by omega, by omega, by omega, by omega⟩) hS2 (by omega) (by omega)
    have hvb : ∀ k, (Value.slice A z.length cc).ownBlock = some k → w.heap.size ≤ k ∧ k ≠ w.heap.size ∧ k ≠ U ∧ k ≠ U + 1 ∧ k ≠ U + 1 + 1 := fun k e => ⟨Kd.R_base hS2 k e, hS2.1 k e⟩
    have hfin := Gw.Gm.put (rdy := rdy) (bsy := bsy) hM (by rw [hW2]; exact hg6) hvb hS6
    have hk6 : ∀ k, k < U + 1 + 1 + 1 → some k ≠ (Value.slice A z.length cc).ownBlock → w6.heap[k]? = W2.heap[k]? := fun k hk hne => hg6.block k (by omega) hne
    have nB : some w.heap.size ≠ (Value.slice A z.length cc).ownBlock := fun e => (hvb _ e.symm).2.1 rfl
    have nL : some (U + 1 + 1) ≠ (Value.slice A z.length cc).ownBlock := fun e => (hvb _ e.symm).2.2.2.2 rfl
    have hc6 : w6.cell? ⟨w.heap.size, 0, none⟩ = some (.slice A z.length cc) := (World.cell?_of_block (hk6 _ (by show w.heap.size < _; omega) nB)).trans hc
    have hf6 : w6.frozen? ⟨w.heap.size, 0, none⟩ = false := ((World.frozen?_of_block (hk6 _ (by show w.heap.size < _; omega) nB)).trans (World.frozen?_of_block (hk2 _ (by show w.heap.size ≠ U + 1 + 1; omega)))).trans hM.f
    have hL6 : (w6.setCell ⟨w.heap.size, 0, none⟩ v1).heap[U + 1 + 1]? = some bsy :=
      ((Below.heap_setCell _ _ _ _ (by show U + 1 + 1 ≠ w.heap.size; omega)).trans (hk6 _ (by omega) nL)).trans hL2
    rw [hW2]
    obtain ⟨A1, c1, rfl⟩ := Kd.R_slice hS6
    generalize (z ++ [c]).length = n1 at *
    clear hS6 hg6 hS2 hS hk2 hk6 hM hW2 hv hvb nB nL hb3 hR3 hc3 hf3 hD
    have hrunA := Aside0.mk hrun
    have hfinA := Aside0.mk hfin
    have hL6A := Aside0.mk hL6
    clear hrun hfin hL6 hs2 hU
    gi_wp2_with (gi_at_builtin; refine Ra.wpListIn_append_run rfl (.tmp 11) (.tmp 13) 22 rfl rfl rfl hrunA.out ?_)
    exact ⟨hL6A.out, hfinA.out⟩
  case hiter =>
    intro rdy m hy
    simp only [List.append_toArray, List.cons_append, List.nil_append]
    obtain ⟨W1, hW1⟩ : ∃ W1, ((W3.alloc (.cells #[.int .u64 ((Oc.zz a1 : Nat) : Int)] 104)).alloc (.deferred (some []))).alloc rdy = W1 := ⟨_, rfl⟩
    have hold : ∀ k, k < U → W1.heap[k]? = W3.heap[k]? := fun k hk => by
      rw [← hW1]; exact ((Below.heap_alloc _ _ _ (by simp; omega)).trans (Below.heap_alloc _ _ _ (by simp; omega))).trans (Below.heap_alloc _ _ _ (by omega))
    have hL1 : W1.heap[U + 1 + 1]? = some rdy := by
      rw [← hW1]; have := World.alloc_heap_new ((W3.alloc (.cells #[.int .u64 ((Oc.zz a1 : Nat) : Int)] 104)).alloc (.deferred (some []))) rdy; simpa [hU] using this
    have hD1 : W1.heap[U + 1]? = some (.deferred (some [])) := by
      have := World.alloc_heap_new (W3.alloc (.cells #[.int .u64 ((Oc.zz a1 : Nat) : Int)] 104)) (.deferred (some []))
      rw [hD] at this
      rw [← hW1]
      exact (Below.heap_alloc _ _ _ (by simp; omega)).trans this
    have hu1 : W1.heap[U]? = some (.cells #[.int .u64 ((Oc.zz a1 : Nat) : Int)] 104) := by
      have := World.alloc_heap_new W3 (.cells #[.int .u64 ((Oc.zz a1 : Nat) : Int)] 104)
      rw [hU] at this
      rw [← hW1]
      exact ((Below.heap_alloc _ _ _ (by simp; omega)).trans (Below.heap_alloc _ _ _ (by simp; omega))).trans this
    have hs1 : W1.heap.size = U + 3 := by rw [← hW1]; simp [hU]
    have hM1 : Gw.Gm w.heap.size w.heap.size U (U + 1) w l0 (Oc.zz a1) W1 :=
      ⟨⟨_, (World.cell?_of_block (hold _ (by show w.heap.size < U; omega))).trans hc3, Kd.R_mono (Kd.R_step hR3 (fun k hk _ => hold k hk.2)) (fun k hk => ⟨hk.1, by omega, by omega, by omega⟩)⟩,
        (World.frozen?_of_block (hold _ (by show w.heap.size < U; omega))).trans hf3, by simp [World.cell?, hu1], by simp [World.frozen?, hu1], hD1,
        by rw [← hW1]; exact below_alloc (below_alloc (below_alloc hb3 _) _) _, by omega, by omega⟩
    rw [hW1]
    exact Gw.iter w.heap.size w.heap.size U (U + 1) w l0 (Oc.zz a1) (by have := HO.out.2; have := H10.out; omega) rdy m W1 hM1 hL1 hy
  case hdone =>
    rintro o W ⟨u', hM⟩
    obtain ⟨v, hv, hS⟩ := hM.v
    obtain ⟨A, c, rfl⟩ := Kd.R_slice hS
    obtain ⟨W4, hW4⟩ : ∃ W4, W.putObj (U + 1 + 1) o = W4 := ⟨_, rfl⟩
    have hk : ∀ k, k ≠ U + 1 + 1 → W4.heap[k]? = W.heap[k]? := fun k hk => by rw [← hW4]; exact World.putObj_heap_other hk
    have hc : W4.cell? ⟨w.heap.size, 0, none⟩ = some (.slice A (l0 ++ Oc.grp (Oc.zz a1)).length c) := (World.cell?_of_block (hk _ (by show w.heap.size ≠ _; omega))).trans hv
    have hD4 : W4.heap[U + 1]? = some (.deferred (some [])) := (hk _ (by omega)).trans hM.dd
    have hS4 := Kd.R_step (w1 := W4) hS (fun k hk1 _ => hk k (by omega))
    have hb4 : Below w.heap.size w W4 := by rw [← hW4]; exact hM.hb.grown (grownBy_putObj' W _ o) hM.hb.size (fun k e => by cases e; omega)
    rw [hW4]
    clear hk hW4 hS hv hM hc3 hf3 hb3 hR3 hD hU
    have HS := Aside0.mk hS4
    have HB := Aside0.mk hb4
    have HD := Aside0.mk hD4
    clear hS4 hb4 hD4
    generalize hn : (l0 ++ Oc.grp (Oc.zz a1)).length = n at *
    have HN := Aside0.mk hn
    clear hn
    gi_wp2
    refine ⟨by simp, .inl ⟨_, _, rfl, run_takeDeferred HD.out, ?_⟩⟩
    have hk6 : ∀ k, k ≠ U + 1 → (W4.putObj (U + 1) (.deferred none)).heap[k]? = W4.heap[k]? := fun k hk => World.putObj_heap_other hk
    refine ⟨_, ?_, .slice A n c, rfl, Kd.R_mono (Kd.R_step HS.out (fun k hk1 _ => hk6 k (by omega))) (fun _ _ => trivial), HB.out.grown (grownBy_putObj' W4 _ _) HB.out.size (fun k e => by cases e; omega)⟩
    simp [results, Try.f58, go_sem]
end Go.Proofs.Ytfcdaifaocgjfaa.Pr
end
