/- The walk of a range over groups: what stands in memory between two yields; the iterator, once for all. -/
import Derived.Test.YtodobnmfgcmnnaaRangeLaw
import Derived.Test.YtodobnmfgcmnnaaOcB
namespace Go.Proofs.Ytodobnmfgcmnnaa.Gw
open Go.RowKit Go.Proofs.YtodobnmfgcmnnaaW.PrintWords Go.Proofs.YtodobnmfgcmnnaaW.PrintLast Go.Proofs.YtodobnmfgcmnnaaW.PrintMore
open Go.Proofs.Ytodobnmfgcmnnaa.Pr
attribute [local go_sem] Oper.semAt_some
set_option linter.unusedVariables false
set_option linter.unusedSimpArgs false
/-- append(v, x) to a row of one's own, as a run. -/
theorem R_append_run {α : Type} {P : Program} (d : Kd α) {W : World} (base : Nat) (t ty e : TypeId) (z : Value) (bytes : Nat)
    (ht : P.underlying t = some (.slice e)) (hinfo : (P.info? e).map (fun i => (i.zero, i.size, i.bytes)) = some (some z, d.sz, bytes)) (hz : z.cells.size = d.sz) (hs0 : 0 < d.sz) (hb0 : 0 < bytes)
    (v : Value) (xs : List α) (p : α) (cs : List Value) (ok okp : Nat → Prop) (hp : d.M W base okp p cs) (hokp : ∀ k, okp k → ok k ∧ some k ≠ v.ownBlock) (hfresh : ∀ k, W.heap.size ≤ k → ok k)
    (HO : Kd.R d e W base ok v xs) (hbase : base ≤ W.heap.size) (hl : (xs.length + 1) * bytes ≤ 140737488355328) :
    ∃ v1 w1, (Builtin.append_ #[t, t] ty #[v, .slice (some ⟨W.heap.size, 0, none⟩) 1 1]).run P (W.alloc (.cells cs.toArray e)) = .ok v1 w1 ∧ Kd.R d e w1 base ok v1 (xs ++ [p]) ∧ W.grownBy w1 v.ownBlock := by
  obtain ⟨h0, inner, hown, hr⟩ := HO
  obtain ⟨i0, hi, hzz⟩ := Option.map_eq_some_iff.1 hinfo
  simp only [Prod.mk.injEq] at hzz
  obtain ⟨hz0, hz1, hz2⟩ := hzz
  have hnb : xs.length + 1 ≤ 140737488355328 := Nat.le_trans (Nat.le_mul_of_pos_right _ hb0) hl
  have hcl : cs.length = d.sz := d.K_len (d.K_of_M hp)
  obtain ⟨v1, w1, hrun, hown1, hg1, _, hat⟩ := run_append_own_at (P := P) (w := W.alloc (.cells cs.toArray e)) base t ty e i0 z d.sz bytes ht hi hz0 hz1 hz2 hz hs0 v xs.length inner (hown.alloc _) ⟨W.heap.size, 0, none⟩ 1 1 cs
    (by rw [hcl]; simp) (by simpa using World.news_of_block (cs := cs.toArray) (t := e) (fr := (0, 0)) (heap_alloc_new W (.cells cs.toArray e))) (d.K_one (d.K_of_M hp)) (by simp only [maxLen]; omega) hl (by simp; omega)
  have hg2 : W.grownBy w1 v.ownBlock := World.grownBy.trans (World.grownBy_alloc W _ _) hg1
  have hat2 : v1.ownBlock = v.ownBlock ∨ ∃ b, v1.ownBlock = some b ∧ W.heap.size ≤ b := by
    rcases hat with hat | hat
    · exact .inl hat
    · exact .inr ⟨_, hat, by simp⟩
  exact ⟨v1, w1, hrun, Kd.R_appended (okp := okp) h0 hr hp hokp hfresh hown1 hg2 hat2, hg2⟩

/-- Between two yields: B is the box of the slice, U the cell of the number, D and D + 1 the loop's own blocks. -/
structure Gm (base B U D : Nat) (w : World) (z : List Int) (u : Nat) (W : World) : Prop where
  v : ∃ v, W.cell? ⟨B, 0, none⟩ = some v ∧ Kd.R (Kd.int .u8) 5 W base (fun k => k ≠ B ∧ k ≠ U ∧ k ≠ D ∧ k ≠ D + 1) v z
  f : W.frozen? ⟨B, 0, none⟩ = false
  cu : W.cell? ⟨U, 0, none⟩ = some (.int .u64 (u : Int))
  fu : W.frozen? ⟨U, 0, none⟩ = false
  dd : W.heap[D]? = some (.deferred (some []))
  hb : Below base w W
  sz : D + 2 ≤ W.heap.size
  ord : base ≤ B ∧ base ≤ U ∧ B ≠ U ∧ B < D ∧ U < D
theorem Gm.putU {base B U D : Nat} {w : World} {z : List Int} {u u' : Nat} {W : World} (h : Gm base B U D w z u W) : Gm base B U D w z u' (W.setCell ⟨U, 0, none⟩ (.int .u64 (u' : Int))) := by
  obtain ⟨v, hv, hR⟩ := h.v
  have o := h.ord
  have e : ∀ k, k ≠ U → (W.setCell ⟨U, 0, none⟩ (.int .u64 (u' : Int))).heap[k]? = W.heap[k]? := fun k hk => Below.heap_setCell _ _ _ _ hk
  exact ⟨⟨v, (World.cell?_of_block (e _ o.2.2.1)).trans hv, Kd.R_step hR (fun k hk _ => e k hk.2.1)⟩, (World.frozen?_of_block (e _ o.2.2.1)).trans h.f, World.cell?_setCell_same' _ _ _ (by rw [h.cu]; rfl), by rw [World.frozen?_setCell]; exact h.fu,
    (e _ (by omega)).trans h.dd, h.hb.setCell o.2.1 _, by simpa using h.sz, o⟩
/-- What a round leaves: the byte appended. -/
theorem Gm.put {base B U D : Nat} {w : World} {rdy bsy : Obj} {z z' : List Int} {u : Nat} {W w6 : World} {v v1 : Value} (h : Gm base B U D w z u W)
    (hg : (W.putObj (D + 1) bsy).grownBy w6 v.ownBlock) (hv : ∀ k, v.ownBlock = some k → base ≤ k ∧ k ≠ B ∧ k ≠ U ∧ k ≠ D ∧ k ≠ D + 1)
    (hS : Kd.R (Kd.int .u8) 5 w6 base (fun k => k ≠ B ∧ k ≠ U ∧ k ≠ D ∧ k ≠ D + 1) v1 z') :
    Gm base B U D w z' u ((w6.setCell ⟨B, 0, none⟩ v1).putObj (D + 1) rdy) := by
  have hsz := h.sz
  have o := h.ord
  have hsp : (W.putObj (D + 1) bsy).heap.size = W.heap.size := by simp
  have hk6 : ∀ k, k < D + 1 → some k ≠ v.ownBlock → w6.heap[k]? = W.heap[k]? := fun k hk hne =>
    (hg.block k (by omega) hne).trans (World.putObj_heap_other (by omega))
  have hs6 := hg.size
  obtain ⟨x, hx, _⟩ := h.v
  obtain ⟨W7, hW7⟩ : ∃ W7, w6.setCell ⟨B, 0, none⟩ v1 = W7 := ⟨_, rfl⟩
  have hk7 : ∀ k, k ≠ B → W7.heap[k]? = w6.heap[k]? := fun k h1 => by rw [← hW7]; exact Below.heap_setCell _ _ _ _ h1
  obtain ⟨W8, hW8⟩ : ∃ W8, W7.putObj (D + 1) rdy = W8 := ⟨_, rfl⟩
  have hk8 : ∀ k, k ≠ D + 1 → W8.heap[k]? = W7.heap[k]? := fun k hk => by rw [← hW8]; exact World.putObj_heap_other hk
  have hs7 : W7.heap.size = w6.heap.size := by rw [← hW7]; simp
  have hs8 : W8.heap.size = W7.heap.size := by rw [← hW8]; simp
  have nB : some B ≠ v.ownBlock := fun e => (hv _ e.symm).2.1 rfl
  have nU : some U ≠ v.ownBlock := fun e => (hv _ e.symm).2.2.1 rfl
  have nD : some D ≠ v.ownBlock := fun e => (hv _ e.symm).2.2.2.1 rfl
  have hc6 : w6.cell? ⟨B, 0, none⟩ = some x := (World.cell?_of_block (hk6 _ (by show B < D + 1; omega) nB)).trans hx
  have hc7 : W7.cell? ⟨B, 0, none⟩ = some v1 := by rw [← hW7]; exact World.cell?_setCell_same' _ _ _ (by rw [hc6]; rfl)
  have hf7 : W7.frozen? ⟨B, 0, none⟩ = false := by rw [← hW7, World.frozen?_setCell]; exact (World.frozen?_of_block (hk6 _ (by show B < D + 1; omega) nB)).trans h.f
  have eU : W8.heap[U]? = W.heap[U]? := (hk8 _ (by omega)).trans ((hk7 _ (Ne.symm o.2.2.1)).trans (hk6 _ (by omega) nU))
  rw [hW7, hW8]
  have hb6 : Below base w w6 := (h.hb.grown (grownBy_putObj' W _ bsy) (by omega) (fun k e => by cases e; omega)).grown hg (by omega) (fun k e => (hv k e).1)
  have hb8 : Below base w W8 := by
    rw [← hW8, ← hW7]
    exact (hb6.setCell o.1 _).grown (grownBy_putObj' _ _ rdy) (by simp; omega) (fun k e => by cases e; omega)
  exact ⟨⟨v1, (World.cell?_of_block (hk8 _ (by show B ≠ D + 1; omega))).trans hc7, Kd.R_step hS (fun k hk _ => (hk8 k hk.2.2.2).trans (hk7 k hk.1))⟩,
    (World.frozen?_of_block (hk8 _ (by show B ≠ D + 1; omega))).trans hf7, (World.cell?_of_block eU).trans h.cu, (World.frozen?_of_block eU).trans h.fu,
    (hk8 _ (by omega)).trans ((hk7 _ (by omega)).trans ((hk6 _ (by omega) nD).trans h.dd)), hb8, by omega, o⟩
theorem groups_bits (n : Int) (h : Oc.ok64 n = true) : Go.bits .xor .u64 (IntKind.u64.wrap (IntKind.u64.wrap n * 2)) (IntKind.u64.wrap (n / 9223372036854775808)) = ((Oc.zz n : Nat) : Int) := by
  simp only [Oc.ok64, Bool.and_eq_true, decide_eq_true_eq] at h
  show IntKind.u64.wrap ((BitVec.ofInt 64 (IntKind.u64.wrap (IntKind.u64.wrap n * 2)) ^^^ BitVec.ofInt 64 (IntKind.u64.wrap (n / 9223372036854775808))).toNat : Int) = _
  by_cases h0 : 0 ≤ n
  · have e1 : IntKind.u64.wrap (IntKind.u64.wrap n * 2) = (((2 * n).toNat : Nat) : Int) := by rw [IntKind.wrap_u64, IntKind.wrap_u64]; omega
    have e2 : IntKind.u64.wrap (n / 9223372036854775808) = ((0 : Nat) : Int) := by rw [IntKind.wrap_u64]; omega
    rw [e1, e2, BitVec.toNat_xor, Oc.ofNat64 _ (by omega), Oc.ofNat64 0 (by omega), Nat.xor_zero, IntKind.wrap_u64]
    unfold Oc.zz
    rw [if_pos h0]
    omega
  · have e1 : IntKind.u64.wrap (IntKind.u64.wrap n * 2) = (((2 * n + 18446744073709551616).toNat : Nat) : Int) := by rw [IntKind.wrap_u64, IntKind.wrap_u64]; omega
    have e2 : IntKind.u64.wrap (n / 9223372036854775808) = ((18446744073709551615 : Nat) : Int) := by rw [IntKind.wrap_u64]; omega
    have e3 : BitVec.ofInt 64 ((18446744073709551615 : Nat) : Int) = BitVec.allOnes 64 := by decide
    rw [e1, e2, e3, BitVec.xor_allOnes, BitVec.toNat_not, Oc.ofNat64 _ (by omega), IntKind.wrap_u64]
    unfold Oc.zz
    rw [if_neg h0]
    omega
set_option maxHeartbeats 400000 in
theorem groups (n : Int) (h : Oc.ok64 n = true) (w : World) : Calls Try.prog 27 #[.int .i64 n] w fun e w' => e = .returned (.func (.func 34) #[] #[.pointer (some ⟨w.heap.size, 0, none⟩)]) ∧ w' = w.alloc (.cells #[.int .u64 ((Oc.zz n : Nat) : Int)] 45) := by
  have HB := Aside0.mk (groups_bits n h)
  clear h
  go_enter Try.func27, Try.ntmps27
  go_wp2
  go_ret
  exact ⟨rfl, by rw [HB.out]⟩
theorem low_bits (u : Nat) : Go.bits .or .u8 ((u : Int) % 256) 128 = ((u % 128 + 128 : Nat) : Int) := by
  show IntKind.u8.wrap ((BitVec.ofInt 8 ((u : Int) % 256) ||| BitVec.ofInt 8 ((128 : Nat) : Int)).toNat : Int) = _
  have e1 : (BitVec.ofInt 8 ((u : Int) % 256)).toNat = u % 256 := by rw [BitVec.toNat_ofInt]; omega
  have e2 : (BitVec.ofInt 8 ((128 : Nat) : Int)).toNat = 128 := by decide
  rw [BitVec.toNat_or, e1, e2, IntKind.wrap_u8]
  have h1 := Nat.two_pow_add_eq_or_of_lt (i := 7) (b := u % 128) (by omega) 1
  have h2 : u % 256 ||| 128 = (u % 128) ||| 128 := by
    apply Nat.eq_of_testBit_eq
    intro i
    rw [show (256 : Nat) = 2 ^ 8 from rfl, show (128 : Nat) = 2 ^ 7 from rfl, Nat.testBit_or, Nat.testBit_or, Nat.testBit_mod_two_pow, Nat.testBit_mod_two_pow, Nat.testBit_two_pow]
    by_cases h : i < 7
    · simp [h, show i < 8 by omega]
    · by_cases h7 : i = 7
      · simp [h7]
      · simp [h, show ¬ i < 8 by omega]
  rw [h2, Nat.or_comm]
  have h3 : 128 ||| u % 128 = 128 + u % 128 := by simpa using h1.symm
  rw [h3]
  omega
set_option maxHeartbeats 4000000 in
set_option maxRecDepth 100000 in
theorem iter (base B U D : Nat) (w : World) (z0 : List Int) (u0 : Nat) (hz0 : z0.length + (Oc.grp u0).length ≤ 100000000000000) (rdy : Obj) (m : Nat) (W1 : World) (hM1 : Gm base B U D w z0 u0 W1) (hL1 : W1.heap[D + 1]? = some rdy)
    (hy : ∀ (m : Nat) (x : Int × List Int × Nat) (W : World), (Gm base B U D w x.2.1 x.2.2 W ∧ x.2.1.length ≤ 100000000000000) → W.heap[D + 1]? = some rdy → YieldAt Fence.wide m Try.prog (D + 1) #[.int .u8 x.1] W (fun e W' => e = .returned (.bool true) ∧ W'.heap[D + 1]? = some rdy ∧ Gm base B U D w (x.2.1 ++ [x.1]) x.2.2 W')) :
    CallsIn Fence.wide m Try.prog 34 #[.func (.yield (D + 1)) #[] #[], .pointer (some ⟨U, 0, none⟩)] W1 (fun e W => (∃ v, e = .returned v) ∧ W.heap[D + 1]? = some rdy ∧ ∃ u', Gm base B U D w (z0 ++ Oc.grp u0) u' W) := by
  have hyA := Aside0.mk hy
  have hM1A := Aside0.mk hM1
  have hL1A := Aside0.mk hL1
  have hZ := Aside0.mk hz0
  clear hy hM1 hL1 hz0
  refine callsIn_of_wp Try.func34 rfl trivial ?_
  simp only [Try.ntmps34, List.size_toArray, List.length_cons, List.length_nil, Nat.reduceAdd, Nat.reduceSub, Array.replicate_succ, Array.replicate_zero, List.push_toArray, List.append_toArray, List.nil_append, List.cons_append]
  gi_wp2
  gi_loopg [3] (u0 + 1) (fun kq v3 w' => ∃ (u : Nat) (z : List Int), Aside0 (u < kq) ∧ Aside0 (z ++ Oc.grp u = z0 ++ Oc.grp u0) ∧ Aside0 (Gm base B U D w z u w') ∧ Aside0 (w'.heap[D + 1]? = some rdy))
  case atStart => exact ⟨u0, z0, ⟨Nat.lt_succ_self _⟩, ⟨rfl⟩, hM1A, hL1A⟩
  case round =>
    clear hM1A hL1A
    obtain ⟨u, z, HK, HZ, HM, HL⟩ := hrel
    have hcu := HM.out.cu
    have hfu := HM.out.fu
    have hlb := low_bits u
    have hzl : z.length ≤ 100000000000000 := by have h1 := congrArg List.length HZ.out; have h2 := hZ.out; rw [List.length_append, List.length_append] at h1; omega
    by_cases hu : 127 < u
    · have hg : (z ++ [((u % 128 + 128 : Nat) : Int)]) ++ Oc.grp (u / 128) = z0 ++ Oc.grp u0 := by rw [← HZ.out, Oc.grp_big u hu, List.append_assoc]; rfl
      have HG := Aside0.mk hg
      have hd : decide ((127 : Int) < (u : Int)) = true := decide_eq_true (by omega)
      have hd' : decide (127 < u) = true := decide_eq_true hu
      have HU := Aside0.mk hu
      clear HZ hg hu
      obtain ⟨fn, tm, asg, bd, hrun, hRi⟩ := hyA.out (m - 1) (((u % 128 + 128 : Nat) : Int), z, u) wr ⟨HM.out, hzl⟩ HL.out
      dsimp only at hrun hRi
      have hRiA := Aside0.mk hRi
      clear hRi hzl
      generalize hc : ((u % 128 + 128 : Nat) : Int) = c at *
      have HC := Aside0.mk hc
      clear hc
      gi_wp2
      refine ⟨fun h => by simp [Fence.wide] at h, hRiA.out.mono ?_⟩
      rintro e6 w6 ⟨rfl, hL6, hM6⟩
      simp only []
      have hL6A := Aside0.mk hL6
      have hM6A := Aside0.mk hM6
      have hcu6 := hM6.cu
      have hfu6 := hM6.fu
      clear hL6 hM6 hrun hRiA hlb hcu hfu
      gi_wp2
      have hpu := Gm.putU (u' := u / 128) hM6A.out
      gi_roundg (u / 128 + 1)
      case measure => have h1 := HK.out; have h2 := HU.out; omega
      case rel => exact ⟨u / 128, _, ⟨Nat.lt_succ_self _⟩, HG, ⟨by simpa using hpu⟩, ⟨(Below.heap_setCell _ _ _ _ (by have h3 := hM6A.out.ord; show D + 1 ≠ U; omega)).trans hL6A.out⟩⟩
    · have hg : z ++ [(u : Int)] = z0 ++ Oc.grp u0 := by rw [← HZ.out, Oc.grp_small u (by omega)]
      have HG := Aside0.mk hg
      have hd : decide ((127 : Int) < (u : Int)) = false := decide_eq_false (by omega)
      have hd' : decide (127 < u) = false := decide_eq_false (by omega)
      have hd2 : decide ((u : Int) < 128) = true := decide_eq_true (by omega)
      have hd2' : decide (u < 128) = true := decide_eq_true (by omega)
      have hm8 : (u : Int) % 256 = u := by omega
      obtain ⟨fn, tm, asg, bd, hrun, hRi⟩ := hyA.out (m - 1) ((u : Int), z, u) wr ⟨HM.out, hzl⟩ HL.out
      dsimp only at hrun hRi
      have hRiA := Aside0.mk hRi
      clear hRi hzl HZ hg hu hlb
      gi_wp2
      repeat (refine ⟨fun _ _ => trivial, ?_⟩; gi_wp2)
      refine ⟨fun h => by simp [Fence.wide] at h, hRiA.out.mono ?_⟩
      rintro e6 w6 ⟨rfl, hL6, hM6⟩
      simp only []
      have hL6A := Aside0.mk hL6
      have hM6A := Aside0.mk hM6
      clear hL6 hM6 hrun hRiA hcu hfu
      gi_wp2
      first | go_end0 | refine bodyPost_ret (results_none rfl _ _ _) rfl ?_
      exact ⟨⟨_, rfl⟩, hL6A.out, u, by rw [← HG.out]; exact hM6A.out⟩
end Go.Proofs.Ytodobnmfgcmnnaa.Gw
