/- Parts of the proof of JournalNext; no condition. -/
import Derived.Test.YtfcdaifaocgjfaaGa0
import Derived.Test.YtfcdaifaocgjfaaPla
import Derived.RangeFuncNested
import Derived.RangeFuncLeaves
import Derived.RangeFuncGives
import Derived.WalkKit
import Derived.OwnWalkIn
import Derived.TacticsInMore
import Derived.LoopIn
import Derived.Sort.LoopGhostIn
section
namespace Go.Proofs.Ytfcdaifaocgjfaa.Pr
open Go.RowKit Go.Proofs.YtfcdaifaocgjfaaW.PrintWords Go.Proofs.YtfcdaifaocgjfaaW.PrintLast Go.Proofs.YtfcdaifaocgjfaaW.PrintMore
attribute [local go_sem] max2_int min2_int max_two min_two max_three min_three max_four min_four   -- for this text's walks alone
set_option linter.unusedVariables false
set_option linter.unusedSimpArgs false
def seal_get.acc (l0 : List Int) (k : Nat) : Nat := (l0.take k).foldl (fun n x => (n * 256 % 4294967296) ||| (x % 4294967296).toNat) 0
def seal_get.f (l0 : List Int) : Option (Int) := if 4 ≤ l0.length then some (Pl.get4 l0 : Nat) else none
theorem u32_or_nat_ (a b : Nat) (ha : a < 4294967296) (hb : b < 4294967296) : Go.bits .or .u32 (a : Int) (b : Int) = ((a ||| b : Nat) : Int) := by
  have hx : a ||| b < 2 ^ 32 := Nat.or_lt_two_pow (by omega) (by omega)
  have e1 : (BitVec.ofInt 32 (a : Int)).toNat = a := by rw [BitVec.ofInt_natCast, BitVec.toNat_ofNat]; exact Nat.mod_eq_of_lt (by omega)
  have e2 : (BitVec.ofInt 32 (b : Int)).toNat = b := by rw [BitVec.ofInt_natCast, BitVec.toNat_ofNat]; exact Nat.mod_eq_of_lt (by omega)
  show IntKind.u32.wrap ((BitVec.ofInt 32 (a : Int) ||| BitVec.ofInt 32 (b : Int)).toNat : Int) = _
  rw [BitVec.toNat_or, e1, e2, IntKind.wrap_u32]
  omega
theorem seal_get.acc_succ (l0 : List Int) (k : Nat) (hk : k < l0.length) : ((seal_get.acc l0 (k + 1) : Nat) : Int) = Go.bits .or .u32 (((seal_get.acc l0 k : Nat) : Int) * 256 % 4294967296) ((rd l0 k) % 4294967296) := by
  have e : seal_get.acc l0 (k + 1) = (seal_get.acc l0 k * 256 % 4294967296) ||| (rd l0 k % 4294967296).toNat := by
    unfold seal_get.acc
    rw [List.take_succ_eq_append_getElem hk, List.foldl_append]
    simp [rd, List.getD_eq_getElem?_getD, List.getElem?_eq_getElem hk]
  rw [e, ← u32_or_nat_ _ _ (by omega) (by omega)]
  congr 1
  · omega
set_option maxHeartbeats 1000000 in
set_option maxRecDepth 100000 in
theorem seal_get.same (A0 : Option Addr) (c0 : Nat) (l0 : List Int) (r : Int) (w : World) (hr0 : Kd.C (Kd.int .u8) w A0 l0.length l0) (hc0 : l0.length ≤ c0) (h : seal_get.f l0 = some r) :
    Calls Try.prog 32 #[.slice A0 l0.length c0] w fun e w' => e = .returned (.int .u32 r) ∧ w' = w := by
  unfold seal_get.f at h
  split at h
  · rename_i h4
    obtain rfl := Option.some.inj h
    clear h
    obtain ⟨i03, hi03, _, hsz3, _⟩ := info_parts info5
    obtain ⟨hcut3, _, _⟩ := print_take_of (P := Try.prog) (Value.int .u8) 0 22 5 .i64 Try.underlying22 hi03 hsz3 A0 c0 l0 4 (by omega) (by omega) hc0
    have ht : (l0.take (Int.toNat 4)).length = 4 := by simp; omega
    rw [ht] at hcut3
    clear ht hi03 hsz3
    have hx : ∀ k, k < 4 → ∃ ad, A0 = some ad ∧ w.cell? (ad.add k) = some (.int .u8 (rd l0 k)) := fun k hk => by
      obtain ⟨ad, e, hc⟩ := Kd.at_int hr0 (k : Int) (by omega) (by omega)
      exact ⟨ad, e, by simpa using hc⟩
    obtain ⟨ad, rfl, _⟩ := hx 0 (by omega)
    have HX := Aside0.mk hx
    clear hx hr0 hc0
    have H4 := Aside0.mk h4
    clear h4
    go_enter Try.func32, Try.ntmps32
    go_wp2
    go_loop [2, 8] (fun n i => ∃ k : Nat, k ≤ 4 ∧ i = .int .i64 k ∧ n = .int .u32 ((seal_get.acc l0 k : Nat) : Int)) (fun _ i => 4 - (intOf i).toNat)
    case atStart => exact ⟨0, by omega, rfl, by simp [seal_get.acc]⟩
    case round =>
      obtain ⟨k, hk, rfl, rfl⟩ := hrel
      by_cases hlt : k < 4
      · obtain ⟨ad', e, hcell⟩ := HX.out k hlt
        obtain rfl : ad = ad' := by injection e
        clear e
        have HS := Aside0.mk (seal_get.acc_succ l0 k (by have := H4.out; omega))
        go_wp2
        go_round
        case rel => exact ⟨k + 1, by omega, by go_num, by rw [HS.out]⟩
        case measure => simp [intOf]; omega
      · obtain rfl : k = 4 := by omega
        go_wp2
        go_ret
        exact ⟨rfl, rfl⟩
  · exact absurd h (by simp)
end Go.Proofs.Ytfcdaifaocgjfaa.Pr
end
section
namespace Go.Proofs.Ytfcdaifaocgjfaa.Pr
open Go.RowKit Go.Proofs.YtfcdaifaocgjfaaW.PrintWords Go.Proofs.YtfcdaifaocgjfaaW.PrintLast Go.Proofs.YtfcdaifaocgjfaaW.PrintMore
attribute [local go_sem] max2_int min2_int max_two min_two max_three min_three max_four min_four   -- for this text's walks alone
set_option linter.unusedVariables false
set_option linter.unusedSimpArgs false
def seal_Open.f (l0 : List Int) (a1 : Int) : Option (List Int × Int × Int) := some (Pl.openI l0 a1)
set_option maxHeartbeats 4000000 in
set_option maxRecDepth 100000 in
theorem seal_Open.calls (A0 : Option Addr) (c0 : Nat) (l0 : List Int) (a1 : Int) (r1 : List Int) (r2 : Int) (r3 : Int) (w : World) (hr0 : Kd.C (Kd.int .u8) w A0 l0.length l0) (hc0 : l0.length ≤ c0) (h : seal_Open.f l0 a1 = some (r1, r2, r3)) :
    Calls Try.prog 19 #[.slice A0 l0.length c0, .int .i64 a1] w fun e w' => ∃ v0_ : Value, e = .returned (.tuple #[v0_, .int .i64 r2, .int .i64 r3]) ∧ Kd.R (Kd.int .u8) 5 w' w.heap.size (fun _ => True) v0_ r1 ∧ Below w.heap.size w w' := by
  have h := Option.some.inj h
  unfold Pl.openI at h
  by_cases h0 : a1 < 0
  · rw [if_pos h0] at h
    simp only [Prod.mk.injEq] at h
    obtain ⟨rfl, rfl, rfl⟩ := h
    have hd : decide (a1 < 0) = true := decide_eq_true h0
    clear hr0 hc0
    go_enter Try.func19, Try.ntmps19
    go_wp2
    go_ret3
    exact ⟨_, rfl, Kd.R_nil _ _ _ _ _, Below.refl _ _⟩
  rw [if_neg h0] at h
  have hd0 : decide (a1 < 0) = false := decide_eq_false h0
  by_cases h1 : (l0.length : Int) < a1
  · rw [if_pos h1] at h
    simp only [Prod.mk.injEq] at h
    obtain ⟨rfl, rfl, rfl⟩ := h
    have hd : decide ((l0.length : Int) < a1) = true := decide_eq_true h1
    clear hr0 hc0
    go_enter Try.func19, Try.ntmps19
    go_wp2
    go_ret3
    exact ⟨_, rfl, Kd.R_nil _ _ _ _ _, Below.refl _ _⟩
  rw [if_neg h1] at h
  have hd1 : decide ((l0.length : Int) < a1) = false := decide_eq_false h1
  obtain ⟨i0, hi, hz0, hz1, hz2⟩ := info_parts info5
  obtain ⟨A1, hcut1, hA1, hC1⟩ := print_cut_int (P := Try.prog) (k := .u8) 22 5 Try.underlying22 hi hz1 A0 c0 l0 a1 (by omega) (by omega) hc0
  have HR0 := Aside0.mk (hA1 w (Kd.reads_of_C hr0))
  have HLen := Aside0.mk (show a1 ≤ l0.length by omega)
  have HM0 := Aside0.mk (show l0.length ≤ 9223372036854775807 from hr0.2.1)
  clear hA1 h1 hr0
  generalize hrest : l0.drop a1.toNat = rest at h hcut1 hC1 HR0
  generalize hcc : c0 - a1.toNat = c1 at hcut1 hC1
  have HC1 := Aside0.mk hC1
  have HC0 := Aside0.mk hc0
  have HRE := Aside0.mk hrest
  clear hC1 hc0 hcc hrest
  have h0' : (0 : Int) ≤ a1 := by omega
  clear h0
  by_cases h8 : rest.length < 8
  · rw [if_pos h8] at h
    simp only [Prod.mk.injEq] at h
    obtain ⟨rfl, rfl, rfl⟩ := h
    have hd8 : decide ((rest.length : Int) < 8) = true := decide_eq_true (by omega)
    have hd8' : decide (rest.length < 8) = true := decide_eq_true (by omega)
    clear hi hz0 hz1 hz2
    go_enter Try.func19, Try.ntmps19
    go_wp2
    go_ret3
    exact ⟨_, rfl, Kd.R_nil _ _ _ _ _, Below.refl _ _⟩
  rw [if_neg h8] at h
  have hl8 : (8 : Int) ≤ (rest.length : Int) := by omega
  have hd8 : decide ((rest.length : Int) < 8) = false := decide_eq_false (by omega)
  have hd8' : decide (rest.length < 8) = false := decide_eq_false (by omega)
  have HM := Aside0.mk (show rest.length ≤ 9223372036854775807 from HR0.out.2.1)
  obtain ⟨A2, hcut2, hA2, hC2⟩ := print_cut_int (P := Try.prog) (k := .u8) 22 5 Try.underlying22 hi hz1 A1 c1 rest 4 (by omega) (by omega) HC1.out
  have HR2 := Aside0.mk (hA2 w HR0.out)
  have HC2 := Aside0.mk hC2
  clear hA2 hC2
  rw [show ((4 : Int)).toNat = 4 from rfl] at hcut2 HR2 HC2
  have g1 := fun W (hW : Kd.C (Kd.int .u8) W A1 rest.length rest) => seal_get.same A1 c1 rest (Pl.get4 rest : Nat) W hW HC1.out (by unfold seal_get.f; rw [if_pos (by omega)])
  have g2 := fun W (hW : Kd.C (Kd.int .u8) W A2 (rest.drop 4).length (rest.drop 4)) => seal_get.same A2 (c1 - 4) (rest.drop 4) (Pl.get4 (rest.drop 4) : Nat) W hW HC2.out (by unfold seal_get.f; rw [if_pos (by rw [List.length_drop]; omega)])
  have KC1 : ∀ n, Kd.C (Kd.int .u8) (w.drewN n) A1 rest.length rest := fun n => Kd.C_of_reads HR0.out
  have KC2 : ∀ n, Kd.C (Kd.int .u8) (w.drewN n) A2 (rest.drop 4).length (rest.drop 4) := fun n => Kd.C_of_reads HR2.out
  have G1 := Aside0.mk (fun n => g1 (w.drewN n) (KC1 n))
  have G2 := Aside0.mk (fun n => g2 (w.drewN n) (KC2 n))
  clear g1 g2 KC1 KC2
  have hg1 : Pl.get4 rest < 4294967296 := Pl.get4_lt _
  have hg2 : Pl.get4 (rest.drop 4) < 4294967296 := Pl.get4_lt _
  generalize hn : Pl.get4 rest = n at h hg1 G1
  generalize hs : Pl.get4 (rest.drop 4) = s at h hg2 G2
  have HE := Aside0.mk (And.intro hn hs)
  clear hn hs
  generalize hrest4 : rest.drop 4 = rest4 at hcut2 G2
  have HR4 := Aside0.mk hrest4
  clear hrest4
  go_enter Try.func19, Try.ntmps19
  go_wp2
  go_quiet ((go_at_call 32; first | (with_reducible exact Calls.quiet_of_same (G1.out _)) | (with_reducible exact Calls.quiet_of_same (G2.out _))))
  by_cases h9 : 65536 < n
  · rw [if_pos h9] at h
    simp only [Prod.mk.injEq] at h
    obtain ⟨rfl, rfl, rfl⟩ := h
    have hd9 : decide ((65536 : Int) < (n : Int)) = true := decide_eq_true (by omega)
    clear hi hz0 hz1 hz2 G1 G2
    go_wp2
    go_ret3
    exact ⟨_, rfl, Kd.R_nil _ _ _ _ _, pw_below_drewN (Below.refl _ _) _⟩
  rw [if_neg h9] at h
  have hd9 : decide ((65536 : Int) < (n : Int)) = false := decide_eq_false (by omega)
  by_cases h10 : rest.length - 8 < n
  · rw [if_pos h10] at h
    simp only [Prod.mk.injEq] at h
    obtain ⟨rfl, rfl, rfl⟩ := h
    have hd10 : decide ((rest.length : Int) - 8 < (n : Int)) = true := decide_eq_true (by omega)
    have hm := HM.out
    clear hi hz0 hz1 hz2 G1 G2
    go_wp2
    go_ret3
    exact ⟨_, rfl, Kd.R_nil _ _ _ _ _, pw_below_drewN (Below.refl _ _) _⟩
  rw [if_neg h10] at h
  have hd10 : decide ((rest.length : Int) - 8 < (n : Int)) = false := decide_eq_false (by omega)
  have hm := HM.out
  obtain ⟨A3, hcut3, hA3, hC3⟩ := print_mid_int (P := Try.prog) (k := .u8) 22 5 Try.underlying22 hi hz1 A1 c1 rest 8 (8 + n) (by omega) (by omega) (by omega) HC1.out
  have hmid : (rest.take (8 + (n : Int)).toNat).drop (8 : Int).toNat = (rest.drop 8).take n := by
    rw [show (8 + (n : Int)).toNat = 8 + n by omega, show (8 : Int).toNat = 8 from rfl, List.drop_take, Nat.add_sub_cancel_left]
  have hR3 := hA3 w HR0.out
  rw [hmid] at hcut3 hC3 hR3
  have hlb : ((rest.drop 8).take n).length = n := by rw [List.length_take, List.length_drop]; omega
  clear hmid hA3 hi hz0 hz1 hz2 G1 G2
  rw [show (8 : Int).toNat = 8 from rfl] at hcut3 hC3
  generalize hbody : (rest.drop 8).take n = body at h hcut3 hC3 hR3 hlb
  have HR3 := Aside0.mk hR3
  have HC3 := Aside0.mk hC3
  have HBo := Aside0.mk hbody
  have HLB := Aside0.mk hlb
  clear hbody hR3 hC3 hlb
  go_wp2_with fail
  refine (slices_Clone_byte_byte.calls A3 (c1 - 8) body body (w.drewN nq) (Kd.C_of_reads (HR3.out.drewN nq)) HC3.out (by unfold slices_Clone_byte_byte.f; rw [if_pos (by have := HLB.out; omega)])).mono ?_
  rintro e w2 ⟨v2, rfl, ho2, hb2⟩
  obtain ⟨AB, cB, rfl, hcB, hCB⟩ := Kd.R_reads ho2
  have H2 := Aside0.mk (show Kd.R (Kd.int .u8) 5 w2 w.heap.size (fun _ => True) (.slice AB body.length cB) body from ho2)
  have B2 := Aside0.mk (show Below w.heap.size w w2 from below_step (pw_below_drewN (Below.refl _ _) _) hb2)
  have HCB := Aside0.mk hcB
  have HKB := Aside0.mk hCB
  clear ho2 hb2 hcB hCB
  go_wp2_with fail
  refine (seal_Sum.calls AB cB body (Pl.sumI body) _ HKB.out HCB.out rfl).mono ?_
  rintro e w3 ⟨rfl, hb3⟩
  have H3 := Aside0.mk (Kd.R_below H2.out hb3)
  have B3 := Aside0.mk (below_step B2.out hb3)
  clear hb3 H2 B2
  by_cases h11 : Pl.sumI body = (s : Int)
  · rw [if_pos h11] at h
    simp only [Prod.mk.injEq] at h
    obtain ⟨rfl, rfl, rfl⟩ := h
    have hd11 : (Pl.sumI body != (s : Int)) = false := by rw [bne_eq_false_iff_eq]; exact h11
    have H11 := Aside0.mk h11
    clear h11
    have hbnd : a1 + 8 + (n : Int) ≤ 9223372036854775807 := by
      have h1 := HRE.out
      have h2 := HLen.out
      have h3 := HM0.out
      have h4 : rest.length = l0.length - a1.toNat := by rw [← h1, List.length_drop]
      omega
    go_wp2
    go_ret3
    exact ⟨_, rfl, H3.out, B3.out⟩
  · rw [if_neg h11] at h
    simp only [Prod.mk.injEq] at h
    obtain ⟨rfl, rfl, rfl⟩ := h
    have hd11 : (Pl.sumI body != (s : Int)) = true := by rw [bne_iff_ne]; exact h11
    go_wp2
    go_ret3
    exact ⟨_, rfl, Kd.R_nil _ _ _ _ _, B3.out⟩
end Go.Proofs.Ytfcdaifaocgjfaa.Pr
end
section
namespace Go.Proofs.Ytfcdaifaocgjfaa.Ra
open Go.RowKit Go.Proofs.YtfcdaifaocgjfaaW.PrintWords Go.Proofs.YtfcdaifaocgjfaaW.PrintLast Go.Proofs.YtfcdaifaocgjfaaW.PrintMore
theorem wpIn_rangeFunc_law {X : Type} {P : Program} {n : Nat} {g : Operand} {ps : Array Tmp} {assign body : Code} {Q : Exit → Act → World → Prop} {a : Act} {w : World}
    {gf : Nat} {lb : Array Value} (D : Nat) (hD : w.heap.size = D) (hg : a.eval g = .func (.func gf) #[] lb) (eg : ∀ args w, (callFunc gf args).run P w = .ok (.enter gf args) w) (enc : X → Array Value) (hps : ∀ x, (enc x).size = ps.size)
    (Pre : X → World → Prop) (Rd : X → World → World → Prop) (Fin : World → Prop)
    (hround : ∀ (rdy bsy : Obj) (m : Nat) (x : X) (W : World), Pre x W → W.heap[D + 1]? = some rdy →
      assign.wpIn (Fence.wide.inRound (D + 1)) m P (Exit.then (fun a₁ W1 => W1.heap[D + 1]? = some rdy ∧
        body.wpIn (Fence.wide.inRound (D + 1)) m P (fun e _ W3 => e = .normal ∧ W3.heap[D + 1]? = some bsy ∧ Rd x W (W3.putObj (D + 1) rdy)) a₁ (W1.putObj (D + 1) bsy)) (fun _ _ _ => False))
        { tmps := (ps.zip (enc x)).foldl (fun t (p, v) => t.setIfInBounds p v) a.tmps, defers := [] } W)
    (hiter : ∀ (rdy : Obj) (m : Nat), (∀ m x W, Pre x W → W.heap[D + 1]? = some rdy → YieldAt Fence.wide m P (D + 1) (enc x) W (fun e W' => e = .returned (.bool true) ∧ W'.heap[D + 1]? = some rdy ∧ Rd x W W')) →
      CallsIn Fence.wide m P gf (#[.func (.yield (D + 1)) #[] #[]] ++ lb) ((w.alloc (.deferred (some []))).alloc rdy) (fun e W => (∃ v, e = .returned v) ∧ W.heap[D + 1]? = some rdy ∧ Fin W))
    (hdone : ∀ (o : Obj) (W : World), Fin W → Q .normal { a with defers := { target := .collected D, args := #[] } :: a.defers } (W.putObj (D + 1) o)) :
    (Code.rangeFunc g ps assign body).wpIn Fence.wide n P Q a w := by
  subst hD
  refine wpIn_rangeFunc ?_
  intro fn hfn
  obtain ⟨rec, hrec⟩ : ∃ rec : LoopState → Loop, rec = fun st => { state := st, pending := none, fn, tmps := a.tmps, params := ps, assign, body, defers := w.heap.size } := ⟨_, rfl⟩
  obtain ⟨W1, hW1⟩ : ∃ W1, (w.alloc (.deferred (some []))).alloc (.loop (rec .ready)) = W1 := ⟨_, rfl⟩
  refine ⟨w.heap.size + 1, [{ target := .collected w.heap.size, args := #[] }], W1, { target := .fn (.func gf) lb, args := #[.func (.yield (w.heap.size + 1)) #[] #[]] }, W1, gf,
    #[.func (.yield (w.heap.size + 1)) #[] #[]] ++ lb, W1, ?_, ?_, fun _ _ => trivial, ?_, fun h => by simp [Fence.wide] at h, ?_⟩
  · rw [← hW1, hrec]; exact run_enterLoop_outer _ _ _ _ _
  · simp only [resolve, hg]
    simp [go_sem]
  · simp [invoke, go_sem, eg]
  rw [← hW1]
  refine (hiter (.loop (rec .ready)) (n - 1) ?_).mono ?_
  · intro m x W hp hl
    have hy := run_yield (P := P) (args := enc x) hl (by rw [hrec]; exact hps x)
    rw [hrec] at hy
    refine ⟨fn, _, assign, body, hy, roundIn_of_wpIn (n := m) hfn (wpIn_mono (hround (.loop (rec .ready)) (.loop (rec .busy)) m x W hp hl) ?_)⟩
    intro e a₁ Wa hq
    cases e with
    | normal =>
      obtain ⟨hl1, hb⟩ := hq
      refine ⟨_, run_beginRound hl1 (by rw [hrec]), ?_⟩
      have : (Obj.loop { rec .ready with state := .busy }) = .loop (rec .busy) := by rw [hrec]
      rw [this]
      refine wpIn_mono hb ?_
      rintro e2 a2 W3 ⟨rfl, hl3, hR⟩
      have hend := run_endRound (P := P) none hl3
      have : (Obj.loop { rec .busy with state := if (none : Option Code).isNone then .ready else .done, pending := none }) = .loop (rec .ready) := by rw [hrec]; rfl
      rw [this] at hend
      exact ⟨_, _, hend, rfl, World.putObj_heap_same (Array.getElem?_eq_some_iff.1 hl3).1, hR⟩
    | ret => exact hq.elim
    | exit id => exact hq.elim
    | goto t => exact hq.elim
    | panic ch => exact hq.elim
    | outgrown => exact hq.elim
  · rintro e W2 ⟨⟨v, rfl⟩, hl, hF⟩
    have hend := run_endLoop (P := P) hl (by rw [hrec]; simp)
    have hpe : (rec LoopState.ready).pending = none := by rw [hrec]
    rw [hpe] at hend
    exact ⟨none, _, hend, hdone _ _ hF⟩
/-- append(v, x) to a row of one's own, as a run. -/
theorem S_append_run {α : Type} {P : Program} (d : Kd α) {W : World} (base : Nat) (t ty e : TypeId) (z : Value) (bytes : Nat)
    (ht : P.underlying t = some (.slice e)) (hinfo : (P.info? e).map (fun i => (i.zero, i.size, i.bytes)) = some (some z, d.sz, bytes)) (hz : z.cells.size = d.sz) (hs0 : 0 < d.sz) (hb0 : 0 < bytes)
    (v : Value) (xs : List α) (p : α) (cs : List Value) (ok okp : Nat → Prop) (hp : d.M W base okp p cs) (hokp : ∀ k, okp k → ok k ∧ some k ≠ v.ownBlock) (hfresh : ∀ k, W.heap.size ≤ k → ok k)
    (HO : Kd.S d e W base (fun k => ok k ∧ ¬ okp k) v xs) (hbase : base ≤ W.heap.size) (hl : (xs.length + 1) * bytes ≤ 140737488355328) :
    ∃ v1 w1, (Builtin.append_ #[t, t] ty #[v, .slice (some ⟨W.heap.size, 0, none⟩) 1 1]).run P (W.alloc (.cells cs.toArray e)) = .ok v1 w1 ∧ Kd.S d e w1 base ok v1 (xs ++ [p]) ∧ W.grownBy w1 v.ownBlock := by
  obtain ⟨f, hf, hR⟩ := Kd.S_tag HO xs.length okp (fun _ hk h2 => h2.2 hk)
  have hpt : (Kd.tag f d).M W base okp (p, xs.length) cs := d.M_mono (fun k hk => ⟨hk, hf k hk⟩) hp
  obtain ⟨h0, inner, hown, hr⟩ := Kd.R_mono hR (fun _ hk => hk.1)
  obtain ⟨i0, hi, hzz⟩ := Option.map_eq_some_iff.1 hinfo
  simp only [Prod.mk.injEq] at hzz
  obtain ⟨hz0, hz1, hz2⟩ := hzz
  have hnb : xs.length + 1 ≤ 140737488355328 := Nat.le_trans (Nat.le_mul_of_pos_right _ hb0) hl
  have hcl : cs.length = d.sz := d.K_len (d.K_of_M hp)
  have hlz : xs.zipIdx.length = xs.length := List.length_zipIdx
  rw [hlz] at hown
  obtain ⟨v1, w1, hrun, hown1, hg1, _, hat⟩ := run_append_own_at (P := P) (w := W.alloc (.cells cs.toArray e)) base t ty e i0 z d.sz bytes ht hi hz0 hz1 hz2 hz hs0 v xs.length inner (hown.alloc _) ⟨W.heap.size, 0, none⟩ 1 1 cs
    (by rw [hcl]; simp) (by simpa using World.news_of_block (cs := cs.toArray) (t := e) (fr := (0, 0)) (heap_alloc_new W (.cells cs.toArray e))) (d.K_one (d.K_of_M hp)) (by simp only [maxLen]; omega) hl (by simp; omega)
  have hg2 : W.grownBy w1 v.ownBlock := World.grownBy.trans (World.grownBy_alloc W _ _) hg1
  have hat2 : v1.ownBlock = v.ownBlock ∨ ∃ b, v1.ownBlock = some b ∧ W.heap.size ≤ b := by
    rcases hat with hat | hat
    · exact .inl hat
    · exact .inr ⟨_, hat, by simp⟩
  refine ⟨v1, w1, hrun, ⟨f, ?_⟩, hg2⟩
  rw [Kd.zip_snoc]
  exact Kd.R_appended (d := Kd.tag f d) (okp := okp) h0 hr hpt hokp hfresh (by rw [hlz]; exact hown1) hg2 hat2
/-- An append whose run is known, inside a fence. -/
theorem wpListIn_append_run {F : Fence} {n : Nat} {P : Program} {w w1 : World} {ops : Array Oper} {rest : List Oper} {o : Oper} {a : Act} {Q : Exit → Act → World → Prop} {v x v1 : Value}
    (hg : o.guard = none) (s y : Operand) (t : TypeId) (hop : o.op = Op.call { callee := Callee.builtin Builtin.append, args := #[s, y], argTypes := #[t, t] })
    (hs : a.eval s = v) (hx : a.eval y = x) (hrun : (Builtin.append_ #[t, t] o.type #[v, x]).run P w = .ok v1 w1) (hK : wpListIn F n P ops Q rest (a.put o.dst v1) w1) :
    wpListIn F n P ops Q (o :: rest) a w := by
  refine wpListIn_plain hg fun K hK' => ?_
  unfold Oper.wpIn
  refine ⟨?_, ?_⟩
  · simp [Oper.about, hop, resolve, Target.leads, Sem.run_pure]
  · rw [Oper.semAt_plain F _ _ (by rw [hop]; intro c hc'; cases hc')]
    simp [execOp, hop, resolve, invoke, builtin, hs, hx, hrun, Result.andThen]
    exact hK' _ _ hK
end Go.Proofs.Ytfcdaifaocgjfaa.Ra
end
