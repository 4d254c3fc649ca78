/- Parts of the proof of JournalBack; no condition. -/
import Derived.RangeFuncNested
import Derived.RangeFuncLeaves
import Derived.RangeFuncGives
import Derived.WalkKit
import Derived.OwnWalkIn
import Derived.TacticsInMore
import Derived.LoopIn
import Derived.Sort.LoopGhostIn
import Derived.Test.YtfcdaifaocgjfaaGa0
import Derived.Test.YtfcdaifaocgjfaaPla
section
namespace Go.Proofs.Ytfcdaifaocgjfaa.Ra
open Go.RowKit Go.Proofs.YtfcdaifaocgjfaaW.PrintWords Go.Proofs.YtfcdaifaocgjfaaW.PrintLast Go.Proofs.YtfcdaifaocgjfaaW.PrintMore
theorem wpIn_rangeFunc_law {X : Type} {P : Program} {n : Nat} {g : Operand} {ps : Array Tmp} {assign body : Code} {Q : Exit → Act → World → Prop} {a : Act} {w : World}
    {gf : Nat} {lb : Array Value} (D : Nat) (hD : w.heap.size = D) (hg : a.eval g = .func (.func gf) #[] lb) (eg : ∀ args w, (callFunc gf args).run P w = .ok (.enter gf args) w) (enc : X → Array Value) (hps : ∀ x, (enc x).size = ps.size)
    (Pre : X → World → Prop) (Rd : X → World → World → Prop) (Fin : World → Prop)
    (hround : ∀ (rdy bsy : Obj) (m : Nat) (x : X) (W : World), Pre x W → W.heap[D + 1]? = some rdy →
      assign.wpIn (Fence.wide.inRound (D + 1)) m P (Exit.then (fun a₁ W1 => W1.heap[D + 1]? = some rdy ∧
        body.wpIn (Fence.wide.inRound (D + 1)) m P (fun e _ W3 => e = .normal ∧ W3.heap[D + 1]? = some bsy ∧ Rd x W (W3.putObj (D + 1) rdy)) a₁ (W1.putObj (D + 1) bsy)) (fun _ _ _ => False))
        { tmps := (ps.zip (enc x)).foldl (fun t (p, v) => t.setIfInBounds p v) a.tmps, defers := [] } W)
    (hiter : ∀ (rdy : Obj) (m : Nat), (∀ m x W, Pre x W → W.heap[D + 1]? = some rdy → YieldAt Fence.wide m P (D + 1) (enc x) W (fun e W' => e = .returned (.bool true) ∧ W'.heap[D + 1]? = some rdy ∧ Rd x W W')) →
      CallsIn Fence.wide m P gf (#[.func (.yield (D + 1)) #[] #[]] ++ lb) ((w.alloc (.deferred (some []))).alloc rdy) (fun e W => (∃ v, e = .returned v) ∧ W.heap[D + 1]? = some rdy ∧ Fin W))
    (hdone : ∀ (o : Obj) (W : World), Fin W → Q .normal { a with defers := { target := .collected D, args := #[] } :: a.defers } (W.putObj (D + 1) o)) :
    (Code.rangeFunc g ps assign body).wpIn Fence.wide n P Q a w := by
  subst hD
  refine wpIn_rangeFunc ?_
  intro fn hfn
  obtain ⟨rec, hrec⟩ : ∃ rec : LoopState → Loop, rec = fun st => { state := st, pending := none, fn, tmps := a.tmps, params := ps, assign, body, defers := w.heap.size } := ⟨_, rfl⟩
  obtain ⟨W1, hW1⟩ : ∃ W1, (w.alloc (.deferred (some []))).alloc (.loop (rec .ready)) = W1 := ⟨_, rfl⟩
  refine ⟨w.heap.size + 1, [{ target := .collected w.heap.size, args := #[] }], W1, { target := .fn (.func gf) lb, args := #[.func (.yield (w.heap.size + 1)) #[] #[]] }, W1, gf,
    #[.func (.yield (w.heap.size + 1)) #[] #[]] ++ lb, W1, ?_, ?_, fun _ _ => trivial, ?_, fun h => by simp [Fence.wide] at h, ?_⟩
  · rw [← hW1, hrec]; exact run_enterLoop_outer _ _ _ _ _
  · simp only [resolve, hg]
    simp [go_sem]
  · simp [invoke, go_sem, eg]
  rw [← hW1]
  refine (hiter (.loop (rec .ready)) (n - 1) ?_).mono ?_
  · intro m x W hp hl
    have hy := run_yield (P := P) (args := enc x) hl (by rw [hrec]; exact hps x)
    rw [hrec] at hy
    refine ⟨fn, _, assign, body, hy, roundIn_of_wpIn (n := m) hfn (wpIn_mono (hround (.loop (rec .ready)) (.loop (rec .busy)) m x W hp hl) ?_)⟩
    intro e a₁ Wa hq
    cases e with
    | normal =>
      obtain ⟨hl1, hb⟩ := hq
      refine ⟨_, run_beginRound hl1 (by rw [hrec]), ?_⟩
      have : (Obj.loop { rec .ready with state := .busy }) = .loop (rec .busy) := by rw [hrec]
      rw [this]
      refine wpIn_mono hb ?_
      rintro e2 a2 W3 ⟨rfl, hl3, hR⟩
      have hend := run_endRound (P := P) none hl3
      have : (Obj.loop { rec .busy with state := if (none : Option Code).isNone then .ready else .done, pending := none }) = .loop (rec .ready) := by rw [hrec]; rfl
      rw [this] at hend
      exact ⟨_, _, hend, rfl, World.putObj_heap_same (Array.getElem?_eq_some_iff.1 hl3).1, hR⟩
    | ret => exact hq.elim
    | exit id => exact hq.elim
    | goto t => exact hq.elim
    | panic ch => exact hq.elim
    | outgrown => exact hq.elim
  · rintro e W2 ⟨⟨v, rfl⟩, hl, hF⟩
    have hend := run_endLoop (P := P) hl (by rw [hrec]; simp)
    have hpe : (rec LoopState.ready).pending = none := by rw [hrec]
    rw [hpe] at hend
    exact ⟨none, _, hend, hdone _ _ hF⟩
/-- append(v, x) to a row of one's own, as a run. -/
theorem S_append_run {α : Type} {P : Program} (d : Kd α) {W : World} (base : Nat) (t ty e : TypeId) (z : Value) (bytes : Nat)
    (ht : P.underlying t = some (.slice e)) (hinfo : (P.info? e).map (fun i => (i.zero, i.size, i.bytes)) = some (some z, d.sz, bytes)) (hz : z.cells.size = d.sz) (hs0 : 0 < d.sz) (hb0 : 0 < bytes)
    (v : Value) (xs : List α) (p : α) (cs : List Value) (ok okp : Nat → Prop) (hp : d.M W base okp p cs) (hokp : ∀ k, okp k → ok k ∧ some k ≠ v.ownBlock) (hfresh : ∀ k, W.heap.size ≤ k → ok k)
    (HO : Kd.S d e W base (fun k => ok k ∧ ¬ okp k) v xs) (hbase : base ≤ W.heap.size) (hl : (xs.length + 1) * bytes ≤ 140737488355328) :
    ∃ v1 w1, (Builtin.append_ #[t, t] ty #[v, .slice (some ⟨W.heap.size, 0, none⟩) 1 1]).run P (W.alloc (.cells cs.toArray e)) = .ok v1 w1 ∧ Kd.S d e w1 base ok v1 (xs ++ [p]) ∧ W.grownBy w1 v.ownBlock := by
  obtain ⟨f, hf, hR⟩ := Kd.S_tag HO xs.length okp (fun _ hk h2 => h2.2 hk)
  have hpt : (Kd.tag f d).M W base okp (p, xs.length) cs := d.M_mono (fun k hk => ⟨hk, hf k hk⟩) hp
  obtain ⟨h0, inner, hown, hr⟩ := Kd.R_mono hR (fun _ hk => hk.1)
  obtain ⟨i0, hi, hzz⟩ := Option.map_eq_some_iff.1 hinfo
  simp only [Prod.mk.injEq] at hzz
  obtain ⟨hz0, hz1, hz2⟩ := hzz
  have hnb : xs.length + 1 ≤ 140737488355328 := Nat.le_trans (Nat.le_mul_of_pos_right _ hb0) hl
  have hcl : cs.length = d.sz := d.K_len (d.K_of_M hp)
  have hlz : xs.zipIdx.length = xs.length := List.length_zipIdx
  rw [hlz] at hown
  obtain ⟨v1, w1, hrun, hown1, hg1, _, hat⟩ := run_append_own_at (P := P) (w := W.alloc (.cells cs.toArray e)) base t ty e i0 z d.sz bytes ht hi hz0 hz1 hz2 hz hs0 v xs.length inner (hown.alloc _) ⟨W.heap.size, 0, none⟩ 1 1 cs
    (by rw [hcl]; simp) (by simpa using World.news_of_block (cs := cs.toArray) (t := e) (fr := (0, 0)) (heap_alloc_new W (.cells cs.toArray e))) (d.K_one (d.K_of_M hp)) (by simp only [maxLen]; omega) hl (by simp; omega)
  have hg2 : W.grownBy w1 v.ownBlock := World.grownBy.trans (World.grownBy_alloc W _ _) hg1
  have hat2 : v1.ownBlock = v.ownBlock ∨ ∃ b, v1.ownBlock = some b ∧ W.heap.size ≤ b := by
    rcases hat with hat | hat
    · exact .inl hat
    · exact .inr ⟨_, hat, by simp⟩
  refine ⟨v1, w1, hrun, ⟨f, ?_⟩, hg2⟩
  rw [Kd.zip_snoc]
  exact Kd.R_appended (d := Kd.tag f d) (okp := okp) h0 hr hpt hokp hfresh (by rw [hlz]; exact hown1) hg2 hat2
/-- An append whose run is known, inside a fence. -/
theorem wpListIn_append_run {F : Fence} {n : Nat} {P : Program} {w w1 : World} {ops : Array Oper} {rest : List Oper} {o : Oper} {a : Act} {Q : Exit → Act → World → Prop} {v x v1 : Value}
    (hg : o.guard = none) (s y : Operand) (t : TypeId) (hop : o.op = Op.call { callee := Callee.builtin Builtin.append, args := #[s, y], argTypes := #[t, t] })
    (hs : a.eval s = v) (hx : a.eval y = x) (hrun : (Builtin.append_ #[t, t] o.type #[v, x]).run P w = .ok v1 w1) (hK : wpListIn F n P ops Q rest (a.put o.dst v1) w1) :
    wpListIn F n P ops Q (o :: rest) a w := by
  refine wpListIn_plain hg fun K hK' => ?_
  unfold Oper.wpIn
  refine ⟨?_, ?_⟩
  · simp [Oper.about, hop, resolve, Target.leads, Sem.run_pure]
  · rw [Oper.semAt_plain F _ _ (by rw [hop]; intro c hc'; cases hc')]
    simp [execOp, hop, resolve, invoke, builtin, hs, hx, hrun, Result.andThen]
    exact hK' _ _ hK
end Go.Proofs.Ytfcdaifaocgjfaa.Ra
end
section
namespace Go.Proofs.Ytfcdaifaocgjfaa.Pr
open Go.RowKit Go.Proofs.YtfcdaifaocgjfaaW.PrintWords Go.Proofs.YtfcdaifaocgjfaaW.PrintLast Go.Proofs.YtfcdaifaocgjfaaW.PrintMore
attribute [local go_sem] max2_int min2_int max_two min_two max_three min_three max_four min_four   -- for this text's walks alone
set_option linter.unusedVariables false
set_option linter.unusedSimpArgs false
attribute [local go_sem] Oper.semAt_some
def seal_Scan.f (l0 : List Int) : Option (List (List Int) × Int) := if l0.length ≤ 1000000000000 then some (Pl.scanI l0) else none
/-- Between two steps of the loop: what Scan's two results hold, the box of frames, the two blocks of book-keeping. -/
structure seal_Scan.Mid (A0 : Option Addr) (c0 : Nat) (l0 : List Int) (w : World) (ok : Nat → Prop) (z : List (List Int)) (x : Int) (W : World) : Prop where
  v : ∃ v, W.cell? ⟨w.heap.size, 0, none⟩ = some v ∧ Kd.S (Kd.slice 5 (Kd.int .u8)) 22 W (w.heap.size + 5) (fun k => w.heap.size + 5 ≤ k ∧ ok k) v z
  f : W.frozen? ⟨w.heap.size, 0, none⟩ = false
  c2 : W.cell? ⟨w.heap.size + 1, 0, none⟩ = some (.int .i64 x)
  f2 : W.frozen? ⟨w.heap.size + 1, 0, none⟩ = false
  c3 : W.cell? ⟨w.heap.size + 2, 0, none⟩ = some (.slice A0 l0.length c0)
  D : W.heap[w.heap.size + 3]? = some (.deferred (some []))
  hb : Below w.heap.size w W
  sz : w.heap.size + 5 ≤ W.heap.size
theorem seal_Scan.Mid.move {A0 : Option Addr} {c0 : Nat} {l0 : List Int} {w : World} {ok ok' : Nat → Prop} {z : List (List Int)} {x : Int} {W W' : World} (h : seal_Scan.Mid A0 c0 l0 w ok z x W) (hb : Below W.heap.size W W') (hok : ∀ k, k < W.heap.size → ok k → ok' k) : seal_Scan.Mid A0 c0 l0 w ok' z x W' := by
  have hsz := h.sz
  obtain ⟨v, hv, hS⟩ := h.v
  have e : ∀ k, k < W.heap.size → W'.heap[k]? = W.heap[k]? := fun k hk => hb.block k hk
  refine ⟨⟨v, (World.cell?_of_block (e _ (by first | (simp; done) | (simp; omega)))).trans hv, Kd.S_mono (Kd.S_below (Kd.S_bound hS) hb) (fun k hk => ⟨hk.1.1, hok k hk.2.2.1 hk.1.2⟩)⟩, (World.frozen?_of_block (e _ (by first | (simp; done) | (simp; omega)))).trans h.f, (World.cell?_of_block (e _ (by first | (simp; done) | (simp; omega)))).trans h.c2, (World.frozen?_of_block (e _ (by first | (simp; done) | (simp; omega)))).trans h.f2, (World.cell?_of_block (e _ (by first | (simp; done) | (simp; omega)))).trans h.c3, (e _ (by omega)).trans h.D, below_step h.hb hb, Nat.le_trans hsz hb.size⟩
/-- What a round leaves: the element appended, the number put. -/
theorem seal_Scan.Mid.put {A0 : Option Addr} {c0 : Nat} {l0 : List Int} {w : World} {rdy bsy : Obj} {ok ok' : Nat → Prop} {z z' : List (List Int)} {x x' : Int} {W w6 : World} {v v1 : Value} (h : seal_Scan.Mid A0 c0 l0 w ok z x W)
    (hg : (W.putObj (w.heap.size + 3 + 1) bsy).grownBy w6 v.ownBlock) (hv : ∀ k, v.ownBlock = some k → w.heap.size + 5 ≤ k)
    (hS : Kd.S (Kd.slice 5 (Kd.int .u8)) 22 w6 (w.heap.size + 5) (fun k => w.heap.size + 5 ≤ k ∧ ok' k) v1 z') :
    seal_Scan.Mid A0 c0 l0 w ok' z' x' (((w6.setCell ⟨w.heap.size, 0, none⟩ v1).setCell ⟨w.heap.size + 1, 0, none⟩ (.int .i64 x')).putObj (w.heap.size + 3 + 1) rdy) := by
  have hsz := h.sz
  have hsp : (W.putObj (w.heap.size + 3 + 1) bsy).heap.size = W.heap.size := by simp
  have hk6 : ∀ k, k < w.heap.size + 5 → k ≠ w.heap.size + 3 + 1 → w6.heap[k]? = W.heap[k]? := fun k hk hne =>
    (hg.block k (by omega) (fun e => by have := hv k e.symm; omega)).trans (World.putObj_heap_other hne)
  have hs6 := hg.size
  obtain ⟨u, hu, _⟩ := h.v
  obtain ⟨W7, hW7⟩ : ∃ W7, ((w6.setCell ⟨w.heap.size, 0, none⟩ v1).setCell ⟨w.heap.size + 1, 0, none⟩ (.int .i64 x')) = W7 := ⟨_, rfl⟩
  have hk7 : ∀ k, k ≠ w.heap.size → k ≠ w.heap.size + 1 → W7.heap[k]? = w6.heap[k]? := fun k h1 h2 => by
    rw [← hW7]; exact (Below.heap_setCell _ _ _ _ h2).trans (Below.heap_setCell _ _ _ _ h1)
  obtain ⟨W8, hW8⟩ : ∃ W8, W7.putObj (w.heap.size + 3 + 1) rdy = W8 := ⟨_, rfl⟩
  have hk8 : ∀ k, k ≠ w.heap.size + 3 + 1 → W8.heap[k]? = W7.heap[k]? := fun k hk => by rw [← hW8]; exact World.putObj_heap_other hk
  have hs7 : W7.heap.size = w6.heap.size := by rw [← hW7]; simp
  have hs8 : W8.heap.size = W7.heap.size := by rw [← hW8]; simp
  have hc6 : w6.cell? ⟨w.heap.size, 0, none⟩ = some u := (World.cell?_of_block (hk6 _ (by simp) (by simp <;> omega))).trans hu
  have hd6 : w6.cell? ⟨w.heap.size + 1, 0, none⟩ = some (.int .i64 x) := (World.cell?_of_block (hk6 _ (by simp) (by simp))).trans h.c2
  have hc7 : W7.cell? ⟨w.heap.size, 0, none⟩ = some v1 := by
    rw [← hW7]; exact (World.cell?_of_block (Below.heap_setCell _ _ _ _ (by simp))).trans (World.cell?_setCell_same' _ _ _ (by rw [hc6]; rfl))
  have hd7 : W7.cell? ⟨w.heap.size + 1, 0, none⟩ = some (.int .i64 x') := by
    rw [← hW7]; exact World.cell?_setCell_same' _ _ _ (by rw [(World.cell?_of_block (Below.heap_setCell _ _ _ _ (by simp))).trans hd6]; rfl)
  have hf7 : W7.frozen? ⟨w.heap.size, 0, none⟩ = false := by
    rw [← hW7, World.frozen?_setCell, World.frozen?_setCell]; exact (World.frozen?_of_block (hk6 _ (by simp) (by simp <;> omega))).trans h.f
  have hf7' : W7.frozen? ⟨w.heap.size + 1, 0, none⟩ = false := by
    rw [← hW7, World.frozen?_setCell, World.frozen?_setCell]; exact (World.frozen?_of_block (hk6 _ (by simp) (by simp))).trans h.f2
  rw [hW7, hW8]
  have hb6 : Below w.heap.size w w6 := ((h.hb.grown (grownBy_putObj' W _ bsy) h.hb.size (fun k e => by cases e; omega)).grown hg (by have := h.hb.size; omega) (fun k e => by have := hv k e; omega))
  have hb8 : Below w.heap.size w W8 := by
    rw [← hW8, ← hW7]
    exact ((hb6.setCell (by simp) _).setCell (by simp) _).grown (grownBy_putObj' _ _ rdy) (by have := hb6.size; simpa using this) (fun k e => by cases e; omega)
  exact ⟨⟨v1, (World.cell?_of_block (hk8 _ (by simp <;> omega))).trans hc7, Kd.S_step hS (fun k hk _ => (hk8 k (by omega)).trans (hk7 k (by omega) (by omega)))⟩,
    (World.frozen?_of_block (hk8 _ (by simp <;> omega))).trans hf7, (World.cell?_of_block (hk8 _ (by simp))).trans hd7, (World.frozen?_of_block (hk8 _ (by simp))).trans hf7',
    (World.cell?_of_block ((hk8 _ (by simp)).trans ((hk7 _ (by simp) (by simp)).trans (hk6 _ (by simp) (by simp))))).trans h.c3,
    (hk8 _ (by omega)).trans ((hk7 _ (by omega) (by omega)).trans ((hk6 _ (by omega) (by omega)).trans h.D)), hb8, by omega⟩
theorem seal_Scan.open_ok (l : List Int) (x : Int) (h : (Pl.openI l x).2.2 = 0) : x + 8 ≤ (Pl.openI l x).2.1 ∧ (Pl.openI l x).2.1 ≤ l.length := by
  unfold Pl.openI at h ⊢
  by_cases h0 : x < 0
  · rw [if_pos h0] at h; simp at h
  rw [if_neg h0] at h ⊢
  by_cases h1 : (l.length : Int) < x
  · rw [if_pos h1] at h; simp at h
  rw [if_neg h1] at h ⊢
  by_cases h2 : (l.drop x.toNat).length < 8
  · rw [if_pos h2] at h; simp at h
  rw [if_neg h2] at h ⊢
  by_cases h3 : 65536 < Pl.get4 (l.drop x.toNat)
  · rw [if_pos h3] at h; simp at h
  rw [if_neg h3] at h ⊢
  by_cases h4 : (l.drop x.toNat).length - 8 < Pl.get4 (l.drop x.toNat)
  · rw [if_pos h4] at h; simp at h
  rw [if_neg h4] at h ⊢
  by_cases h5 : Pl.sumI (((l.drop x.toNat).drop 8).take (Pl.get4 (l.drop x.toNat))) = Pl.get4 ((l.drop x.toNat).drop 4)
  · rw [if_pos h5]
    have hlen : (l.drop x.toNat).length = l.length - x.toNat := List.length_drop
    show x + 8 ≤ x + 8 + _ ∧ x + 8 + _ ≤ _
    omega
  · rw [if_neg h5] at h; simp at h
theorem seal_Scan.frames (A0 : Option Addr) (n0 c0 : Nat) (w : World) : Calls Try.prog 48 #[.slice A0 n0 c0] w fun e w' => e = .returned (.func (.func 64) #[] #[.pointer (some ⟨w.heap.size, 0, none⟩)]) ∧ w' = w.alloc (.cells #[.slice A0 n0 c0] 22) := by
  go_enter Try.func48, Try.ntmps48
  go_wp2
  go_ret
  exact ⟨rfl, rfl⟩
set_option maxHeartbeats 4000000 in
set_option maxRecDepth 100000 in
theorem seal_Scan.calls (A0 : Option Addr) (c0 : Nat) (l0 : List Int) (r1 : List (List Int)) (r2 : Int) (w : World) (hr0 : Kd.C (Kd.int .u8) w A0 l0.length l0) (hc0 : l0.length ≤ c0) (h : seal_Scan.f l0 = some (r1, r2)) :
    Calls Try.prog 30 #[.slice A0 l0.length c0] w fun e w' => ∃ v0_ : Value, e = .returned (.tuple #[v0_, .int .i64 r2]) ∧ Kd.S (Kd.slice 5 (Kd.int .u8)) 22 w' w.heap.size (fun _ => True) v0_ r1 ∧ Below w.heap.size w w' := by
  unfold seal_Scan.f at h
  by_cases hl : l0.length ≤ 1000000000000
  case neg => rw [if_neg hl] at h; cases h
  rw [if_pos hl] at h
  replace h := Option.some.inj h
  refine (callsIn_wide (n := 9)).1 ?_
  refine callsIn_of_wp_marks Try.func30 rfl trivial ?_
  simp only [Try.ntmps30, List.size_toArray, List.length_cons, List.length_nil, Nat.reduceAdd, Nat.reduceSub, Array.replicate_succ, Array.replicate_zero, List.push_toArray, List.append_toArray, List.nil_append, List.cons_append]
  gi_wp2
  refine ⟨trivial, callsIn_wide.2 ((seal_Scan.frames A0 l0.length c0 _).mono ?_)⟩
  rintro e w1 ⟨rfl, rfl⟩
  simp only []
  gi_wp2
  have hs3 : (((w.alloc (.cells #[.slice none 0 0] 56)).alloc (.cells #[.int .i64 0] 3)).alloc (.cells #[.slice A0 l0.length c0] 22)).heap.size = w.heap.size + 3 := by simp
  refine Ra.wpIn_rangeFunc_law (X := List (List Int) × Int × List Int × Int × Value) (w.heap.size + 3) hs3 (gf := 64) (lb := #[.pointer (some ⟨w.heap.size + 2, 0, none⟩)]) ?hg (fun _ _ => by simp [go_sem]) (fun x => #[x.2.2.2.2, .int .i64 x.2.2.2.1]) (fun _ => rfl)
    (fun x W => seal_Scan.Mid A0 c0 l0 w (fun k => some k ≠ x.2.2.2.2.ownBlock) x.1 x.2.1 W ∧ Kd.R (Kd.int .u8) 5 W (w.heap.size + 5) (fun _ => True) x.2.2.2.2 x.2.2.1 ∧ x.1.length < 5864062014805)
    (fun x _ W => seal_Scan.Mid A0 c0 l0 w (fun _ => True) (x.1 ++ [x.2.2.1]) x.2.2.2.1 W)
    (fun W => seal_Scan.Mid A0 c0 l0 w (fun _ => True) r1 r2 W) ?hround ?hiter ?hdone
  case hg => simp [go_sem]
  case hround =>
    rintro rdy bsy m ⟨z, x0, t, nx, vb⟩ W ⟨hM, hR, hz⟩ hL
    dsimp only at hM hR hz
    dsimp only
    simp only [List.zip_toArray, List.zip_cons_cons, List.zip_nil_left, List.zip_nil_right, List.foldl_toArray', List.foldl_toArray, List.foldl_cons, List.foldl_nil, List.setIfInBounds_toArray, List.set_cons_succ, List.set_cons_zero]
    gi_wp2
    refine ⟨hL, ?_⟩
    obtain ⟨v, hv, hS⟩ := hM.v
    have hsz := hM.sz
    obtain ⟨W2, hW2⟩ : ∃ W2, W.putObj (w.heap.size + 3 + 1) bsy = W2 := ⟨_, rfl⟩
    have hk2 : ∀ k, k ≠ w.heap.size + 3 + 1 → W2.heap[k]? = W.heap[k]? := fun k hk => by rw [← hW2]; exact World.putObj_heap_other hk
    have hs2 : W2.heap.size = W.heap.size := by rw [← hW2]; simp
    have hc : W2.cell? ⟨w.heap.size, 0, none⟩ = some v := (World.cell?_of_block (hk2 _ (by first | (simp; done) | (simp; omega)))).trans hv
    have hL2 : W2.heap[w.heap.size + 3 + 1]? = some bsy := by rw [← hW2]; exact World.putObj_heap_same (by omega)
    have hS2 := Kd.S_step (w1 := W2) hS (fun k hk1 _ => hk2 k (by omega))
    have hR2 := Kd.R_step (w1 := W2) (Kd.R_bound hR) (fun k hk1 _ => hk2 k (by have := hk1.2.1; omega))
    obtain ⟨Ab, cb, rfl⟩ := Kd.R_slice hR
    obtain ⟨A, c, rfl⟩ := Kd.S_slice hS
    obtain ⟨v1, w6, hrun, hS6, hg6⟩ := Ra.S_append_run (P := Try.prog) (Kd.slice 5 (Kd.int .u8)) (W := W2) (w.heap.size + 5) 56 56 22 (.slice none 0 0) 24 Try.underlying56 info22 rfl (by decide) (by omega) (.slice A z.length c) z t [.slice Ab t.length cb] (fun k => w.heap.size + 5 ≤ k ∧ True) (fun k_ => some k_ = (.slice Ab t.length cb : Value).ownBlock)
      (Kd.M_row (Kd.R_mono (Kd.R_tight rfl hR2) (fun _ h_ => h_))) (fun k hk => by
        have h := (Kd.R_apart' hR2 (Kd.S_typed hS2) (by decide)).1 k hk.symm
        exact ⟨⟨h.1.2.1, trivial⟩, h.2⟩) (fun k hk => ⟨by omega, trivial⟩) (Kd.S_mono hS2 (fun k hk => ⟨⟨hk.1, trivial⟩, fun e => hk.2 e⟩)) (by omega) (by omega)
    have hfin := seal_Scan.Mid.put (x' := nx) (rdy := rdy) (bsy := bsy) hM (by rw [hW2]; exact hg6) (fun k e => (Kd.S_base hS2 k e)) hS6
    have hv5 : ∀ k, (Value.slice A z.length c).ownBlock = some k → w.heap.size + 5 ≤ k := fun k e => Kd.S_base hS2 k e
    have hk6 : ∀ k, k < w.heap.size + 5 → w6.heap[k]? = W2.heap[k]? := fun k hk => hg6.block k (by omega) (fun e => by have := hv5 k e.symm; omega)
    have hc6 : w6.cell? ⟨w.heap.size, 0, none⟩ = some (.slice A z.length c) := (World.cell?_of_block (hk6 _ (by first | (simp; done) | (simp; omega)))).trans hc
    have hf6 : w6.frozen? ⟨w.heap.size, 0, none⟩ = false := ((World.frozen?_of_block (hk6 _ (by first | (simp; done) | (simp; omega)))).trans (World.frozen?_of_block (hk2 _ (by first | (simp; done) | (simp; omega))))).trans hM.f
    have hd6 : w6.cell? ⟨w.heap.size + 1, 0, none⟩ = some (.int .i64 x0) := ((World.cell?_of_block (hk6 _ (by simp))).trans (World.cell?_of_block (hk2 _ (by simp)))).trans hM.c2
    have hg6' : w6.frozen? ⟨w.heap.size + 1, 0, none⟩ = false := ((World.frozen?_of_block (hk6 _ (by simp))).trans (World.frozen?_of_block (hk2 _ (by simp)))).trans hM.f2
    have hL6 : ((w6.setCell ⟨w.heap.size, 0, none⟩ v1).setCell ⟨w.heap.size + 1, 0, none⟩ (.int .i64 nx)).heap[w.heap.size + 3 + 1]? = some bsy :=
      ((Below.heap_setCell _ _ _ _ (by first | (simp; done) | (simp; omega))).trans ((Below.heap_setCell _ _ _ _ (by first | (simp; done) | (simp; omega))).trans (hk6 _ (by omega)))).trans hL2
    rw [hW2]
    have h1 : v1.oneCell' = true := by obtain ⟨A1, c1, e⟩ := Kd.S_slice hS6; rw [e]; rfl
    obtain ⟨A1, c1, rfl⟩ := Kd.S_slice hS6
    generalize (z ++ [t]).length = n1 at *
    clear hS6 hg6 hS2 hR2 hS hR hk2 hk6 hM hW2 hv hv5
    have hrunA := Aside0.mk hrun
    have hfinA := Aside0.mk hfin
    have hL6A := Aside0.mk hL6
    clear hrun hfin hL6 hs2
    gi_wp2_with (gi_at_builtin; refine Ra.wpListIn_append_run rfl (.tmp 10) (.tmp 12) 56 rfl rfl rfl hrunA.out ?_)
    exact ⟨hL6A.out, hfinA.out⟩
  case hiter =>
    intro rdy m hy
    simp only [List.append_toArray, List.cons_append, List.nil_append]
    obtain ⟨W1, hW1⟩ : ∃ W1, (((((w.alloc (.cells #[.slice none 0 0] 56)).alloc (.cells #[.int .i64 0] 3)).alloc (.cells #[.slice A0 l0.length c0] 22)).alloc (.deferred (some []))).alloc rdy) = W1 := ⟨_, rfl⟩
    have hL1 : W1.heap[w.heap.size + 3 + 1]? = some rdy := by
      rw [← hW1]; have := World.alloc_heap_new ((((w.alloc (.cells #[.slice none 0 0] 56)).alloc (.cells #[.int .i64 0] 3)).alloc (.cells #[.slice A0 l0.length c0] 22)).alloc (.deferred (some []))) rdy; simpa using this
    have hM1 : seal_Scan.Mid A0 c0 l0 w (fun _ => True) [] 0 W1 := by
      rw [← hW1]
      refine ⟨⟨.slice none 0 0, ?_, Kd.S_nil _ _ _ _ _⟩, ?_, ?_, ?_, ?_, ?_, ?_, by simp⟩
      · simp [go_sem]
      · simp [go_sem]
      · simp [go_sem]
      · simp [go_sem]
      · simp [go_sem]
      · have := World.alloc_heap_new (((w.alloc (.cells #[.slice none 0 0] 56)).alloc (.cells #[.int .i64 0] 3)).alloc (.cells #[.slice A0 l0.length c0] 22)) (.deferred (some []))
        rw [hs3] at this
        exact (Below.heap_alloc _ _ _ (by simp)).trans this
      · exact below_alloc (below_alloc (below_alloc (below_alloc (below_alloc (Below.refl _ _) _) _) _) _) _
    rw [hW1]
    clear hW1 hs3
    have H0 := Aside0.mk h
    have hyA := Aside0.mk hy
    have HR := Aside0.mk hr0
    have HC := Aside0.mk hc0
    have hM1A := Aside0.mk hM1
    have hL1A := Aside0.mk hL1
    clear hr0 hc0 h hy hM1 hL1
    refine callsIn_of_wp Try.func64 rfl trivial ?_
    simp only [Try.ntmps64, List.size_toArray, List.length_cons, List.length_nil, Nat.reduceAdd, Nat.reduceSub, Array.replicate_succ, Array.replicate_zero, List.push_toArray, List.append_toArray, List.nil_append, List.cons_append]
    gi_wp2
    gi_loopg [3] (l0.length + 1) (fun kq v3 w' => ∃ (x : Int) (z : List (List Int)), v3 = .int .i64 x ∧ Aside0 (Pl.scanF kq l0 x z = (r1, r2)) ∧ Aside0 (z.length + kq = l0.length + 1 ∧ 8 * (z.length : Int) ≤ x ∧ x ≤ l0.length) ∧ Aside0 (seal_Scan.Mid A0 c0 l0 w (fun _ => True) z x w') ∧ Aside0 (w'.heap[w.heap.size + 3 + 1]? = some rdy))
    case atStart => exact ⟨0, [], rfl, H0, ⟨by simp⟩, hM1A, hL1A⟩
    case round =>
      clear H0 hM1A hL1A
      obtain ⟨x, z, rfl, HA, HN, HM, HL⟩ := hrel
      cases gk with
      | zero =>
        have h1 := HN.out
        exact absurd h1.1 (by omega)
      | succ k1 =>
        have H := HA.out
        have hN := HN.out
        have hM := HM.out
        have hL := HL.out
        have hc3 := hM.c3
        have hsz := Aside0.mk hM.sz
        clear HA HN HM HL
        simp only [Pl.scanF] at H
        obtain ⟨⟨t, nx, e⟩, ho⟩ : ∃ o, o = Pl.openI l0 x := ⟨_, rfl⟩
        have hOk := seal_Scan.open_ok l0 x
        rw [← ho] at H hOk
        dsimp only at H hOk
        have hOpen : seal_Open.f l0 x = some (t, nx, e) := by rw [ho]; rfl
        by_cases c : e = 0
        · subst c
          rw [if_pos rfl] at H
          have HS := Aside0.mk H
          have HN := Aside0.mk (And.intro hN (hOk rfl))
          have HM := Aside0.mk hM
          have HL := Aside0.mk hL
          have HO := Aside0.mk hOpen
          clear H hOk hN hM hL hOpen ho
          gi_wp2
          refine ⟨trivial, fun h => by simp [Fence.wide] at h, callsIn_wide.2 ((seal_Open.calls A0 c0 l0 x t nx 0 wr (Kd.C_below HR.out HM.out.hb) HC.out HO.out).mono ?_)⟩
          rintro e5 w5 ⟨vb, rfl, hR5, hb5⟩
          simp only []
          have hM5 : seal_Scan.Mid A0 c0 l0 w (fun k => some k ≠ vb.ownBlock) z x w5 := HM.out.move hb5 (fun k hk _ e => by have := Kd.R_base hR5 k e.symm; omega)
          have hL5 : w5.heap[w.heap.size + 3 + 1]? = some rdy := (hb5.block _ (by have := hsz.out; omega)).trans HL.out
          have hR5' := Kd.R_lower hR5 hsz.out
          obtain ⟨fn, tm, asg, bd, hrun, hRi⟩ := hyA.out (m - 1) (z, x, t, nx, vb) w5 ⟨hM5, hR5', by have := HN.out.1.1; show z.length < _; omega⟩ hL5
          dsimp only at hrun hRi
          have hRiA := Aside0.mk hRi
          clear hRi hM5 hL5 hR5' hR5 hc3
          gi_wp2
          refine ⟨fun h => by simp [Fence.wide] at h, hRiA.out.mono ?_⟩
          rintro e6 w6 ⟨rfl, hL6, hM6⟩
          simp only []
          have hL6A := Aside0.mk hL6
          have hM6A := Aside0.mk hM6
          clear hL6 hM6 hrun hRiA hb5
          gi_wp2
          gi_roundg k1
          case measure => omega
          case rel => exact ⟨nx, z ++ [t], rfl, HS, ⟨by have := HN.out; simp only [List.length_append, List.length_singleton]; omega⟩, hM6A, hL6A⟩
        · rw [if_neg c] at H
          obtain ⟨rfl, rfl⟩ := Prod.mk.inj H
          have c3b0 : (e == 0) = false := beq_eq_false_iff_ne.mpr c
          have c3b1 : (e != 0) = true := bne_iff_ne.mpr c
          have HM := Aside0.mk hM
          have HL := Aside0.mk hL
          have HO := Aside0.mk hOpen
          clear H hOk hN hM hL hOpen ho
          gi_wp2
          refine ⟨trivial, fun h => by simp [Fence.wide] at h, callsIn_wide.2 ((seal_Open.calls A0 c0 l0 x t nx e wr (Kd.C_below HR.out HM.out.hb) HC.out HO.out).mono ?_)⟩
          rintro e5 w5 ⟨vb, rfl, hR5, hb5⟩
          simp only []
          have hM5 := Aside0.mk (HM.out.move (ok' := fun _ => True) hb5 (fun _ _ _ => trivial))
          have hL5 := Aside0.mk ((hb5.block _ (by have := hsz.out; omega)).trans HL.out)
          clear hR5 hb5 hc3
          gi_wp2
          repeat (refine ⟨fun _ _ => trivial, ?_⟩; gi_wp2)
          first | go_end0 | refine bodyPost_ret (results_none rfl _ _ _) rfl ?_
          exact ⟨⟨_, rfl⟩, hL5.out, hM5.out⟩
  case hdone =>
    intro o W hM
    obtain ⟨v, hv, hS⟩ := hM.v
    obtain ⟨A, c, rfl⟩ := Kd.S_slice hS
    obtain ⟨W3, hW3⟩ : ∃ W3, W.putObj (w.heap.size + 3 + 1) o = W3 := ⟨_, rfl⟩
    have hk : ∀ k, k ≠ w.heap.size + 3 + 1 → W3.heap[k]? = W.heap[k]? := fun k hk => by rw [← hW3]; exact World.putObj_heap_other hk
    have hc : W3.cell? ⟨w.heap.size, 0, none⟩ = some (.slice A r1.length c) := (World.cell?_of_block (hk _ (by first | (simp; done) | (simp; omega)))).trans hv
    have hf : W3.frozen? ⟨w.heap.size, 0, none⟩ = false := (World.frozen?_of_block (hk _ (by first | (simp; done) | (simp; omega)))).trans hM.f
    have hc2 : W3.cell? ⟨w.heap.size + 1, 0, none⟩ = some (.int .i64 r2) := (World.cell?_of_block (hk _ (by simp))).trans hM.c2
    have hf2 : W3.frozen? ⟨w.heap.size + 1, 0, none⟩ = false := (World.frozen?_of_block (hk _ (by simp))).trans hM.f2
    have hD3 : W3.heap[w.heap.size + 3]? = some (.deferred (some [])) := (hk _ (by omega)).trans hM.D
    have hS3 := Kd.S_step (w1 := W3) hS (fun k hk1 _ => hk k (by omega))
    have hb3 : Below w.heap.size w W3 := by rw [← hW3]; exact hM.hb.grown (grownBy_putObj' W _ o) hM.hb.size (fun k e => by cases e; omega)
    rw [hW3]
    clear hk hW3 hS hv
    have hc2' : (W3.setCell ⟨w.heap.size, 0, none⟩ (.slice A r1.length c)).cell? ⟨w.heap.size + 1, 0, none⟩ = some (.int .i64 r2) := (World.cell?_of_block (Below.heap_setCell W3 _ _ _ (by simp))).trans hc2
    have hf2' : (W3.setCell ⟨w.heap.size, 0, none⟩ (.slice A r1.length c)).frozen? ⟨w.heap.size + 1, 0, none⟩ = false := (World.frozen?_of_block (Below.heap_setCell W3 _ _ _ (by simp))).trans hf2
    gi_wp2
    gi_region
    obtain ⟨W5, hW5⟩ : ∃ W5, ((W3.setCell ⟨w.heap.size, 0, none⟩ (.slice A r1.length c)).setCell ⟨w.heap.size + 1, 0, none⟩ (.int .i64 r2)).drew = W5 := ⟨_, rfl⟩
    rw [hW5]
    have hk5 : ∀ k, k ≠ w.heap.size → k ≠ w.heap.size + 1 → W5.heap[k]? = W3.heap[k]? := fun k h1 h2 => by
      rw [← hW5]; exact (Below.heap_setCell _ _ _ _ h2).trans (Below.heap_setCell _ _ _ _ h1)
    have hc5 : W5.cell? ⟨w.heap.size, 0, none⟩ = some (.slice A r1.length c) := by
      rw [← hW5]; exact (World.cell?_of_block (Below.heap_setCell _ _ _ _ (by simp))).trans (World.cell?_setCell_same' _ _ _ (by rw [hc]; rfl))
    have hc6 : W5.cell? ⟨w.heap.size + 1, 0, none⟩ = some (.int .i64 r2) := by
      rw [← hW5]; exact World.cell?_setCell_same' _ _ _ (by rw [hc2']; rfl)
    have hb5 : Below w.heap.size w W5 := by rw [← hW5]; exact below_drew ((hb3.setCell (by simp) _).setCell (by simp) _)
    have hD5 : W5.heap[w.heap.size + 3]? = some (.deferred (some [])) := (hk5 _ (by omega) (by omega)).trans hD3
    have hS5 := Kd.S_step (w1 := W5) hS3 (fun k hk1 _ => hk5 k (by omega) (by omega))
    clear hW5 hc2' hf2' hS3 hD3 hf2 hc2 hf hc hk5 hb3
    gi_wp2
    refine ⟨by simp, .inl ⟨_, _, rfl, run_takeDeferred hD5, ?_⟩⟩
    obtain ⟨W6, hW6⟩ : ∃ W6, W5.putObj (w.heap.size + 3) (.deferred none) = W6 := ⟨_, rfl⟩
    have hk6 : ∀ k, k ≠ w.heap.size + 3 → W6.heap[k]? = W5.heap[k]? := fun k hk => by rw [← hW6]; exact World.putObj_heap_other hk
    have hc7 : W6.cell? ⟨w.heap.size, 0, none⟩ = some (.slice A r1.length c) := (World.cell?_of_block (hk6 _ (by simp))).trans hc5
    have hc8 : W6.cell? ⟨w.heap.size + 1, 0, none⟩ = some (.int .i64 r2) := (World.cell?_of_block (hk6 _ (by simp))).trans hc6
    have hb6 : Below w.heap.size w W6 := by rw [← hW6]; exact hb5.grown (grownBy_putObj' W5 _ _) hb5.size (fun k e => by cases e; omega)
    have hS6 := Kd.S_step (w1 := W6) hS5 (fun k hk1 _ => hk6 k (by omega))
    rw [hW6]
    refine ⟨_, ?_, .slice A r1.length c, rfl, Kd.S_mono (Kd.S_lower hS6 (by omega)) (fun _ _ => trivial), hb6⟩
    simp [results, Try.f30, go_sem, hc7, hc8]
end Go.Proofs.Ytfcdaifaocgjfaa.Pr
end
section
namespace Go.Proofs.Ytfcdaifaocgjfaa.Pr
open Go.RowKit Go.Proofs.YtfcdaifaocgjfaaW.PrintWords Go.Proofs.YtfcdaifaocgjfaaW.PrintLast Go.Proofs.YtfcdaifaocgjfaaW.PrintMore
attribute [local go_sem] max2_int min2_int max_two min_two max_three min_three max_four min_four   -- for this text's walks alone
set_option linter.unusedVariables false
set_option linter.unusedSimpArgs false
def journal_within.f (a0 : Int) (a1 : Int) (a2 : Int) : Option (Bool) := if a1 ≤ a0 then (some (decide (a0 ≤ a2))) else (some false)
set_option maxHeartbeats 8000000 in
set_option maxRecDepth 100000 in
theorem journal_within.calls (a0 : Int) (a1 : Int) (a2 : Int) (r : Bool) (w : World) (h : journal_within.f a0 a1 a2 = some r) :
    Calls Try.prog 56 #[.int .i64 a0, .int .i64 a1, .int .i64 a2] w fun e w' => e = .returned (.bool r) ∧ Drawn0 w w' := by
  have H : (if a1 ≤ a0 then (some (decide (a0 ≤ a2))) else (some false)) = some r := h
  clear h
  by_cases c4 : a1 ≤ a0
  · rw [if_pos c4] at H
    have c4b0 : decide (a1 ≤ a0) = true := decide_eq_true c4
    clear c4
    obtain rfl := Option.some.inj H
    go_enter Try.func56, Try.ntmps56
    go_wp2
    go_ret
    exact ⟨by first | rfl | (simp; done) | (simp [*]; done), by repeat (first | exact Drawn0.refl _ | apply Drawn0.step)⟩
  · rw [if_neg c4] at H
    have c4b0 : decide (a1 ≤ a0) = false := decide_eq_false c4
    clear c4
    obtain rfl := Option.some.inj H
    go_enter Try.func56, Try.ntmps56
    go_wp2
    go_ret
    exact ⟨by first | rfl | (simp; done) | (simp [*]; done), by repeat (first | exact Drawn0.refl _ | apply Drawn0.step)⟩
def journal_may.f (a0_0 : Int) (l0_1 : List (S76)) (a0_2 : Int) (a0_3 : Bool) : Option (Bool) := (journal_within.f a0_0 1 1099511627776).bind fun t102 => (if t102 = true then ((journal_within.f a0_2 0 1099511627776).bind fun t103 => (if t103 = true then (some (decide ((l0_1.length : Int) ≤ 64))) else (some false))) else (some false))
set_option maxHeartbeats 8000000 in
set_option maxRecDepth 100000 in
theorem journal_may.calls (a0_0 : Int) (A0_1 : Option Addr) (c0_1 : Nat) (l0_1 : List (S76)) (a0_2 : Int) (a0_3 : Bool) (r : Bool) (w : World) (hr0_1 : Kd.C k76 w A0_1 l0_1.length l0_1) (hc0_1 : l0_1.length ≤ c0_1) (h : journal_may.f a0_0 l0_1 a0_2 a0_3 = some r) :
    Calls Try.prog 42 #[.agg #[.int .i64 a0_0, .slice A0_1 l0_1.length c0_1, .int .i64 a0_2, .bool a0_3]] w fun e w' => e = .returned (.bool r) ∧ Below w.heap.size w w' := by
  have hu50 := Try.underlying50
  have HR0_1 := Aside0.mk hr0_1
  have HC0_1 := Aside0.mk hc0_1
  clear hr0_1 hc0_1
  have HB := Aside0.mk (Below.refl w.heap.size w)
  have H : ((journal_within.f a0_0 1 1099511627776).bind fun t102 => (if t102 = true then ((journal_within.f a0_2 0 1099511627776).bind fun t103 => (if t103 = true then (some (decide ((l0_1.length : Int) ≤ 64))) else (some false))) else (some false))) = some r := h
  clear h
  replace H := Option.bind_eq_some_iff.mp H
  obtain ⟨t102, A20, H⟩ := H
  replace H : (if t102 = true then ((journal_within.f a0_2 0 1099511627776).bind fun t103 => (if t103 = true then (some (decide ((l0_1.length : Int) ≤ 64))) else (some false))) else (some false)) = some r := H
  have A2 := Aside0.mk A20
  clear A20
  by_cases c3 : t102 = true
  · subst c3
    have H1 : ((journal_within.f a0_2 0 1099511627776).bind fun t103 => (if t103 = true then (some (decide ((l0_1.length : Int) ≤ 64))) else (some false))) = some r := by rw [if_pos rfl] at H; exact H
    clear H
    have H := H1
    clear H1
    replace H := Option.bind_eq_some_iff.mp H
    obtain ⟨t103, A40, H⟩ := H
    replace H : (if t103 = true then (some (decide ((l0_1.length : Int) ≤ 64))) else (some false)) = some r := H
    have A4 := Aside0.mk A40
    clear A40
    by_cases c5 : t103 = true
    · subst c5
      have H1 : (some (decide ((l0_1.length : Int) ≤ 64))) = some r := by rw [if_pos rfl] at H; exact H
      clear H
      have H := H1
      clear H1
      obtain rfl := Option.some.inj H
      go_enter Try.func42, Try.ntmps42
      go_wp2_with (first | ((with_reducible refine gate_dst (N := 1) rfl ?_); (try (refine gate_guard (by rfl) ?_; dsimp only)); refine box_event ?hg (N := 1) ?hd (cs := #[.int .i64 a0_0, .slice A0_1 l0_1.length c0_1, .int .i64 a0_2, .bool a0_3]) (t := 50) ?hr ?_; (case hd => rfl); (case hg => rfl); (case hr => first | (go_simp; done) | (go_simp; rfl)); intro gb101 hg w6 hbox hb; have n0_ := Aside0.mk (below_step (by repeat (first | (with_reducible first | exact HB.out | apply below_alloc | apply pw_below_drewN | apply below_drew1) | exact HB.out)) hb); have n1_ := Aside0.mk (hbox); have n2_ := Aside0.mk ((by rw [hg]; exact (below_size (by repeat (first | (with_reducible first | exact HB.out | apply below_alloc | apply pw_below_drewN | apply below_drew1) | exact HB.out))) : w.heap.size ≤ gb101)); have n3_ := Aside0.mk ((by rw [hg]; exact (below_size (by repeat (first | (with_reducible first | exact HB.out | apply below_alloc | apply pw_below_drewN | apply below_drew1) | exact HB.out))) : w.heap.size ≤ gb101)); clear HB; have HB := n0_; have BK101 := n1_; have GW101 := n2_; have GE101 := n3_; clear n0_ n1_ n2_ n3_; clear hb hbox hg; have hcz7_0 : w6.cell? ⟨gb101, 0, none⟩ = some (.int .i64 a0_0) := (blk_cell BK101.out 0).trans rfl; have hcz7_1 : w6.cell? ⟨gb101, 1, none⟩ = some (.slice A0_1 l0_1.length c0_1) := (blk_cell BK101.out 1).trans rfl; have hcz7_2 : w6.cell? ⟨gb101, 2, none⟩ = some (.int .i64 a0_2) := (blk_cell BK101.out 2).trans rfl; have hcz7_3 : w6.cell? ⟨gb101, 3, none⟩ = some (.bool a0_3) := (blk_cell BK101.out 3).trans rfl; have hfz7_0 := blk_frozen BK101.out 0; have hfz7_1 := blk_frozen BK101.out 1; have hfz7_2 := blk_frozen BK101.out 2; have hfz7_3 := blk_frozen BK101.out 3) | ((with_reducible refine gate_callee (f := 56) rfl ?_); refine goesL_ (some 5) rfl rfl Try.func56 (by kernel_rfl) rfl #[.int .i64 a0_0, .int .i64 1, .int .i64 1099511627776] rfl (by (try simp only [List.map_toArray, List.map_cons, List.map_nil]); first | done | rfl | (simp only [List.length_drop, List.length_take]; rfl)) ?_; (with_reducible refine (journal_within.calls a0_0 1 1099511627776 true _ A2.out).mono ?_); rintro e w' ⟨rfl, ⟨nd, rfl⟩⟩; refine ⟨_, rfl, ?_⟩) | (go_at_call 56; (with_reducible refine (journal_within.calls a0_2 0 1099511627776 true _ A4.out).mono ?_); rintro e w' ⟨rfl, ⟨nd, rfl⟩⟩))
      go_ret
      exact ⟨by first | rfl | (simp [errW_none, errW_some] <;> rfl) | (simp [*, errW_none, errW_some] <;> rfl), by repeat (first | (with_reducible first | exact HB.out | apply below_alloc | apply pw_below_drewN | apply below_drew1 | refine below_set ?_ GE101.out) | exact HB.out)⟩
    · replace c5 := Bool.eq_false_iff.mpr c5
      subst c5
      have H1 : (some false) = some r := by rw [if_neg (show ¬ (false = true) by decide)] at H; exact H
      clear H
      have H := H1
      clear H1
      obtain rfl := Option.some.inj H
      go_enter Try.func42, Try.ntmps42
      go_wp2_with (first | ((with_reducible refine gate_dst (N := 1) rfl ?_); (try (refine gate_guard (by rfl) ?_; dsimp only)); refine box_event ?hg (N := 1) ?hd (cs := #[.int .i64 a0_0, .slice A0_1 l0_1.length c0_1, .int .i64 a0_2, .bool a0_3]) (t := 50) ?hr ?_; (case hd => rfl); (case hg => rfl); (case hr => first | (go_simp; done) | (go_simp; rfl)); intro gb101 hg w8 hbox hb; have n0_ := Aside0.mk (below_step (by repeat (first | (with_reducible first | exact HB.out | apply below_alloc | apply pw_below_drewN | apply below_drew1) | exact HB.out)) hb); have n1_ := Aside0.mk (hbox); have n2_ := Aside0.mk ((by rw [hg]; exact (below_size (by repeat (first | (with_reducible first | exact HB.out | apply below_alloc | apply pw_below_drewN | apply below_drew1) | exact HB.out))) : w.heap.size ≤ gb101)); have n3_ := Aside0.mk ((by rw [hg]; exact (below_size (by repeat (first | (with_reducible first | exact HB.out | apply below_alloc | apply pw_below_drewN | apply below_drew1) | exact HB.out))) : w.heap.size ≤ gb101)); clear HB; have HB := n0_; have BK101 := n1_; have GW101 := n2_; have GE101 := n3_; clear n0_ n1_ n2_ n3_; clear hb hbox hg; have hcz9_0 : w8.cell? ⟨gb101, 0, none⟩ = some (.int .i64 a0_0) := (blk_cell BK101.out 0).trans rfl; have hcz9_1 : w8.cell? ⟨gb101, 1, none⟩ = some (.slice A0_1 l0_1.length c0_1) := (blk_cell BK101.out 1).trans rfl; have hcz9_2 : w8.cell? ⟨gb101, 2, none⟩ = some (.int .i64 a0_2) := (blk_cell BK101.out 2).trans rfl; have hcz9_3 : w8.cell? ⟨gb101, 3, none⟩ = some (.bool a0_3) := (blk_cell BK101.out 3).trans rfl; have hfz9_0 := blk_frozen BK101.out 0; have hfz9_1 := blk_frozen BK101.out 1; have hfz9_2 := blk_frozen BK101.out 2; have hfz9_3 := blk_frozen BK101.out 3) | ((with_reducible refine gate_callee (f := 56) rfl ?_); refine goesL_ (some 5) rfl rfl Try.func56 (by kernel_rfl) rfl #[.int .i64 a0_0, .int .i64 1, .int .i64 1099511627776] rfl (by (try simp only [List.map_toArray, List.map_cons, List.map_nil]); first | done | rfl | (simp only [List.length_drop, List.length_take]; rfl)) ?_; (with_reducible refine (journal_within.calls a0_0 1 1099511627776 true _ A2.out).mono ?_); rintro e w' ⟨rfl, ⟨nd, rfl⟩⟩; refine ⟨_, rfl, ?_⟩) | (go_at_call 56; (with_reducible refine (journal_within.calls a0_2 0 1099511627776 false _ A4.out).mono ?_); rintro e w' ⟨rfl, ⟨nd, rfl⟩⟩))
      go_ret
      exact ⟨by first | rfl | (simp [errW_none, errW_some] <;> rfl) | (simp [*, errW_none, errW_some] <;> rfl), by repeat (first | (with_reducible first | exact HB.out | apply below_alloc | apply pw_below_drewN | apply below_drew1 | refine below_set ?_ GE101.out) | exact HB.out)⟩
  · replace c3 := Bool.eq_false_iff.mpr c3
    subst c3
    have H1 : (some false) = some r := by rw [if_neg (show ¬ (false = true) by decide)] at H; exact H
    clear H
    have H := H1
    clear H1
    obtain rfl := Option.some.inj H
    go_enter Try.func42, Try.ntmps42
    go_wp2_with (first | ((with_reducible refine gate_dst (N := 1) rfl ?_); (try (refine gate_guard (by rfl) ?_; dsimp only)); refine box_event ?hg (N := 1) ?hd (cs := #[.int .i64 a0_0, .slice A0_1 l0_1.length c0_1, .int .i64 a0_2, .bool a0_3]) (t := 50) ?hr ?_; (case hd => rfl); (case hg => rfl); (case hr => first | (go_simp; done) | (go_simp; rfl)); intro gb101 hg w10 hbox hb; have n0_ := Aside0.mk (below_step (by repeat (first | (with_reducible first | exact HB.out | apply below_alloc | apply pw_below_drewN | apply below_drew1) | exact HB.out)) hb); have n1_ := Aside0.mk (hbox); have n2_ := Aside0.mk ((by rw [hg]; exact (below_size (by repeat (first | (with_reducible first | exact HB.out | apply below_alloc | apply pw_below_drewN | apply below_drew1) | exact HB.out))) : w.heap.size ≤ gb101)); have n3_ := Aside0.mk ((by rw [hg]; exact (below_size (by repeat (first | (with_reducible first | exact HB.out | apply below_alloc | apply pw_below_drewN | apply below_drew1) | exact HB.out))) : w.heap.size ≤ gb101)); clear HB; have HB := n0_; have BK101 := n1_; have GW101 := n2_; have GE101 := n3_; clear n0_ n1_ n2_ n3_; clear hb hbox hg; have hcz11_0 : w10.cell? ⟨gb101, 0, none⟩ = some (.int .i64 a0_0) := (blk_cell BK101.out 0).trans rfl; have hcz11_1 : w10.cell? ⟨gb101, 1, none⟩ = some (.slice A0_1 l0_1.length c0_1) := (blk_cell BK101.out 1).trans rfl; have hcz11_2 : w10.cell? ⟨gb101, 2, none⟩ = some (.int .i64 a0_2) := (blk_cell BK101.out 2).trans rfl; have hcz11_3 : w10.cell? ⟨gb101, 3, none⟩ = some (.bool a0_3) := (blk_cell BK101.out 3).trans rfl; have hfz11_0 := blk_frozen BK101.out 0; have hfz11_1 := blk_frozen BK101.out 1; have hfz11_2 := blk_frozen BK101.out 2; have hfz11_3 := blk_frozen BK101.out 3) | ((with_reducible refine gate_callee (f := 56) rfl ?_); refine goesL_ (some 5) rfl rfl Try.func56 (by kernel_rfl) rfl #[.int .i64 a0_0, .int .i64 1, .int .i64 1099511627776] rfl (by (try simp only [List.map_toArray, List.map_cons, List.map_nil]); first | done | rfl | (simp only [List.length_drop, List.length_take]; rfl)) ?_; (with_reducible refine (journal_within.calls a0_0 1 1099511627776 false _ A2.out).mono ?_); rintro e w' ⟨rfl, ⟨nd, rfl⟩⟩; refine ⟨_, rfl, ?_⟩))
    go_ret
    exact ⟨by first | rfl | (simp [errW_none, errW_some] <;> rfl) | (simp [*, errW_none, errW_some] <;> rfl), by repeat (first | (with_reducible first | exact HB.out | apply below_alloc | apply pw_below_drewN | apply below_drew1 | refine below_set ?_ GE101.out) | exact HB.out)⟩
end Go.Proofs.Ytfcdaifaocgjfaa.Pr
end
