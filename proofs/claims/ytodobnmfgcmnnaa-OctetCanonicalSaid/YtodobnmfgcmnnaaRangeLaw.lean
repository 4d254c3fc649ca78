/- A range over a function whose iterator turns cells, lays blocks and yields slices: the statement's law from two walks (the round; the iterator), at the wide fence; every round ends normally. And append to a row of one's own, as a run and inside a fence. -/
import Derived.RangeFuncNested
import Derived.RangeFuncLeaves
import Derived.RangeFuncGives
import Derived.WalkKit
import Derived.OwnWalkIn
import Derived.TacticsInMore
import Derived.LoopIn
import Derived.Sort.LoopGhostIn
import Derived.Test.YtodobnmfgcmnnaaPr0
namespace Go.Proofs.Ytodobnmfgcmnnaa.Ra
open Go.RowKit Go.Proofs.YtodobnmfgcmnnaaW.PrintWords Go.Proofs.YtodobnmfgcmnnaaW.PrintLast Go.Proofs.YtodobnmfgcmnnaaW.PrintMore

theorem wpIn_rangeFunc_law {X : Type} {P : Program} {n : Nat} {g : Operand} {ps : Array Tmp} {assign body : Code} {Q : Exit → Act → World → Prop} {a : Act} {w : World}
    {gf : Nat} {lb : Array Value} (D : Nat) (hD : w.heap.size = D) (hg : a.eval g = .func (.func gf) #[] lb) (eg : ∀ args w, (callFunc gf args).run P w = .ok (.enter gf args) w) (enc : X → Array Value) (hps : ∀ x, (enc x).size = ps.size)
    (Pre : X → World → Prop) (Rd : X → World → World → Prop) (Fin : World → Prop)
    (hround : ∀ (rdy bsy : Obj) (m : Nat) (x : X) (W : World), Pre x W → W.heap[D + 1]? = some rdy →
      assign.wpIn (Fence.wide.inRound (D + 1)) m P (Exit.then (fun a₁ W1 => W1.heap[D + 1]? = some rdy ∧
        body.wpIn (Fence.wide.inRound (D + 1)) m P (fun e _ W3 => e = .normal ∧ W3.heap[D + 1]? = some bsy ∧ Rd x W (W3.putObj (D + 1) rdy)) a₁ (W1.putObj (D + 1) bsy)) (fun _ _ _ => False))
        { tmps := (ps.zip (enc x)).foldl (fun t (p, v) => t.setIfInBounds p v) a.tmps, defers := [] } W)
    (hiter : ∀ (rdy : Obj) (m : Nat), (∀ m x W, Pre x W → W.heap[D + 1]? = some rdy → YieldAt Fence.wide m P (D + 1) (enc x) W (fun e W' => e = .returned (.bool true) ∧ W'.heap[D + 1]? = some rdy ∧ Rd x W W')) →
      CallsIn Fence.wide m P gf (#[.func (.yield (D + 1)) #[] #[]] ++ lb) ((w.alloc (.deferred (some []))).alloc rdy) (fun e W => (∃ v, e = .returned v) ∧ W.heap[D + 1]? = some rdy ∧ Fin W))
    (hdone : ∀ (o : Obj) (W : World), Fin W → Q .normal { a with defers := { target := .collected D, args := #[] } :: a.defers } (W.putObj (D + 1) o)) :
    (Code.rangeFunc g ps assign body).wpIn Fence.wide n P Q a w := by
  subst hD
  refine wpIn_rangeFunc ?_
  intro fn hfn
  obtain ⟨rec, hrec⟩ : ∃ rec : LoopState → Loop, rec = fun st => { state := st, pending := none, fn, tmps := a.tmps, params := ps, assign, body, defers := w.heap.size } := ⟨_, rfl⟩
  obtain ⟨W1, hW1⟩ : ∃ W1, (w.alloc (.deferred (some []))).alloc (.loop (rec .ready)) = W1 := ⟨_, rfl⟩
  refine ⟨w.heap.size + 1, [{ target := .collected w.heap.size, args := #[] }], W1, { target := .fn (.func gf) lb, args := #[.func (.yield (w.heap.size + 1)) #[] #[]] }, W1, gf,
    #[.func (.yield (w.heap.size + 1)) #[] #[]] ++ lb, W1, ?_, ?_, fun _ _ => trivial, ?_, fun h => by simp [Fence.wide] at h, ?_⟩
  · rw [← hW1, hrec]; exact run_enterLoop_outer _ _ _ _ _
  · simp only [resolve, hg]
    simp [go_sem]
  · simp [invoke, go_sem, eg]
  rw [← hW1]
  refine (hiter (.loop (rec .ready)) (n - 1) ?_).mono ?_
  · intro m x W hp hl
    have hy := run_yield (P := P) (args := enc x) hl (by rw [hrec]; exact hps x)
    rw [hrec] at hy
    refine ⟨fn, _, assign, body, hy, roundIn_of_wpIn (n := m) hfn (wpIn_mono (hround (.loop (rec .ready)) (.loop (rec .busy)) m x W hp hl) ?_)⟩
    intro e a₁ Wa hq
    cases e with
    | normal =>
      obtain ⟨hl1, hb⟩ := hq
      refine ⟨_, run_beginRound hl1 (by rw [hrec]), ?_⟩
      have : (Obj.loop { rec .ready with state := .busy }) = .loop (rec .busy) := by rw [hrec]
      rw [this]
      refine wpIn_mono hb ?_
      rintro e2 a2 W3 ⟨rfl, hl3, hR⟩
      have hend := run_endRound (P := P) none hl3
      have : (Obj.loop { rec .busy with state := if (none : Option Code).isNone then .ready else .done, pending := none }) = .loop (rec .ready) := by rw [hrec]; rfl
      rw [this] at hend
      exact ⟨_, _, hend, rfl, World.putObj_heap_same (Array.getElem?_eq_some_iff.1 hl3).1, hR⟩
    | ret => exact hq.elim
    | exit id => exact hq.elim
    | goto t => exact hq.elim
    | panic ch => exact hq.elim
    | outgrown => exact hq.elim
  · rintro e W2 ⟨⟨v, rfl⟩, hl, hF⟩
    have hend := run_endLoop (P := P) hl (by rw [hrec]; simp)
    have hpe : (rec LoopState.ready).pending = none := by rw [hrec]
    rw [hpe] at hend
    exact ⟨none, _, hend, hdone _ _ hF⟩

/-- append(v, x) to a row of one's own, as a run. -/
theorem S_append_run {α : Type} {P : Program} (d : Kd α) {W : World} (base : Nat) (t ty e : TypeId) (z : Value) (bytes : Nat)
    (ht : P.underlying t = some (.slice e)) (hinfo : (P.info? e).map (fun i => (i.zero, i.size, i.bytes)) = some (some z, d.sz, bytes)) (hz : z.cells.size = d.sz) (hs0 : 0 < d.sz) (hb0 : 0 < bytes)
    (v : Value) (xs : List α) (p : α) (cs : List Value) (ok okp : Nat → Prop) (hp : d.M W base okp p cs) (hokp : ∀ k, okp k → ok k ∧ some k ≠ v.ownBlock) (hfresh : ∀ k, W.heap.size ≤ k → ok k)
    (HO : Kd.S d e W base (fun k => ok k ∧ ¬ okp k) v xs) (hbase : base ≤ W.heap.size) (hl : (xs.length + 1) * bytes ≤ 140737488355328) :
    ∃ v1 w1, (Builtin.append_ #[t, t] ty #[v, .slice (some ⟨W.heap.size, 0, none⟩) 1 1]).run P (W.alloc (.cells cs.toArray e)) = .ok v1 w1 ∧ Kd.S d e w1 base ok v1 (xs ++ [p]) ∧ W.grownBy w1 v.ownBlock := by
  obtain ⟨f, hf, hR⟩ := Kd.S_tag HO xs.length okp (fun _ hk h2 => h2.2 hk)
  have hpt : (Kd.tag f d).M W base okp (p, xs.length) cs := d.M_mono (fun k hk => ⟨hk, hf k hk⟩) hp
  obtain ⟨h0, inner, hown, hr⟩ := Kd.R_mono hR (fun _ hk => hk.1)
  obtain ⟨i0, hi, hzz⟩ := Option.map_eq_some_iff.1 hinfo
  simp only [Prod.mk.injEq] at hzz
  obtain ⟨hz0, hz1, hz2⟩ := hzz
  have hnb : xs.length + 1 ≤ 140737488355328 := Nat.le_trans (Nat.le_mul_of_pos_right _ hb0) hl
  have hcl : cs.length = d.sz := d.K_len (d.K_of_M hp)
  have hlz : xs.zipIdx.length = xs.length := List.length_zipIdx
  rw [hlz] at hown
  obtain ⟨v1, w1, hrun, hown1, hg1, _, hat⟩ := run_append_own_at (P := P) (w := W.alloc (.cells cs.toArray e)) base t ty e i0 z d.sz bytes ht hi hz0 hz1 hz2 hz hs0 v xs.length inner (hown.alloc _) ⟨W.heap.size, 0, none⟩ 1 1 cs
    (by rw [hcl]; simp) (by simpa using World.news_of_block (cs := cs.toArray) (t := e) (fr := (0, 0)) (heap_alloc_new W (.cells cs.toArray e))) (d.K_one (d.K_of_M hp)) (by simp only [maxLen]; omega) hl (by simp; omega)
  have hg2 : W.grownBy w1 v.ownBlock := World.grownBy.trans (World.grownBy_alloc W _ _) hg1
  have hat2 : v1.ownBlock = v.ownBlock ∨ ∃ b, v1.ownBlock = some b ∧ W.heap.size ≤ b := by
    rcases hat with hat | hat
    · exact .inl hat
    · exact .inr ⟨_, hat, by simp⟩
  refine ⟨v1, w1, hrun, ⟨f, ?_⟩, hg2⟩
  rw [Kd.zip_snoc]
  exact Kd.R_appended (d := Kd.tag f d) (okp := okp) h0 hr hpt hokp hfresh (by rw [hlz]; exact hown1) hg2 hat2

/-- An append whose run is known, inside a fence. -/
theorem wpListIn_append_run {F : Fence} {n : Nat} {P : Program} {w w1 : World} {ops : Array Oper} {rest : List Oper} {o : Oper} {a : Act} {Q : Exit → Act → World → Prop} {v x v1 : Value}
    (hg : o.guard = none) (s y : Operand) (t : TypeId) (hop : o.op = Op.call { callee := Callee.builtin Builtin.append, args := #[s, y], argTypes := #[t, t] })
    (hs : a.eval s = v) (hx : a.eval y = x) (hrun : (Builtin.append_ #[t, t] o.type #[v, x]).run P w = .ok v1 w1) (hK : wpListIn F n P ops Q rest (a.put o.dst v1) w1) :
    wpListIn F n P ops Q (o :: rest) a w := by
  refine wpListIn_plain hg fun K hK' => ?_
  unfold Oper.wpIn
  refine ⟨?_, ?_⟩
  · simp [Oper.about, hop, resolve, Target.leads, Sem.run_pure]
  · rw [Oper.semAt_plain F _ _ (by rw [hop]; intro c hc'; cases hc')]
    simp [execOp, hop, resolve, invoke, builtin, hs, hx, hrun, Result.andThen]
    exact hK' _ _ hK
end Go.Proofs.Ytodobnmfgcmnnaa.Ra
