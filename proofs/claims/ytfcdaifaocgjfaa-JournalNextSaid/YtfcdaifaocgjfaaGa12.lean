/- Parts of the proof of JournalNext; no condition. -/
import Derived.Test.YtfcdaifaocgjfaaGa5
import Derived.Test.YtfcdaifaocgjfaaGa7
import Derived.Test.YtfcdaifaocgjfaaGa11
import Derived.Test.YtfcdaifaocgjfaaPr24
import Derived.Test.YtfcdaifaocgjfaaGa0
section
namespace Go.Proofs.Ytfcdaifaocgjfaa.Pure
open Go.RowKit Go.Proofs.Ytfcdaifaocgjfaa.Pr Go.Proofs.YtfcdaifaocgjfaaW.PrintWords Go.Proofs.YtfcdaifaocgjfaaW.PrintLast Go.Proofs.YtfcdaifaocgjfaaW.PrintMore
theorem fewv_one (v : S50) : chalklineref34_FewVersions.f 5 [v] 1 = some (decide (v.f1.f0.length ≤ 70)) := by
  unfold chalklineref34_FewVersions.f
  rw [chalklineref34_FewVersions.l0, if_pos (by simp), chalklineref34_FewVersions.j1, if_pos (by decide), if_pos (by decide), if_pos (by simp)]
  show (if ((v.f1.f0.length : Nat) : Int) > 70 then _ else _) = _
  by_cases h : v.f1.f0.length ≤ 70
  · rw [if_neg (by omega), decide_eq_true h]
    show chalklineref34_FewVersions.l0 3 [v] 1 (wrap64 (0 + 1)) = _
    rw [w64 (by omega) (by omega), chalklineref34_FewVersions.l0, if_neg (by simp), chalklineref34_FewVersions.j1, if_neg (by decide)]
    rfl
  · rw [if_pos (by omega), decide_eq_false h]
theorem wok_of {s : S50} (h : Ra.VerWf s) : Oc.ok64 s.f0 = true ∧ Oc.ok64 s.f2 = true ∧ wok s.f1.f0 := ⟨ok64_of h.1.1, ok64_of h.1.2, fun p hp => ⟨ok64_of (h.2 p hp).1, ok64_of (h.2 p hp).2⟩⟩
end Go.Proofs.Ytfcdaifaocgjfaa.Pure
namespace Go.Proofs.Ytfcdaifaocgjfaa.Pr
open Go.RowKit Go.Proofs.YtfcdaifaocgjfaaW.PrintWords Go.Proofs.YtfcdaifaocgjfaaW.PrintLast Go.Proofs.YtfcdaifaocgjfaaW.PrintMore
set_option linter.unusedVariables false
/-- While a law over a disk and a version runs: their blocks. -/
structure Lv (w : World) (D V : Array Value) (W : World) : Prop where
  hb : Below w.heap.size w W
  d : W.heap[w.heap.size]? = some (.cells D 24)
  v : W.heap[w.heap.size + 1]? = some (.cells V 50)
theorem Lv.start (w : World) (D V : Array Value) : Lv w D V ((w.alloc (.cells D 24)).alloc (.cells V 50)) := by
  have h1 : (w.alloc (.cells D 24)).heap.size = w.heap.size + 1 := by simp
  refine ⟨below_alloc (below_alloc (Below.refl _ _) _) _, blk_alloc (blk_new _ _) _, ?_⟩
  have := blk_new (w.alloc (.cells D 24)) (.cells V 50)
  rwa [h1] at this
theorem Lv.below {w W W' : World} {D V : Array Value} (h : Lv w D V W) (hb : Below W.heap.size W W') : Lv w D V W' := ⟨below_step h.hb hb, blk_below h.d hb, blk_below h.v hb⟩
theorem Lv.alloc {w W : World} {D V : Array Value} (h : Lv w D V W) (x : Obj) : Lv w D V (W.alloc x) := h.below (below_alloc (Below.refl _ _) x)
theorem Lv.facts {w W : World} {a0 a1 b0 b1 b2 b3 : Value} (h : Lv w #[a0, a1] #[b0, b1, b2, b3] W) : (W.cell? ⟨w.heap.size, 0, none⟩ = some a0 ∧ W.cell? ⟨w.heap.size, 1, none⟩ = some a1) ∧
    (W.cell? ⟨w.heap.size + 1, 0, none⟩ = some b0 ∧ W.cell? ⟨w.heap.size + 1, 1, none⟩ = some b1 ∧ W.cell? ⟨w.heap.size + 1, 2, none⟩ = some b2 ∧ W.cell? ⟨w.heap.size + 1, 3, none⟩ = some b3) :=
  ⟨⟨(blk_cell h.d 0).trans rfl, (blk_cell h.d 1).trans rfl⟩, ⟨(blk_cell h.v 0).trans rfl, (blk_cell h.v 1).trans rfl, (blk_cell h.v 2).trans rfl, (blk_cell h.v 3).trans rfl⟩⟩
/-- A version's places, where they are read. -/
structure Pv (W : World) (A : Option Addr) (c : Nat) (l : List S76) : Prop where
  c0 : Kd.C k76 W A l.length l
  l0 : l.length ≤ c
theorem Pv.below {W W' : World} {A : Option Addr} {c : Nat} {l : List S76} (h : Pv W A c l) (hb : Below W.heap.size W W') : Pv W' A c l := ⟨Kd.C_below h.c0 hb, h.l0⟩
theorem Pv.alloc {W : World} {A : Option Addr} {c : Nat} {l : List S76} (h : Pv W A c l) (x : Obj) : Pv (W.alloc x) A c l := h.below (below_alloc (Below.refl _ _) x)
theorem Pv.one {W : World} {g : Nat} {A : Option Addr} {c : Nat} {v : S50} (h : Pv W A c v.f1.f0) (hg : W.heap[g]? = some (.cells #[.int .i64 v.f0, .slice A v.f1.f0.length c, .int .i64 v.f2, .bool v.f3] 50)) : Vr W (some ⟨g, 0, none⟩) 1 [v] := ⟨one_version hg h.l0 h.c0, Nat.le_refl _⟩
theorem j_append (k : Nat) {A A' B : Option Addr} {c c' d : Nat} {s o : List Int} {l : List S76} {w : World} (D : Dk w A c s A' c' o) (V : Pv w B d l) (n m : Int) (b : Bool) {r1 r2 : List Int} {r3 : Int} (h : journal_Append.f k s o n l m b = some (r1, r2, r3)) : Calls Try.prog 25 #[.agg #[.slice A s.length c, .slice A' o.length c'], .agg #[.int .i64 n, .slice B l.length d, .int .i64 m, .bool b]] w (DkR w r1 r2 r3) :=
  (c_append k A c s A' c' o n B d l m b r1 r2 r3 w D.c0 D.l0 D.c1 D.l1 V.c0 V.l0 h).mono fun _ _ h => dkR h
theorem j_fewv (k : Nat) {A : Option Addr} {c : Nat} {l : List S50} {w : World} (V : Vr w A c l) (m : Int) {r : Bool} (h : chalklineref34_FewVersions.f k l m = some r) : Calls Try.prog 16 #[.slice A l.length c, .int .i64 m] w fun e w' => e = .returned (.bool r) ∧ Below w.heap.size w w' :=
  (chalklineref34_FewVersions.calls k A c l m r w V.c0 V.l0 h).mono fun _ _ ⟨he, hd⟩ => ⟨he, hd.below⟩
end Go.Proofs.Ytfcdaifaocgjfaa.Pr
end
section
namespace Go.Proofs.Ytfcdaifaocgjfaa.Pure
open Go.RowKit Go.Proofs.Ytfcdaifaocgjfaa.Pr Go.Proofs.YtfcdaifaocgjfaaW.PrintWords Go.Proofs.YtfcdaifaocgjfaaW.PrintLast Go.Proofs.YtfcdaifaocgjfaaW.PrintMore
set_option linter.unusedVariables false
set_option linter.unusedSimpArgs false
theorem ws_loop : ∀ (ws : List S76) (pre rest : List Int) (acc : List S76), wok ws → week_Get_ws ws.length (pre ++ (Wk ws ++ rest)) (pre.length : Int) acc = (acc ++ ws, ((pre.length + (Wk ws).length : Nat) : Int), 0) := by
  intro ws
  induction ws with
  | nil => intro pre rest acc _; simp [week_Get_ws, Wk]
  | cons p ws ih =>
    intro pre rest acc h
    have hp := h p List.mem_cons_self
    have e0 : pre ++ (Wk (p :: ws) ++ rest) = pre ++ (Oc.grp (Oc.zz p.f0) ++ (Oc.grp (Oc.zz p.f1) ++ (Wk ws ++ rest))) := by rw [Wk_cons]; simp only [List.append_assoc]
    have g0 := Oc.getI_grp pre (Oc.grp (Oc.zz p.f1) ++ (Wk ws ++ rest)) p.f0 hp.1
    have g1 := Oc.getI_grp (pre ++ Oc.grp (Oc.zz p.f0)) (Wk ws ++ rest) p.f1 hp.2
    rw [List.length_append, List.append_assoc] at g1
    have e1 : (pre.length : Int) + ((Oc.grp (Oc.zz p.f0)).length : Int) = ((pre.length + (Oc.grp (Oc.zz p.f0)).length : Nat) : Int) := by omega
    have hi := ih (pre ++ (Oc.grp (Oc.zz p.f0) ++ Oc.grp (Oc.zz p.f1))) rest (acc ++ [⟨p.f0, p.f1⟩]) (fun q hq => h q (List.mem_cons_of_mem _ hq))
    rw [e0, List.length_cons, week_Get_ws, g0, if_neg (show ¬ ((0 : Int) ≠ 0) by decide)]
    dsimp only
    rw [e1, g1, if_neg (show ¬ ((0 : Int) ≠ 0) by decide)]
    dsimp only
    have e2 : (((pre.length + (Oc.grp (Oc.zz p.f0)).length : Nat) : Int)) + ((Oc.grp (Oc.zz p.f1)).length : Int) = ((pre ++ (Oc.grp (Oc.zz p.f0) ++ Oc.grp (Oc.zz p.f1))).length : Int) := by simp only [List.length_append]; omega
    have e3 : pre ++ (Oc.grp (Oc.zz p.f0) ++ (Oc.grp (Oc.zz p.f1) ++ (Wk ws ++ rest))) = pre ++ (Oc.grp (Oc.zz p.f0) ++ Oc.grp (Oc.zz p.f1)) ++ (Wk ws ++ rest) := by simp only [List.append_assoc]
    rw [e2, e3, hi]
    simp only [List.append_assoc, List.cons_append, List.nil_append, Prod.mk.injEq, true_and, and_true, Wk_cons, List.length_append]
    omega
theorem rd_rec (n : Int) (ws : List S76) (c : Int) (b : Bool) (hn : Oc.ok64 n = true) (hw : wok ws) (hl : ws.length ≤ 64) (hc : Oc.ok64 c = true) :
    rd1 (recI n ws c b) = (n, ((Oc.grp (Oc.zz n)).length : Int), 0) ∧ rd2 (recI n ws c b) = (ws, (((Oc.grp (Oc.zz n)).length + ((Oc.grp (Oc.zz ws.length)).length + (Wk ws).length) : Nat) : Int), 0) ∧
    rd3 (recI n ws c b) = (c, (((Oc.grp (Oc.zz n)).length + ((Oc.grp (Oc.zz ws.length)).length + (Wk ws).length) + (Oc.grp (Oc.zz c)).length : Nat) : Int), 0) ∧ rd4 (recI n ws c b) = (bit b, ((recI n ws c b).length : Int), 0) := by
  have hlen := ok64_nat ws.length (by omega)
  have h1 : rd1 (recI n ws c b) = (n, ((Oc.grp (Oc.zz n)).length : Int), 0) := by
    unfold rd1 rdNum
    rw [if_pos rfl]
    have := Oc.getI_grp [] (Oc.grp (Oc.zz ws.length) ++ (Wk ws ++ (Oc.grp (Oc.zz c) ++ Oc.grp (Oc.zz (bit b))))) n hn
    rw [List.nil_append, List.length_nil, show ((0 : Nat) : Int) = 0 from rfl, Int.zero_add] at this
    exact this
  have h2 : rd2 (recI n ws c b) = (ws, (((Oc.grp (Oc.zz n)).length + ((Oc.grp (Oc.zz ws.length)).length + (Wk ws).length) : Nat) : Int), 0) := by
    unfold rd2 rdWk
    rw [h1, if_pos rfl]
    unfold week_Get_w recI
    dsimp only
    rw [Oc.getI_grp (Oc.grp (Oc.zz n)) _ _ hlen, if_neg (show ¬ ((0 : Int) ≠ 0) by decide)]
    dsimp only
    rw [if_neg (by omega), if_neg (by omega), Int.toNat_natCast]
    have := ws_loop ws (Oc.grp (Oc.zz n) ++ Oc.grp (Oc.zz ws.length)) (Oc.grp (Oc.zz c) ++ Oc.grp (Oc.zz (bit b))) [] hw
    rw [List.length_append, List.nil_append, List.append_assoc] at this
    rw [show ((Oc.grp (Oc.zz n)).length : Int) + ((Oc.grp (Oc.zz (ws.length : Int))).length : Int) = (((Oc.grp (Oc.zz n)).length + (Oc.grp (Oc.zz (ws.length : Int))).length : Nat) : Int) by omega, this]
    simp only [Prod.mk.injEq, true_and, and_true]
    omega
  have h3 : rd3 (recI n ws c b) = (c, (((Oc.grp (Oc.zz n)).length + ((Oc.grp (Oc.zz ws.length)).length + (Wk ws).length) + (Oc.grp (Oc.zz c)).length : Nat) : Int), 0) := by
    unfold rd3 rdNum
    rw [h2, if_pos rfl]
    dsimp only
    have := Oc.getI_grp (Oc.grp (Oc.zz n) ++ (Oc.grp (Oc.zz ws.length) ++ Wk ws)) (Oc.grp (Oc.zz (bit b))) c hc
    have e : recI n ws c b = (Oc.grp (Oc.zz n) ++ (Oc.grp (Oc.zz ws.length) ++ Wk ws)) ++ (Oc.grp (Oc.zz c) ++ Oc.grp (Oc.zz (bit b))) := by unfold recI; simp only [List.append_assoc]
    rw [← e, List.length_append, List.length_append] at this
    rw [this]
    simp only [Prod.mk.injEq, true_and, and_true]
    omega
  refine ⟨h1, h2, h3, ?_⟩
  unfold rd4 rdNum
  rw [h3, if_pos rfl]
  dsimp only
  have := Oc.getI_grp (Oc.grp (Oc.zz n) ++ (Oc.grp (Oc.zz ws.length) ++ (Wk ws ++ Oc.grp (Oc.zz c)))) [] (bit b) (ok64_bit b)
  have e : recI n ws c b = (Oc.grp (Oc.zz n) ++ (Oc.grp (Oc.zz ws.length) ++ (Wk ws ++ Oc.grp (Oc.zz c)))) ++ (Oc.grp (Oc.zz (bit b)) ++ []) := by unfold recI; simp only [List.append_assoc, List.append_nil]
  rw [← e] at this
  have e2 : (((Oc.grp (Oc.zz n)).length + ((Oc.grp (Oc.zz (ws.length : Int))).length + (Wk ws).length) + (Oc.grp (Oc.zz c)).length : Nat) : Int) = ((Oc.grp (Oc.zz n) ++ (Oc.grp (Oc.zz (ws.length : Int)) ++ (Wk ws ++ Oc.grp (Oc.zz c)))).length : Int) := by simp only [List.length_append]; omega
  rw [e2, this]
  simp only [Prod.mk.injEq, true_and, and_true]
  conv => rhs; rw [e]
  simp only [List.length_append, List.length_nil]
  omega
theorem readM_rec (n : Int) (ws : List S76) (c : Int) (b : Bool) (hn : Oc.ok64 n = true) (hw : wok ws) (hc : Oc.ok64 c = true) (hm : rdMay n c ws.length = true) : readM (recI n ws c b) = some ⟨n, ⟨ws⟩, c, b⟩ := by
  obtain ⟨h1, h2, h3, h4⟩ := rd_rec n ws c b hn hw (may_len hm).2.2.2.2 hc
  have hb : 0 ≤ bit b ∧ bit b ≤ 1 := by cases b <;> decide
  have hok : rdOk (recI n ws c b) = true := by
    unfold rdOk
    rw [h1, h2, h3, h4]
    dsimp only
    rw [hm, decide_eq_true hb.1, decide_eq_true hb.2, decide_eq_true rfl, decide_eq_true rfl]
    rfl
  unfold readM
  rw [if_pos hok, h1, h2, h3, h4]
  have : (bit b == 1) = b := by cases b <;> decide
  dsimp only
  rw [this]
/-- A valid disk to which a version was appended. -/
theorem Val.append {s o : List Int} {ms mo : List (List Int)} {a b : List S50} (h : Val s o ms mo a b) (n : Int) (ws : List S76) (c : Int) (t : Bool) (hn : Oc.ok64 n = true) (hw : wok ws) (hc : Oc.ok64 c = true) (hm : rdMay n c ws.length = true) (hno : n = ((a.length : Int) + (b.length : Int) + 1)) (hsz : s.length + (o ++ Pl.frameI (recI n ws c t)).length ≤ 1048576) :
    Val s (o ++ Pl.frameI (recI n ws c t)) ms (mo ++ [recI n ws c t]) a (b ++ [⟨n, ⟨ws⟩, c, t⟩]) ∧ appendI s o n ws c t = (s, o ++ Pl.frameI (recI n ws c t), 0) := by
  have hl := recI_length n ws c t hn hw (by have := (may_len hm).2.2.2.2; omega) hc
  have h64 := (may_len hm).2.2.2.2
  obtain ⟨q1, q2⟩ := h.counts
  refine ⟨⟨h.es, by rw [Pl.F_append, Pl.F_one, ← h.eo], h.hs, fun x hx => ?_, h.va, vers_append _ _ _ _ _ h.vb ?_, hsz⟩, ?_⟩
  · rcases List.mem_append.1 hx with hx | hx
    · exact h.ho x hx
    · rw [List.mem_singleton.1 hx]; omega
  · rw [vers, readM_rec n ws c t hn hw hc hm, Option.bind_some, if_pos (show n = ((1 + ms.length + mo.length : Nat) : Int) by omega)]
    rfl
  · unfold appendI
    rw [h.read, if_pos rfl, if_pos ⟨hm, hno⟩, if_neg (by omega)]
end Go.Proofs.Ytfcdaifaocgjfaa.Pure
end
section
namespace Go.Proofs.Ytfcdaifaocgjfaa.Pr
open Go.RowKit Go.Proofs.YtfcdaifaocgjfaaW.PrintWords Go.Proofs.YtfcdaifaocgjfaaW.PrintLast Go.Proofs.YtfcdaifaocgjfaaW.PrintMore
attribute [local go_sem] max2_int min2_int max_two min_two max_three min_three max_four min_four   -- for this text's walks alone
set_option linter.unusedVariables false
set_option linter.unusedSimpArgs false
def chalklinelaw34_fits.l0 : Nat → List (S50) → Int → Int → Option (Bool)
  | 0, _, _, _ => none
  | k + 1, x5, x6, x7 => if x7 < x6 then (if 0 ≤ x7 then (if x7 < (x5.length : Int) then (if ((rd_T50 x5 x7).f2) < 0 then (some false) else (if ((rd_T50 x5 x7).f2) > 1099511627776 then (some false) else (if (((rd_T50 x5 x7).f1.f0).length : Int) > 64 then (some false) else (chalklinelaw34_fits.l0 k x5 x6 (wrap64 (x7 + 1)))))) else (none)) else (none)) else (some true)
def chalklinelaw34_fits.f (k : Nat) (l0 : List (S50)) : Option (Bool) := chalklinelaw34_fits.l0 k l0 (l0.length : Int) 0
set_option maxHeartbeats 8000000 in
set_option maxRecDepth 100000 in
theorem chalklinelaw34_fits.calls (k : Nat) (A0 : Option Addr) (c0 : Nat) (l0 : List (S50)) (r : Bool) (w : World) (hr0 : Kd.C k50 w A0 l0.length l0) (hc0 : l0.length ≤ c0) (h : chalklinelaw34_fits.f k l0 = some r) :
    Calls Try.prog 17 #[.slice A0 l0.length c0] w fun e w' => e = .returned (.bool r) ∧ Below w.heap.size w w' := by
  have hu50 := Try.underlying50
  have HR0 := Aside0.mk hr0
  have HC0 := Aside0.mk hc0
  clear hr0 hc0
  have HB := Aside0.mk (Below.refl w.heap.size w)
  have H : (chalklinelaw34_fits.l0 k l0 (l0.length : Int) 0) = some r := h
  clear h
  have H' := Aside0.mk H
  clear H
  go_enter Try.func17, Try.ntmps17
  go_wp2
  go_loopg [7] k (fun kq v7 w' => ∃ (x7_1 : Int), v7 = .int .i64 x7_1 ∧ Aside0 (chalklinelaw34_fits.l0 kq l0 (l0.length : Int) x7_1 = some r) ∧ Aside0 (kq ≤ k) ∧ Aside0 (Below w.heap.size w w'))
  case atStart => exact ⟨(0), (by first | rfl | (simp; done) | (simp [*]; done)), H', ⟨Nat.le_refl _⟩, ⟨by repeat (first | (with_reducible first | exact HB.out | apply below_alloc | apply pw_below_drewN | apply below_drew1) | exact HB.out)⟩⟩
  case round =>
    clear H'
    try clear c1
    obtain ⟨x7_1, rfl, HA, HK1, HB⟩ := hrel
    cases gk with
    | zero => exact absurd HA.out (by simp [chalklinelaw34_fits.l0])
    | succ k1 =>
      have H := HA.out
      clear HA
      simp only [chalklinelaw34_fits.l0] at H
      by_cases c2 : x7_1 < (l0.length : Int)
      · rw [if_pos c2] at H
        have c2b0 : decide (x7_1 < (l0.length : Int)) = true := decide_eq_true c2
        clear c2
        by_cases c3 : 0 ≤ x7_1
        · rw [if_pos c3] at H
          have c3b0 : decide (0 ≤ x7_1) = true := decide_eq_true c3
          clear c3
          by_cases c4 : x7_1 < (l0.length : Int)
          · rw [if_pos c4] at H
            have c4b0 : decide (x7_1 < (l0.length : Int)) = true := decide_eq_true c4
            clear c4
            by_cases c5 : ((rd_T50 l0 x7_1).f2) < 0
            · rw [if_pos c5] at H
              have c5b0 : decide (((rd_T50 l0 x7_1).f2) < 0) = true := decide_eq_true c5
              clear c5
              obtain rfl := Option.some.inj H
              have p237 : 0 ≤ (x7_1 : Int) := of_decide_eq_true (by first | (with_reducible assumption) | assumption)
              have q237 : x7_1 < (l0.length : Int) := of_decide_eq_true (by first | (with_reducible assumption) | assumption)
              obtain ⟨ad237, A237_1, c237_1, e237, hx237_0, hx237_1, hx237_2, hx237_3, hl237_1, hi237_1⟩ := at_T50 HR0.out x7_1 p237 q237
              cases e237
              replace hx237_0 := (HB.out.cell (World.block_lt_of_cell? w _ hx237_0)).trans hx237_0
              replace hx237_1 := (HB.out.cell (World.block_lt_of_cell? w _ hx237_1)).trans hx237_1
              replace hx237_2 := (HB.out.cell (World.block_lt_of_cell? w _ hx237_2)).trans hx237_2
              replace hx237_3 := (HB.out.cell (World.block_lt_of_cell? w _ hx237_3)).trans hx237_3
              have HR237_1 := Aside0.mk hi237_1
              have HC237_1 := Aside0.mk hl237_1
              clear hi237_1 hl237_1
              replace p237 := eq_true p237
              replace q237 := eq_true q237
              go_wp2_with (first | ((with_reducible refine gate_dst (N := 4) rfl ?_); (try (refine gate_guard (by rfl) ?_; dsimp only)); refine box_event ?hg (N := 4) ?hd (cs := #[.int .i64 0, .slice none 0 0, .int .i64 0, .bool false]) (t := 50) ?hr ?_; (case hd => rfl); (case hg => rfl); (case hr => first | (go_simp; done) | (go_simp; rfl)); intro gb238 hg w6 hbox hb; have n0_ := Aside0.mk (below_step (by repeat (first | (with_reducible first | exact HB.out | apply below_alloc | apply pw_below_drewN | apply below_drew1) | exact HB.out)) hb); have n1_ := Aside0.mk (hbox); have n2_ := Aside0.mk ((by rw [hg]; exact (below_size (by repeat (first | (with_reducible first | exact HB.out | apply below_alloc | apply pw_below_drewN | apply below_drew1) | exact HB.out))) : w.heap.size ≤ gb238)); have n3_ := Aside0.mk ((by rw [hg]; exact (below_size (by repeat (first | (with_reducible first | exact HB.out | apply below_alloc | apply pw_below_drewN | apply below_drew1) | exact HB.out))) : w.heap.size ≤ gb238)); clear HB; have HB := n0_; have BK238 := n1_; have GW238 := n2_; have GE238 := n3_; clear n0_ n1_ n2_ n3_; clear hb hbox hg; have hcz7_0 : w6.cell? ⟨gb238, 0, none⟩ = some (.int .i64 0) := (blk_cell BK238.out 0).trans rfl; have hcz7_1 : w6.cell? ⟨gb238, 1, none⟩ = some (.slice none 0 0) := (blk_cell BK238.out 1).trans rfl; have hcz7_2 : w6.cell? ⟨gb238, 2, none⟩ = some (.int .i64 0) := (blk_cell BK238.out 2).trans rfl; have hcz7_3 : w6.cell? ⟨gb238, 3, none⟩ = some (.bool false) := (blk_cell BK238.out 3).trans rfl; have hfz7_0 := blk_frozen BK238.out 0; have hfz7_1 := blk_frozen BK238.out 1; have hfz7_2 := blk_frozen BK238.out 2; have hfz7_3 := blk_frozen BK238.out 3))
              go_ret
              exact ⟨by first | rfl | (simp [errW_none, errW_some] <;> rfl) | (simp [*, errW_none, errW_some] <;> rfl), by repeat (first | (with_reducible first | exact HB.out | apply below_alloc | apply pw_below_drewN | apply below_drew1 | refine below_set ?_ GE238.out) | exact HB.out)⟩
            · rw [if_neg c5] at H
              have c5b0 : decide (((rd_T50 l0 x7_1).f2) < 0) = false := decide_eq_false c5
              clear c5
              by_cases c8 : ((rd_T50 l0 x7_1).f2) > 1099511627776
              · rw [if_pos c8] at H
                have c8b0 : decide (1099511627776 < ((rd_T50 l0 x7_1).f2)) = true := decide_eq_true c8
                clear c8
                obtain rfl := Option.some.inj H
                have p237 : 0 ≤ (x7_1 : Int) := of_decide_eq_true (by first | (with_reducible assumption) | assumption)
                have q237 : x7_1 < (l0.length : Int) := of_decide_eq_true (by first | (with_reducible assumption) | assumption)
                obtain ⟨ad237, A237_1, c237_1, e237, hx237_0, hx237_1, hx237_2, hx237_3, hl237_1, hi237_1⟩ := at_T50 HR0.out x7_1 p237 q237
                cases e237
                replace hx237_0 := (HB.out.cell (World.block_lt_of_cell? w _ hx237_0)).trans hx237_0
                replace hx237_1 := (HB.out.cell (World.block_lt_of_cell? w _ hx237_1)).trans hx237_1
                replace hx237_2 := (HB.out.cell (World.block_lt_of_cell? w _ hx237_2)).trans hx237_2
                replace hx237_3 := (HB.out.cell (World.block_lt_of_cell? w _ hx237_3)).trans hx237_3
                have HR237_1 := Aside0.mk hi237_1
                have HC237_1 := Aside0.mk hl237_1
                clear hi237_1 hl237_1
                replace p237 := eq_true p237
                replace q237 := eq_true q237
                go_wp2_with (first | ((with_reducible refine gate_dst (N := 4) rfl ?_); (try (refine gate_guard (by rfl) ?_; dsimp only)); refine box_event ?hg (N := 4) ?hd (cs := #[.int .i64 0, .slice none 0 0, .int .i64 0, .bool false]) (t := 50) ?hr ?_; (case hd => rfl); (case hg => rfl); (case hr => first | (go_simp; done) | (go_simp; rfl)); intro gb238 hg w9 hbox hb; have n0_ := Aside0.mk (below_step (by repeat (first | (with_reducible first | exact HB.out | apply below_alloc | apply pw_below_drewN | apply below_drew1) | exact HB.out)) hb); have n1_ := Aside0.mk (hbox); have n2_ := Aside0.mk ((by rw [hg]; exact (below_size (by repeat (first | (with_reducible first | exact HB.out | apply below_alloc | apply pw_below_drewN | apply below_drew1) | exact HB.out))) : w.heap.size ≤ gb238)); have n3_ := Aside0.mk ((by rw [hg]; exact (below_size (by repeat (first | (with_reducible first | exact HB.out | apply below_alloc | apply pw_below_drewN | apply below_drew1) | exact HB.out))) : w.heap.size ≤ gb238)); clear HB; have HB := n0_; have BK238 := n1_; have GW238 := n2_; have GE238 := n3_; clear n0_ n1_ n2_ n3_; clear hb hbox hg; have hcz10_0 : w9.cell? ⟨gb238, 0, none⟩ = some (.int .i64 0) := (blk_cell BK238.out 0).trans rfl; have hcz10_1 : w9.cell? ⟨gb238, 1, none⟩ = some (.slice none 0 0) := (blk_cell BK238.out 1).trans rfl; have hcz10_2 : w9.cell? ⟨gb238, 2, none⟩ = some (.int .i64 0) := (blk_cell BK238.out 2).trans rfl; have hcz10_3 : w9.cell? ⟨gb238, 3, none⟩ = some (.bool false) := (blk_cell BK238.out 3).trans rfl; have hfz10_0 := blk_frozen BK238.out 0; have hfz10_1 := blk_frozen BK238.out 1; have hfz10_2 := blk_frozen BK238.out 2; have hfz10_3 := blk_frozen BK238.out 3))
                go_ret
                exact ⟨by first | rfl | (simp [errW_none, errW_some] <;> rfl) | (simp [*, errW_none, errW_some] <;> rfl), by repeat (first | (with_reducible first | exact HB.out | apply below_alloc | apply pw_below_drewN | apply below_drew1 | refine below_set ?_ GE238.out) | exact HB.out)⟩
              · rw [if_neg c8] at H
                have c8b0 : decide (1099511627776 < ((rd_T50 l0 x7_1).f2)) = false := decide_eq_false c8
                clear c8
                by_cases c11 : (((rd_T50 l0 x7_1).f1.f0).length : Int) > 64
                · rw [if_pos c11] at H
                  have c11b0 : decide (64 < (((rd_T50 l0 x7_1).f1.f0).length : Int)) = true := decide_eq_true c11
                  have c11b1 : decide (64 < ((rd_T50 l0 x7_1).f1.f0).length) = true := decide_eq_true (by omega)
                  clear c11
                  obtain rfl := Option.some.inj H
                  have p237 : 0 ≤ (x7_1 : Int) := of_decide_eq_true (by first | (with_reducible assumption) | assumption)
                  have q237 : x7_1 < (l0.length : Int) := of_decide_eq_true (by first | (with_reducible assumption) | assumption)
                  obtain ⟨ad237, A237_1, c237_1, e237, hx237_0, hx237_1, hx237_2, hx237_3, hl237_1, hi237_1⟩ := at_T50 HR0.out x7_1 p237 q237
                  cases e237
                  replace hx237_0 := (HB.out.cell (World.block_lt_of_cell? w _ hx237_0)).trans hx237_0
                  replace hx237_1 := (HB.out.cell (World.block_lt_of_cell? w _ hx237_1)).trans hx237_1
                  replace hx237_2 := (HB.out.cell (World.block_lt_of_cell? w _ hx237_2)).trans hx237_2
                  replace hx237_3 := (HB.out.cell (World.block_lt_of_cell? w _ hx237_3)).trans hx237_3
                  have HR237_1 := Aside0.mk hi237_1
                  have HC237_1 := Aside0.mk hl237_1
                  clear hi237_1 hl237_1
                  replace p237 := eq_true p237
                  replace q237 := eq_true q237
                  go_wp2_with (first | ((with_reducible refine gate_dst (N := 4) rfl ?_); (try (refine gate_guard (by rfl) ?_; dsimp only)); refine box_event ?hg (N := 4) ?hd (cs := #[.int .i64 0, .slice none 0 0, .int .i64 0, .bool false]) (t := 50) ?hr ?_; (case hd => rfl); (case hg => rfl); (case hr => first | (go_simp; done) | (go_simp; rfl)); intro gb238 hg w12 hbox hb; have n0_ := Aside0.mk (below_step (by repeat (first | (with_reducible first | exact HB.out | apply below_alloc | apply pw_below_drewN | apply below_drew1) | exact HB.out)) hb); have n1_ := Aside0.mk (hbox); have n2_ := Aside0.mk ((by rw [hg]; exact (below_size (by repeat (first | (with_reducible first | exact HB.out | apply below_alloc | apply pw_below_drewN | apply below_drew1) | exact HB.out))) : w.heap.size ≤ gb238)); have n3_ := Aside0.mk ((by rw [hg]; exact (below_size (by repeat (first | (with_reducible first | exact HB.out | apply below_alloc | apply pw_below_drewN | apply below_drew1) | exact HB.out))) : w.heap.size ≤ gb238)); clear HB; have HB := n0_; have BK238 := n1_; have GW238 := n2_; have GE238 := n3_; clear n0_ n1_ n2_ n3_; clear hb hbox hg; have hcz13_0 : w12.cell? ⟨gb238, 0, none⟩ = some (.int .i64 0) := (blk_cell BK238.out 0).trans rfl; have hcz13_1 : w12.cell? ⟨gb238, 1, none⟩ = some (.slice none 0 0) := (blk_cell BK238.out 1).trans rfl; have hcz13_2 : w12.cell? ⟨gb238, 2, none⟩ = some (.int .i64 0) := (blk_cell BK238.out 2).trans rfl; have hcz13_3 : w12.cell? ⟨gb238, 3, none⟩ = some (.bool false) := (blk_cell BK238.out 3).trans rfl; have hfz13_0 := blk_frozen BK238.out 0; have hfz13_1 := blk_frozen BK238.out 1; have hfz13_2 := blk_frozen BK238.out 2; have hfz13_3 := blk_frozen BK238.out 3))
                  go_ret
                  exact ⟨by first | rfl | (simp [errW_none, errW_some] <;> rfl) | (simp [*, errW_none, errW_some] <;> rfl), by repeat (first | (with_reducible first | exact HB.out | apply below_alloc | apply pw_below_drewN | apply below_drew1 | refine below_set ?_ GE238.out) | exact HB.out)⟩
                · rw [if_neg c11] at H
                  have c11b0 : decide (64 < (((rd_T50 l0 x7_1).f1.f0).length : Int)) = false := decide_eq_false c11
                  have c11b1 : decide (64 < ((rd_T50 l0 x7_1).f1.f0).length) = false := decide_eq_false (by omega)
                  clear c11
                  have H' := Aside0.mk H
                  clear H
                  have p237 : 0 ≤ (x7_1 : Int) := of_decide_eq_true (by first | (with_reducible assumption) | assumption)
                  have q237 : x7_1 < (l0.length : Int) := of_decide_eq_true (by first | (with_reducible assumption) | assumption)
                  obtain ⟨ad237, A237_1, c237_1, e237, hx237_0, hx237_1, hx237_2, hx237_3, hl237_1, hi237_1⟩ := at_T50 HR0.out x7_1 p237 q237
                  cases e237
                  replace hx237_0 := (HB.out.cell (World.block_lt_of_cell? w _ hx237_0)).trans hx237_0
                  replace hx237_1 := (HB.out.cell (World.block_lt_of_cell? w _ hx237_1)).trans hx237_1
                  replace hx237_2 := (HB.out.cell (World.block_lt_of_cell? w _ hx237_2)).trans hx237_2
                  replace hx237_3 := (HB.out.cell (World.block_lt_of_cell? w _ hx237_3)).trans hx237_3
                  have HR237_1 := Aside0.mk hi237_1
                  have HC237_1 := Aside0.mk hl237_1
                  clear hi237_1 hl237_1
                  replace p237 := eq_true p237
                  replace q237 := eq_true q237
                  go_wp2_with (first | ((with_reducible refine gate_dst (N := 4) rfl ?_); (try (refine gate_guard (by rfl) ?_; dsimp only)); refine box_event ?hg (N := 4) ?hd (cs := #[.int .i64 0, .slice none 0 0, .int .i64 0, .bool false]) (t := 50) ?hr ?_; (case hd => rfl); (case hg => rfl); (case hr => first | (go_simp; done) | (go_simp; rfl)); intro gb238 hg w14 hbox hb; have n0_ := Aside0.mk (below_step (by repeat (first | (with_reducible first | exact HB.out | apply below_alloc | apply pw_below_drewN | apply below_drew1) | exact HB.out)) hb); have n1_ := Aside0.mk (hbox); have n2_ := Aside0.mk ((by rw [hg]; exact (below_size (by repeat (first | (with_reducible first | exact HB.out | apply below_alloc | apply pw_below_drewN | apply below_drew1) | exact HB.out))) : w.heap.size ≤ gb238)); have n3_ := Aside0.mk ((by rw [hg]; exact (below_size (by repeat (first | (with_reducible first | exact HB.out | apply below_alloc | apply pw_below_drewN | apply below_drew1) | exact HB.out))) : w.heap.size ≤ gb238)); clear HB; have HB := n0_; have BK238 := n1_; have GW238 := n2_; have GE238 := n3_; clear n0_ n1_ n2_ n3_; clear hb hbox hg; have hcz15_0 : w14.cell? ⟨gb238, 0, none⟩ = some (.int .i64 0) := (blk_cell BK238.out 0).trans rfl; have hcz15_1 : w14.cell? ⟨gb238, 1, none⟩ = some (.slice none 0 0) := (blk_cell BK238.out 1).trans rfl; have hcz15_2 : w14.cell? ⟨gb238, 2, none⟩ = some (.int .i64 0) := (blk_cell BK238.out 2).trans rfl; have hcz15_3 : w14.cell? ⟨gb238, 3, none⟩ = some (.bool false) := (blk_cell BK238.out 3).trans rfl; have hfz15_0 := blk_frozen BK238.out 0; have hfz15_1 := blk_frozen BK238.out 1; have hfz15_2 := blk_frozen BK238.out 2; have hfz15_3 := blk_frozen BK238.out 3))
                  go_roundg k1
                  case measure => have := HK1.out; omega
                  case rel => exact ⟨(wrap64 (x7_1 + 1)), (by first | rfl | (simp; done) | (simp [*]; done)), H', ⟨by have := HK1.out; omega⟩, ⟨by repeat (first | (with_reducible first | exact HB.out | apply below_alloc | apply pw_below_drewN | apply below_drew1 | refine below_set ?_ GE238.out) | exact HB.out)⟩⟩
          · rw [if_neg c4] at H
            exact absurd H (by simp)
        · rw [if_neg c3] at H
          exact absurd H (by simp)
      · rw [if_neg c2] at H
        have c2b0 : decide (x7_1 < (l0.length : Int)) = false := decide_eq_false c2
        clear c2
        obtain rfl := Option.some.inj H
        go_wp2
        go_ret
        exact ⟨by first | rfl | (simp [errW_none, errW_some] <;> rfl) | (simp [*, errW_none, errW_some] <;> rfl), by repeat (first | (with_reducible first | exact HB.out | apply below_alloc | apply pw_below_drewN | apply below_drew1) | exact HB.out)⟩
end Go.Proofs.Ytfcdaifaocgjfaa.Pr
end
