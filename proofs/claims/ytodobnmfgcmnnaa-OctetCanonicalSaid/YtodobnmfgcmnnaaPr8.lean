-- Written by this session's own program (wip/pp.sh: a patched run of the kit's print, with contracts of my own).
import Derived.Test.YtodobnmfgcmnnaaPr0
import Derived.Test.YtodobnmfgcmnnaaPr1
import Derived.Test.YtodobnmfgcmnnaaOcB
namespace Go.Proofs.Ytodobnmfgcmnnaa.Pr
open Go.RowKit Go.Proofs.YtodobnmfgcmnnaaW.PrintWords Go.Proofs.YtodobnmfgcmnnaaW.PrintLast Go.Proofs.YtodobnmfgcmnnaaW.PrintMore
attribute [local go_sem] max2_int min2_int max_two min_two max_three min_three max_four min_four   -- for this text's walks alone
set_option linter.unusedVariables false
set_option linter.unusedSimpArgs false

-- HAND Derived.Test.YtodobnmfgcmnnaaOcB
/-! ### octet_GetInts: function 21 -/
theorem getN_err : ∀ (m : Nat) (l : List Int) (a : Int) (acc : List Int), (Oc.getN m l a acc).2.2 ≠ 0 → (Oc.getN m l a acc).1 = [] ∧ (Oc.getN m l a acc).2.1 = 0
  | 0, _, _, _, h => absurd rfl h
  | m + 1, l, a, acc, h => by
    rw [Oc.getN] at h ⊢
    by_cases c : (Oc.getI l a).2.2 = 0
    · rw [if_pos c] at h ⊢
      exact getN_err m _ _ _ h
    · rw [if_neg c]
      exact ⟨rfl, rfl⟩
set_option maxHeartbeats 4000000 in
set_option maxRecDepth 100000 in
theorem GetInts1 (A0 : Option Addr) (c0 : Nat) (l0 : List Int) (n a : Int) (p : Addr) (w : World) (hr0 : Kd.C (Kd.int .u8) w A0 l0.length l0) (hc0 : l0.length ≤ c0) (hb : Oc.okB l0 = true) (hl : l0.length ≤ 1000000000000) (hp : w.cell? p = some (.slice A0 l0.length c0)) (hpb : p.block < w.heap.size) (h0 : 0 ≤ n) (h1 : 0 ≤ a) (h2 : a ≤ l0.length)
    (r1 : List Int) (r2 r3 : Int) (h : Oc.getN n.toNat l0 a [] = (r1, r2, r3)) :
    Calls Try.prog 32 #[.int .i64 n, .int .i64 a, .pointer (some p)] w fun e w' => ∃ v0_ : Value, e = .returned (.tuple #[v0_, .int .i64 r2, .int .i64 r3]) ∧ Kd.R (Kd.int .i64) 3 w' w.heap.size (fun _ => True) v0_ r1 ∧ Below w.heap.size w w' := by
  have HR := Aside0.mk hr0
  have HC := Aside0.mk hc0
  have HB0 := Aside0.mk hb
  have HP := Aside0.mk (And.intro hp hpb)
  have H := Aside0.mk h
  clear hr0 hc0 hb hp hpb h
  go_enter Try.func32, Try.ntmps32
  go_wp2
  go_loopw [5, 6] (fun o nx wr => ∃ (acc : List Int) (x : Int), nx = .int .i64 x ∧ 0 ≤ x ∧ x ≤ l0.length ∧ (acc.length : Int) ≤ x ∧ (acc.length : Int) ≤ n ∧ Aside0 (Kd.R (Kd.int .i64) 3 wr w.heap.size (fun _ => True) o acc) ∧ Aside0 (Below w.heap.size w wr) ∧ Aside0 (Oc.getN (n.toNat - acc.length) l0 x acc = (r1, r2, r3))) (fun _ nx _ => l0.length - (intOf nx).toNat)
  case atStart => exact ⟨[], a, rfl, h1, h2, by simp; omega, by simp; omega, ⟨Kd.R_nil _ _ _ _ _⟩, ⟨Below.refl _ _⟩, H⟩
  case round =>
    clear H
    obtain ⟨acc, x, rfl, hx0, hx1, hax, han, HO, HB, HG⟩ := hrel
    obtain ⟨A2, c2, rfl⟩ := Kd.R_slice HO.out
    by_cases hlt : (acc.length : Int) < n
    · have hltb : decide ((acc.length : Int) < n) = true := decide_eq_true hlt
      have hg := HG.out
      rw [show n.toNat - acc.length = (n.toNat - (acc.length + 1)) + 1 by omega, Oc.getN] at hg
      have hcell : wr.cell? p = some (.slice A0 l0.length c0) := (HB.out.cell HP.out.2).trans HP.out.1
      have hn := Oc.getI_next l0 x
      have G := Aside0.mk (octet_GetInt.same A0 c0 l0 x (Oc.getI l0 x).1 (Oc.getI l0 x).2.1 (Oc.getI l0 x).2.2 wr (Kd.C_below HR.out (HB.out.mono (Nat.le_refl _))) HC.out HB0.out rfl)
      generalize Oc.getI l0 x = g at G hn hg
      obtain ⟨y, nx, e⟩ := g
      dsimp only at G hn hg
      clear HG
      by_cases he : e = 0
      · subst he
        have hn := hn rfl
        rw [if_pos rfl] at hg
        have HG := Aside0.mk hg
        have hk : acc.length ≤ 1000000000000 := by omega
        clear hg
        go_wp2_with fail
        refine G.out.mono ?_
        rintro e w1 ⟨rfl, rfl⟩
        go_wp2_with (at_builtin; refine Kd.R_append (Kd.int .i64) (w0 := w) w.heap.size rfl (.tmp 26) (.tmp 28) 34 3 (.int .i64 0) 8 rfl Try.underlying34 info3 rfl (by decide) (by omega) (.slice A2 acc.length c2) acc y [.int .i64 y] (fun _ => True) (fun _ => False) rfl rfl rfl (fun _ h_ => h_.elim) (fun _ _ => trivial) HO.out HB.out HB.out.size (by omega) ?_; intro v1 w1 ho hb hg hat; have HO1 := Aside0.mk ho; have HB1 := Aside0.mk hb; clear ho hb hg hat)
        go_roundw
        case rel => exact ⟨acc ++ [y], nx, rfl, by omega, by omega, by simp; omega, by simp; omega, HO1, HB1, ⟨by rw [List.length_append, List.length_singleton]; exact HG.out⟩⟩
        case measure => simp [intOf]; omega
      · rw [if_neg he] at hg
        simp only [Prod.mk.injEq] at hg
        obtain ⟨rfl, rfl, rfl⟩ := hg
        have hb0 : (e != 0) = true := bne_iff_ne.mpr he
        clear hn he
        go_wp2_with fail
        refine G.out.mono ?_
        rintro e w1 ⟨rfl, rfl⟩
        go_wp2
        go_ret3
        exact ⟨_, rfl, Kd.R_nil _ _ _ _ _, HB.out⟩
    · have hltb : decide ((acc.length : Int) < n) = false := decide_eq_false hlt
      have hg := HG.out
      rw [show n.toNat - acc.length = 0 by omega, Oc.getN] at hg
      simp only [Prod.mk.injEq] at hg
      obtain ⟨rfl, rfl, rfl⟩ := hg
      clear hlt
      go_wp2
      go_ret3
      exact ⟨_, rfl, HO.out, HB.out⟩
set_option maxHeartbeats 4000000 in
set_option maxRecDepth 100000 in
theorem readI (A0 : Option Addr) (c0 : Nat) (l0 : List Int) (a most : Int) (p : Addr) (w : World) (hr0 : Kd.C (Kd.int .u8) w A0 l0.length l0) (hc0 : l0.length ≤ c0) (hb : Oc.okB l0 = true) (hl : l0.length ≤ 1000000000000) (hp : w.cell? p = some (.slice A0 l0.length c0)) (hpb : p.block < w.heap.size) (r1 : List Int) (r2 r3 : Int) (h : Oc.getIs l0 a most = (r1, r2, r3)) :
    Calls Try.prog 31 #[.slice A0 l0.length c0, .int .i64 a, .int .i64 most, .func (.func 32) #[] #[.pointer (some p)]] w fun e w' => ∃ v0_ : Value, e = .returned (.tuple #[v0_, .int .i64 r2, .int .i64 r3]) ∧ Kd.R (Kd.int .i64) 3 w' w.heap.size (fun _ => True) v0_ r1 ∧ Below w.heap.size w w' := by
  unfold Oc.getIs at h
  have hn := Oc.getI_next l0 a
  have G := Aside0.mk (octet_GetInt.same A0 c0 l0 a (Oc.getI l0 a).1 (Oc.getI l0 a).2.1 (Oc.getI l0 a).2.2 w hr0 hc0 hb rfl)
  have HT := Aside0.mk (fun n f h0 h1 h2 => GetInts1 A0 c0 l0 n f p w hr0 hc0 hb hl hp hpb h0 h1 h2 _ _ _ rfl)
  generalize Oc.getI l0 a = g at G hn h
  obtain ⟨n, f, e⟩ := g
  dsimp only at G hn h
  clear hr0 hc0 hb hp hpb hl
  by_cases he : e = 0
  · subst he
    have hn := hn rfl
    rw [if_neg (by simp)] at h
    by_cases h0 : n < 0
    · rw [if_pos h0] at h
      simp only [Prod.mk.injEq] at h
      obtain ⟨rfl, rfl, rfl⟩ := h
      have hb0 : decide (n < 0) = true := decide_eq_true h0
      clear h0 hn
      go_enter Try.func31, Try.ntmps31
      go_wp2_with fail
      refine G.out.mono ?_
      rintro e w1 ⟨rfl, rfl⟩
      go_wp2_with fail
      go_ret3
      exact ⟨_, rfl, Kd.R_nil _ _ _ _ _, Below.refl _ _⟩
    rw [if_neg h0] at h
    have hb0 : decide (n < 0) = false := decide_eq_false h0
    by_cases hm : most < n
    · rw [if_pos hm] at h
      simp only [Prod.mk.injEq] at h
      obtain ⟨rfl, rfl, rfl⟩ := h
      have hb1 : decide (most < n) = true := decide_eq_true hm
      clear h0 hn hm
      go_enter Try.func31, Try.ntmps31
      go_wp2_with fail
      refine G.out.mono ?_
      rintro e w1 ⟨rfl, rfl⟩
      go_wp2_with fail
      go_ret3
      exact ⟨_, rfl, Kd.R_nil _ _ _ _ _, Below.refl _ _⟩
    rw [if_neg hm] at h
    have hb1 : decide (most < n) = false := decide_eq_false hm
    have T := Aside0.mk (HT.out n f (by omega) (by omega) hn.2.2)
    have hz := getN_err n.toNat l0 f []
    clear hm h0 hn HT
    rw [h] at T hz
    clear h
    dsimp only at T hz
    by_cases he : r3 = 0
    · subst he
      clear hz
      go_enter Try.func31, Try.ntmps31
      go_wp2_with fail
      refine G.out.mono ?_
      rintro e w1 ⟨rfl, rfl⟩
      go_wp2_with fail
      refine T.out.mono ?_
      rintro e w1 ⟨v1, rfl, ho1, hb1'⟩
      have HO1 := Aside0.mk ho1
      have HB1 := Aside0.mk hb1'
      clear ho1 hb1'
      go_wp2_with fail
      go_ret3
      exact ⟨_, rfl, HO1.out, HB1.out⟩
    · obtain ⟨rfl, rfl⟩ := hz he
      have hb2 : (r3 != 0) = true := bne_iff_ne.mpr he
      clear he
      go_enter Try.func31, Try.ntmps31
      go_wp2_with fail
      refine G.out.mono ?_
      rintro e w1 ⟨rfl, rfl⟩
      go_wp2_with fail
      refine T.out.mono ?_
      rintro e w1 ⟨v1, rfl, ho1, hb1'⟩
      have HB1 := Aside0.mk hb1'
      clear ho1 hb1'
      go_wp2_with fail
      go_ret3
      exact ⟨_, rfl, Kd.R_nil _ _ _ _ _, HB1.out⟩
  · rw [if_pos he] at h
    simp only [Prod.mk.injEq] at h
    obtain ⟨rfl, rfl, rfl⟩ := h
    have hb0 : (e != 0) = true := bne_iff_ne.mpr he
    clear hn he
    go_enter Try.func31, Try.ntmps31
    go_wp2_with fail
    refine G.out.mono ?_
    rintro e w1 ⟨rfl, rfl⟩
    go_wp2_with fail
    go_ret3
    exact ⟨_, rfl, Kd.R_nil _ _ _ _ _, Below.refl _ _⟩
def octet_GetInts.f (l0 : List Int) (a1 : Int) (a2 : Int) : Option (List Int × Int × Int) := if Oc.okB l0 = true ∧ l0.length ≤ 1000000000000 then some (Oc.getIs l0 a1 a2) else none
set_option maxHeartbeats 2000000 in
set_option maxRecDepth 100000 in
theorem octet_GetInts.calls (A0 : Option Addr) (c0 : Nat) (l0 : List Int) (a1 : Int) (a2 : Int) (r1 : List Int) (r2 : Int) (r3 : Int) (w : World) (hr0 : Kd.C (Kd.int .u8) w A0 l0.length l0) (hc0 : l0.length ≤ c0) (h : octet_GetInts.f l0 a1 a2 = some (r1, r2, r3)) :
    Calls Try.prog 21 #[.slice A0 l0.length c0, .int .i64 a1, .int .i64 a2] w fun e w' => ∃ v0_ : Value, e = .returned (.tuple #[v0_, .int .i64 r2, .int .i64 r3]) ∧ Kd.R (Kd.int .i64) 3 w' w.heap.size (fun _ => True) v0_ r1 ∧ Below w.heap.size w w' := by
  unfold octet_GetInts.f at h
  by_cases hb : Oc.okB l0 = true ∧ l0.length ≤ 1000000000000
  case neg => rw [if_neg hb] at h; cases h
  rw [if_pos hb] at h
  replace h := Option.some.inj h
  have T := Aside0.mk (fun hp => readI A0 c0 l0 a1 a2 ⟨w.heap.size, 0, none⟩ (w.alloc (.cells #[.slice A0 l0.length c0] 22)) (Kd.C_below hr0 (below_alloc (Below.refl _ _) _)) hc0 hb.1 hb.2 hp (by simp) r1 r2 r3 h)
  clear hr0 hc0 hb h
  go_enter Try.func21, Try.ntmps21
  go_wp2_with fail
  refine (T.out (by simp [go_sem])).mono ?_
  rintro e w1 ⟨v1, rfl, ho1, hb1⟩
  have HO1 := Aside0.mk (Kd.R_lower ho1 (base' := w.heap.size) (by simp))
  have HB1 := Aside0.mk (below_step (below_alloc (Below.refl w.heap.size w) _) hb1)
  clear ho1 hb1
  go_wp2_with fail
  go_ret3
  exact ⟨_, rfl, HO1.out, HB1.out⟩

end Go.Proofs.Ytodobnmfgcmnnaa.Pr
