/- Parts of the proof of JournalNext; no condition. -/
import Derived.Test.YtfcdaifaocgjfaaGa10
import Derived.Test.YtfcdaifaocgjfaaPr13
import Derived.Test.YtfcdaifaocgjfaaPr24
import Derived.Test.YtfcdaifaocgjfaaJA
import Derived.Deep.Slices
import Derived.Deep.SlicePairs
import Derived.Lib.SmallJoins
import Derived.SizedLaws
import Derived.Test.YtfcdaifaocgjfaaGa0
section
namespace Go.Proofs.Ytfcdaifaocgjfaa.Pure
open Go.RowKit Go.Proofs.Ytfcdaifaocgjfaa.Pr Go.Proofs.YtfcdaifaocgjfaaW.PrintWords Go.Proofs.YtfcdaifaocgjfaaW.PrintLast Go.Proofs.YtfcdaifaocgjfaaW.PrintMore
theorem same_refl (a b : List Int) : chalklineref34_Same.f a b a b = some true := by
  unfold chalklineref34_Same.f
  rw [if_pos rfl, beq_self_eq_true]
theorem bytes_take' {l : List Int} (h : Pl.bytes l) (n : Nat) : Pl.bytes (l.take n) := fun x hx => h x (List.mem_of_mem_take hx)
/-- The bytes of complete frames among the first a. -/
def cutI (o : List Int) (a : Int) : Nat := (Pl.scanI (o.take (mn a (o.length : Int)).toNat)).2.toNat
theorem mn_in (a : Int) (n : Nat) (h : 0 ≤ a) : 0 ≤ mn a (n : Int) ∧ mn a (n : Int) ≤ n := by unfold mn; split <;> omega
theorem cutI_le (o : List Int) (ho : Pl.bytes o) (a : Int) : cutI o a ≤ o.length := by
  unfold cutI
  obtain ⟨g, h1, h2, _⟩ := scan_spec (o.take (mn a (o.length : Int)).toNat) (bytes_take' ho _)
  rw [h1, Int.toNat_natCast]
  rw [List.length_take] at h2
  omega
theorem cutI_eq (o : List Int) (ho : Pl.bytes o) (a : Int) : (Pl.scanI (o.take (mn a (o.length : Int)).toNat)).2 = (cutI o a : Int) := by
  unfold cutI
  obtain ⟨g, h1, _⟩ := scan_spec (o.take (mn a (o.length : Int)).toNat) (bytes_take' ho _)
  rw [h1, Int.toNat_natCast]
def crashI (s o : List Int) (a : Int) : List Int × List Int × Int :=
  if (readI s o).2.2 = 0 then if a < 0 then ([], [], 1) else (s ++ o.take (cutI o a), [], 0) else ([], [], (readI s o).2.2)
def syncI (s o : List Int) : List Int × List Int × Int := if (readI s o).2.2 = 0 then (s ++ o, [], 0) else ([], [], (readI s o).2.2)
theorem jCrash (s o : List Int) (hs : Pl.bytes s) (ho : Pl.bytes o) (hl : s.length ≤ 1000000000) (hm : o.length ≤ 1000000000) (a : Int) : journal_Crash.f s o a = some (crashI s o a) := by
  unfold journal_Crash.f crashI
  rw [jCheck s o hs ho (by omega) (by omega), Option.bind_some]
  by_cases h0 : (readI s o).2.2 = 0
  · rw [if_pos h0, if_pos h0]
    by_cases h1 : a < 0
    · rw [if_pos h1, if_pos h1]
    rw [if_neg h1, if_neg h1]
    have hj := mn_in a o.length (by omega)
    have hc := cutI_le o ho a
    rw [if_pos hj.1, if_pos hj.2, show seal_Scan.f (o.take (mn a (o.length : Int)).toNat) = some (Pl.scanI (o.take (mn a (o.length : Int)).toNat)) from by unfold seal_Scan.f; rw [if_pos (by rw [List.length_take]; omega)], Option.bind_some, cutI_eq o ho a, if_pos (Int.natCast_nonneg _), if_pos (Int.ofNat_le.mpr hc), Int.toNat_natCast]
    unfold slices_Concat_byte_byte.f
    have e : [s, o.take (cutI o a)].flatten = s ++ o.take (cutI o a) := by simp
    rw [e, if_pos (by rw [List.length_append, List.length_take]; omega), Option.bind_some, h0]
  · rw [if_neg h0, if_neg h0]
theorem jSync (s o : List Int) (hs : Pl.bytes s) (ho : Pl.bytes o) (hl : s.length ≤ 1000000000) (hm : o.length ≤ 1000000000) : journal_Sync.f s o = some (syncI s o) := by
  unfold journal_Sync.f syncI
  rw [jCheck s o hs ho (by omega) (by omega), Option.bind_some]
  by_cases h0 : (readI s o).2.2 = 0
  · rw [if_pos h0, if_pos h0]
    unfold slices_Concat_byte_byte.f
    have e : [s, o].flatten = s ++ o := by simp
    rw [e, if_pos (by rw [List.length_append]; omega), Option.bind_some, h0]
  · rw [if_neg h0, if_neg h0]
end Go.Proofs.Ytfcdaifaocgjfaa.Pure
end
section
namespace Go.Proofs.Ytfcdaifaocgjfaa.Pure
set_option linter.unusedVariables false
open Go.RowKit Go.Proofs.Ytfcdaifaocgjfaa.Pr Go.Proofs.YtfcdaifaocgjfaaW.PrintWords Go.Proofs.YtfcdaifaocgjfaaW.PrintLast Go.Proofs.YtfcdaifaocgjfaaW.PrintMore
theorem cut_scan (l : List (List Int)) (hx : ∀ x ∈ l, x.length ≤ 65536) (c W : Nat) (hW : W ≤ l.length) (h1 : ∀ j, j ≤ W → Pl.G l j ≤ c) (h2 : ∀ j, W < j → j ≤ l.length → c < Pl.G l j) : Pl.scanI ((Pl.F l).take c) = (l.take W, ((Pl.G l W : Nat) : Int)) := by
  have hg := h1 W (Nat.le_refl _)
  have e1 : (Pl.F l).take c = Pl.F (l.take W) ++ (Pl.F (l.drop W)).take (c - Pl.G l W) := by
    conv => lhs; rw [Pl.F_split l W, List.take_append]
    rw [List.take_of_length_le (show (Pl.F (l.take W)).length ≤ c from hg)]
    rfl
  rw [e1]
  refine Pl.scan_stop (l.take W) _ (fun x hx' => hx x (List.mem_of_mem_take hx')) ?_
  rcases Nat.lt_or_ge W l.length with h | h
  · have h3 := h2 (W + 1) (by omega) (by omega)
    rw [Pl.G_succ l W h] at h3
    have hb := hx l[W] (List.getElem_mem h)
    rw [List.drop_eq_getElem_cons h, Pl.F_cons, List.take_append_of_le_length (by rw [Pl.frameI_length]; omega)]
    exact Pl.openI_cut _ _ (by omega) _ (by omega)
  · rw [List.drop_eq_nil_of_le h, Pl.F_nil, List.take_nil]
    exact Pl.openI_end _
theorem whole_scan (l : List (List Int)) (hx : ∀ x ∈ l, x.length ≤ 65536) : Pl.scanI (Pl.F l) = (l, (((Pl.F l).length : Nat) : Int)) := by
  have := Pl.scan_stop l [] hx (Pl.openI_end _)
  rwa [List.append_nil] at this
theorem vers_append : ∀ (xs ys : List (List Int)) (n : Nat) (a b : List S50), vers xs n = some a → vers ys (n + xs.length) = some b → vers (xs ++ ys) n = some (a ++ b)
  | [], ys, n, a, b, h, h' => by cases h; simpa using h'
  | x :: xs, ys, n, a, b, h, h' => by
    rw [vers] at h
    obtain ⟨v, hv, h⟩ := Option.bind_eq_some_iff.1 h
    split at h
    · rename_i hn
      obtain ⟨ws, hw, rfl⟩ := Option.map_eq_some_iff.1 h
      have ih := vers_append xs ys (n + 1) ws b hw (by rw [List.length_cons] at h'; rwa [show n + 1 + xs.length = n + (xs.length + 1) by omega])
      rw [List.cons_append, vers, hv, Option.bind_some, if_pos hn, ih]
      rfl
    · cases h
theorem vers_take : ∀ (xs : List (List Int)) (n : Nat) (a : List S50) (W : Nat), vers xs n = some a → vers (xs.take W) n = some (a.take W)
  | [], n, a, W, h => by cases h; simp [vers]
  | x :: xs, n, a, 0, h => by simp [vers]
  | x :: xs, n, a, W + 1, h => by
    rw [vers] at h
    obtain ⟨v, hv, h⟩ := Option.bind_eq_some_iff.1 h
    split at h
    · rename_i hn
      obtain ⟨ws, hw, rfl⟩ := Option.map_eq_some_iff.1 h
      rw [List.take_succ_cons, vers, hv, Option.bind_some, if_pos hn, vers_take xs (n + 1) ws W hw]
      rfl
    · cases h
/-- A valid disk, as the payloads of its frames and the versions that these are. -/
structure Val (s o : List Int) (ms mo : List (List Int)) (a b : List S50) : Prop where
  es : s = Pl.F ms
  eo : o = Pl.F mo
  hs : ∀ x ∈ ms, x.length ≤ 65536
  ho : ∀ x ∈ mo, x.length ≤ 65536
  va : vers ms 1 = some a
  vb : vers mo (1 + ms.length) = some b
  le : s.length + o.length ≤ 1048576
theorem versI_val (b : List Int) (hb : Pl.bytes b) (n : Nat) (vs : List S50) (h : versI b n = some vs) : ∃ m, b = Pl.F m ∧ (∀ x ∈ m, x.length ≤ 65536) ∧ vers m n = some vs ∧ (Pl.scanI b).1 = m := by
  unfold versI at h
  split at h
  · rename_i hg
    obtain ⟨g, h1, h2, h3, h4⟩ := scan_spec b hb
    obtain rfl : g = b.length := by omega
    rw [List.take_length] at h3
    exact ⟨_, h3, fun x hx => (h4 x hx).2, h, rfl⟩
  · cases h
theorem val_of (s o : List Int) (hs : Pl.bytes s) (ho : Pl.bytes o) (h : (readI s o).2.2 = 0) : ∃ ms mo a b, Val s o ms mo a b ∧ readI s o = (a, b, 0) := by
  unfold readI at h ⊢
  by_cases c : s.length + o.length > 1048576
  · rw [if_pos c] at h; exact absurd h (by decide)
  rw [if_neg c] at h ⊢
  cases h1 : versI s 1 with
  | none => rw [h1] at h; dsimp only at h; omega
  | some a =>
    rw [h1] at h
    dsimp only at h ⊢
    cases h2 : versI o (1 + (Pl.scanI s).1.length) with
    | none => rw [h2] at h; dsimp only at h; omega
    | some b =>
      obtain ⟨ms, e1, p1, q1, r1⟩ := versI_val s hs 1 a h1
      obtain ⟨mo, e2, p2, q2, _⟩ := versI_val o ho _ b h2
      rw [r1] at q2
      exact ⟨ms, mo, a, b, ⟨e1, e2, p1, p2, q1, q2, by omega⟩, rfl⟩
theorem readI_F (ms mo : List (List Int)) (a b : List S50) (hs : ∀ x ∈ ms, x.length ≤ 65536) (ho : ∀ x ∈ mo, x.length ≤ 65536) (va : vers ms 1 = some a) (vb : vers mo (1 + ms.length) = some b) (hl : (Pl.F ms).length + (Pl.F mo).length ≤ 1048576) : readI (Pl.F ms) (Pl.F mo) = (a, b, 0) := by
  unfold readI versI
  rw [if_neg (by omega), whole_scan ms hs, if_pos rfl]
  dsimp only
  rw [va]
  dsimp only
  rw [whole_scan mo ho, if_pos rfl]
  dsimp only
  rw [vb]
theorem Val.read {s o : List Int} {ms mo : List (List Int)} {a b : List S50} (h : Val s o ms mo a b) : readI s o = (a, b, 0) := by
  have hl := h.le
  rw [h.es, h.eo] at hl ⊢
  exact readI_F ms mo a b h.hs h.ho h.va h.vb hl
theorem Val.counts {s o : List Int} {ms mo : List (List Int)} {a b : List S50} (h : Val s o ms mo a b) : a.length = ms.length ∧ b.length = mo.length := ⟨vers_length _ _ _ h.va, vers_length _ _ _ h.vb⟩
/-- What a crash leaves. -/
theorem Val.crash {s o : List Int} {ms mo : List (List Int)} {a b : List S50} (h : Val s o ms mo a b) (k : Int) (hk : 0 ≤ k) : ∃ W, W ≤ mo.length ∧ (∀ j, j ≤ W → Pl.G mo j ≤ (mn k (o.length : Int)).toNat) ∧ (∀ j, W < j → j ≤ mo.length → (mn k (o.length : Int)).toNat < Pl.G mo j) ∧
    crashI s o k = (Pl.F (ms ++ mo.take W), [], 0) ∧ Val (Pl.F (ms ++ mo.take W)) [] (ms ++ mo.take W) [] (a ++ b.take W) [] ∧ s ++ o.take (cutI o k) = Pl.F (ms ++ mo.take W) := by
  obtain ⟨W, hW, h1, h2⟩ := Pl.place mo (mn k (o.length : Int)).toNat
  have hc : cutI o k = Pl.G mo W := by
    unfold cutI
    have := cut_scan mo h.ho (mn k (o.length : Int)).toNat W hW h1 h2
    rw [← h.eo] at this
    rw [this, Int.toNat_natCast]
  have ht : o.take (cutI o k) = Pl.F (mo.take W) := by
    rw [hc, h.eo, Pl.F_split mo W]
    exact List.take_left
  have e : s ++ o.take (cutI o k) = Pl.F (ms ++ mo.take W) := by rw [ht, Pl.F_append, h.es]
  have hle : (Pl.F (ms ++ mo.take W)).length ≤ 1048576 := by
    rw [← e, List.length_append, List.length_take]
    have := h.le
    omega
  refine ⟨W, hW, h1, h2, ?_, ⟨rfl, rfl, fun x hx => ?_, fun x hx => (by cases hx), vers_append _ _ _ _ _ h.va (vers_take _ _ _ _ h.vb), rfl, by simpa using hle⟩, e⟩
  · unfold crashI
    rw [h.read, if_pos rfl, if_neg (by omega), e]
  · rcases List.mem_append.1 hx with hx | hx
    · exact h.hs x hx
    · exact h.ho x (List.mem_of_mem_take hx)
end Go.Proofs.Ytfcdaifaocgjfaa.Pure
end
section
namespace Go.Proofs.Ytfcdaifaocgjfaa.Pure
open Go.RowKit Go.Proofs.Ytfcdaifaocgjfaa.Pr Go.Proofs.YtfcdaifaocgjfaaW.PrintWords Go.Proofs.YtfcdaifaocgjfaaW.PrintLast Go.Proofs.YtfcdaifaocgjfaaW.PrintMore
set_option linter.unusedVariables false
set_option linter.unusedSimpArgs false
/-- The bytes of a week's places. -/
def Wk (ws : List S76) : List Int := (ws.map fun p => Oc.grp (Oc.zz p.f0) ++ Oc.grp (Oc.zz p.f1)).flatten
theorem Wk_nil : Wk [] = [] := rfl
theorem Wk_cons (p : S76) (ws : List S76) : Wk (p :: ws) = (Oc.grp (Oc.zz p.f0) ++ Oc.grp (Oc.zz p.f1)) ++ Wk ws := by simp [Wk]
def wok (ws : List S76) : Prop := ∀ p ∈ ws, Oc.ok64 p.f0 = true ∧ Oc.ok64 p.f1 = true
theorem grp10 {n : Int} (h : Oc.ok64 n = true) : (Oc.grp (Oc.zz n)).length ≤ 10 := Oc.grp_ten _ (Oc.zz_lt n h)
theorem Wk_length (ws : List S76) (h : wok ws) : (Wk ws).length ≤ 20 * ws.length := by
  induction ws with
  | nil => simp [Wk]
  | cons p ws ih =>
    have h0 := h p List.mem_cons_self
    have := ih (fun q hq => h q (List.mem_cons_of_mem _ hq))
    have := grp10 h0.1
    have := grp10 h0.2
    rw [Wk_cons, List.length_append, List.length_append, List.length_cons]
    omega
def bit (b : Bool) : Int := if b then 1 else 0
def recI (n : Int) (ws : List S76) (c : Int) (b : Bool) : List Int := Oc.grp (Oc.zz n) ++ (Oc.grp (Oc.zz ws.length) ++ (Wk ws ++ (Oc.grp (Oc.zz c) ++ Oc.grp (Oc.zz (bit b)))))
theorem ok64_nat (n : Nat) (h : n ≤ 1000000000000000) : Oc.ok64 (n : Int) = true := by simp [Oc.ok64]; omega
theorem ok64_bit (b : Bool) : Oc.ok64 (bit b) = true := by cases b <;> decide
theorem recI_length (n : Int) (ws : List S76) (c : Int) (b : Bool) (hn : Oc.ok64 n = true) (hw : wok ws) (hl : ws.length ≤ 1000000000) (hc : Oc.ok64 c = true) : (recI n ws c b).length ≤ 40 + 20 * ws.length := by
  have := grp10 hn
  have := grp10 hc
  have := grp10 (ok64_bit b)
  have := grp10 (ok64_nat ws.length (by omega))
  have := Wk_length ws hw
  unfold recI
  simp only [List.length_append]
  omega
theorem jPut (l : List Int) (n : Int) (hn : Oc.ok64 n = true) (hl : l.length ≤ 1000000000000) : octet_PutInt.f l n = some (l ++ Oc.grp (Oc.zz n)) := by unfold octet_PutInt.f; rw [if_pos ⟨hn, hl⟩]; rfl
theorem rdT76 (l : List S76) (i : Nat) (h : i < l.length) : rd_T76 l (i : Int) = l[i] := by simp [rd_T76, List.getD_eq_getElem?_getD, List.getElem?_eq_getElem h]
theorem weekPut_loop (ws : List S76) (hw : wok ws) (hl : ws.length ≤ 1000000000) : ∀ (d i : Nat) (acc : List Int), i + d = ws.length → acc.length + 20 * d ≤ 900000000000 → ∀ k, d + 1 ≤ k → week_Put.l0 k acc ws (ws.length : Int) (i : Int) = some (acc ++ Wk (ws.drop i)) := by
  intro d
  induction d with
  | zero =>
    intro i acc hi ha k hk
    obtain ⟨k, rfl⟩ : ∃ j, k = j + 1 := ⟨k - 1, by omega⟩
    rw [week_Put.l0, if_neg (by omega), List.drop_eq_nil_of_le (by omega), Wk_nil, List.append_nil]
  | succ d ih =>
    intro i acc hi ha k hk
    obtain ⟨k, rfl⟩ : ∃ j, k = j + 1 := ⟨k - 1, by omega⟩
    have hlt : i < ws.length := by omega
    have hp := hw ws[i] (List.getElem_mem hlt)
    have g0 := grp10 hp.1
    have g1 := grp10 hp.2
    have e2 : (i : Int) + 1 = ((i + 1 : Nat) : Int) := by omega
    rw [week_Put.l0, if_pos (show (i : Int) < (ws.length : Int) by omega), if_pos (show (0 : Int) ≤ (i : Int) by omega), if_pos (show (i : Int) < (ws.length : Int) by omega), rdT76 ws i hlt, jPut _ _ hp.1 (by omega), Option.bind_some, jPut _ _ hp.2 (by rw [List.length_append]; omega), Option.bind_some, w64 (by omega) (by omega), e2,
      ih (i + 1) _ (by omega) (by rw [List.length_append, List.length_append]; omega) k (by omega), List.drop_eq_getElem_cons hlt, Wk_cons]
    simp only [List.append_assoc]
theorem jRecord (n : Int) (ws : List S76) (c : Int) (b : Bool) (hn : Oc.ok64 n = true) (hw : wok ws) (hl : ws.length ≤ 1000000000) (hc : Oc.ok64 c = true) (k : Nat) (hk : ws.length + 1 ≤ k) : journal_record.f k n ws c b = some (recI n ws c b) := by
  have g0 := grp10 hn
  have g1 := grp10 (ok64_nat ws.length (by omega))
  have g2 := Wk_length ws hw
  have g3 := grp10 hc
  unfold journal_record.f week_Put.f
  rw [jPut [] n hn (by simp), Option.bind_some, List.nil_append, jPut _ _ (ok64_nat ws.length (by omega)) (by omega), Option.bind_some]
  have hlp := weekPut_loop ws hw hl ws.length 0 (Oc.grp (Oc.zz n) ++ Oc.grp (Oc.zz ws.length)) (by omega) (by rw [List.length_append]; omega) k hk
  rw [show ((0 : Nat) : Int) = 0 from rfl, List.drop_zero] at hlp
  rw [hlp, Option.bind_some, jPut _ _ hc (by simp only [List.length_append]; omega), Option.bind_some]
  cases b with
  | true =>
    rw [if_pos rfl, jPut _ 1 (by decide) (by simp only [List.length_append]; omega), Option.bind_some]
    simp only [recI, bit, if_true, Bool.false_eq_true, if_false, List.append_assoc]
  | false =>
    rw [if_neg (by decide), jPut _ 0 (by decide) (by simp only [List.length_append]; omega), Option.bind_some]
    simp only [recI, bit, if_true, Bool.false_eq_true, if_false, List.append_assoc]
theorem bytes_grp (u : Nat) : Pl.bytes (Oc.grp u) := by
  induction u using Nat.strongRecOn with
  | _ u ih =>
    by_cases h : 127 < u
    · rw [Oc.grp_big u h]
      intro x hx
      rcases List.mem_cons.1 hx with rfl | hx
      · omega
      · exact ih (u / 128) (by omega) x hx
    · rw [Oc.grp_small u (by omega)]
      intro x hx
      rw [List.mem_singleton.1 hx]
      omega
theorem bytes_Wk (ws : List S76) : Pl.bytes (Wk ws) := by
  induction ws with
  | nil => intro x hx; cases hx
  | cons p ws ih => rw [Wk_cons]; exact Pl.bytes_append (Pl.bytes_append (bytes_grp _) (bytes_grp _)) ih
theorem bytes_recI (n : Int) (ws : List S76) (c : Int) (b : Bool) : Pl.bytes (recI n ws c b) := Pl.bytes_append (bytes_grp _) (Pl.bytes_append (bytes_grp _) (Pl.bytes_append (bytes_Wk _) (Pl.bytes_append (bytes_grp _) (bytes_grp _))))
def appendI (s o : List Int) (n : Int) (ws : List S76) (c : Int) (b : Bool) : List Int × List Int × Int :=
  if (readI s o).2.2 = 0 then
    if rdMay n c ws.length = true ∧ n = ((readI s o).1.length : Int) + ((readI s o).2.1.length : Int) + 1 then
      if s.length + (o ++ Pl.frameI (recI n ws c b)).length > 1048576 then ([], [], 2) else (s, o ++ Pl.frameI (recI n ws c b), 0)
    else ([], [], 1)
  else ([], [], (readI s o).2.2)
theorem may_len {n c : Int} {m : Nat} (h : rdMay n c m = true) : 1 ≤ n ∧ n ≤ 1099511627776 ∧ 0 ≤ c ∧ c ≤ 1099511627776 ∧ m ≤ 64 := by
  unfold rdMay at h
  simp only [Bool.and_eq_true, decide_eq_true_eq] at h
  exact ⟨h.1.1.1.1, h.1.1.1.2, h.1.1.2, h.1.2, h.2⟩
theorem next_eq (s o : List Int) (hs : Pl.bytes s) (ho : Pl.bytes o) (n : Int) : (n != wrap64 (wrap64 (((readI s o).1.length : Int) + ((readI s o).2.1.length : Int)) + 1)) = !(decide (n = ((readI s o).1.length : Int) + ((readI s o).2.1.length : Int) + 1)) := by
  have h := readI_small s o hs ho
  have h1 := h.1.1
  have h2 := h.2.1
  have e1 : wrap64 (((readI s o).1.length : Int) + ((readI s o).2.1.length : Int)) = ((readI s o).1.length : Int) + ((readI s o).2.1.length : Int) := w64 (by omega) (by omega)
  rw [e1, w64 (n := ((readI s o).1.length : Int) + ((readI s o).2.1.length : Int) + 1) (by omega) (by omega)]
  by_cases c : n = ((readI s o).1.length : Int) + ((readI s o).2.1.length : Int) + 1
  · rw [decide_eq_true c]; exact bne_eq_false_iff_eq.mpr c
  · rw [decide_eq_false c]; exact bne_iff_ne.mpr c
theorem jAppend (s o : List Int) (hs : Pl.bytes s) (ho : Pl.bytes o) (hl : s.length ≤ 1000000000) (hm : o.length ≤ 1000000000) (n : Int) (ws : List S76) (c : Int) (b : Bool) (hn : Oc.ok64 n = true) (hw : wok ws) (hc : Oc.ok64 c = true) (k : Nat) (hk : 100 ≤ k) : journal_Append.f k s o n ws c b = some (appendI s o n ws c b) := by
  unfold journal_Append.f appendI
  rw [jRead s o hs ho (by omega) (by omega), Option.bind_some]
  by_cases h0 : (readI s o).2.2 = 0
  case neg => rw [if_neg h0, if_neg h0]
  rw [if_pos h0, if_pos h0, may_eq, Option.bind_some, next_eq s o hs ho n]
  by_cases hg : rdMay n c ws.length = true ∧ n = ((readI s o).1.length : Int) + ((readI s o).2.1.length : Int) + 1
  · rw [if_pos hg, if_pos ⟨hg.1, by rw [decide_eq_true hg.2]; rfl⟩]
    have hlen := (may_len hg.1).2.2.2.2
    have hr := recI_length n ws c b hn hw (by omega) hc
    have hfl := Pl.frameI_length (recI n ws c b)
    rw [jRecord n ws c b hn hw (by omega) hc k (by omega), Option.bind_some, show seal_Frame.f (recI n ws c b) = some (Pl.frameI (recI n ws c b), 0) from by unfold seal_Frame.f; rw [if_neg (by omega)], Option.bind_some, if_pos rfl,
      show slices_Clone_byte_byte.f s = some s from by unfold slices_Clone_byte_byte.f; rw [if_pos (by omega)], Option.bind_some]
    unfold slices_Concat_byte_byte.f
    have e : [o, Pl.frameI (recI n ws c b)].flatten = o ++ Pl.frameI (recI n ws c b) := by simp
    dsimp only
    rw [e, if_pos (by rw [List.length_append]; omega), Option.bind_some, w64 (by omega) (by rw [List.length_append]; omega)]
    by_cases hsz : s.length + (o ++ Pl.frameI (recI n ws c b)).length > 1048576
    · rw [if_pos hsz, if_pos (by omega)]
    · rw [if_neg hsz, if_neg (by omega)]
  · rw [if_neg hg, if_neg (fun h => hg ⟨h.1, by
      have := h.2
      by_cases hc : n = ((readI s o).1.length : Int) + ((readI s o).2.1.length : Int) + 1
      · exact hc
      · rw [decide_eq_false hc] at this; cases this⟩)]
end Go.Proofs.Ytfcdaifaocgjfaa.Pure
end
section
namespace Go.Proofs.Ytfcdaifaocgjfaa.Ra
open Go.RowKit Go.Proofs.YtfcdaifaocgjfaaW.PrintWords Go.Proofs.YtfcdaifaocgjfaaW.PrintLast Go.Proofs.YtfcdaifaocgjfaaW.PrintMore Go.Proofs.Ytfcdaifaocgjfaa.Pr
instance : Inhabited S76 := ⟨z76⟩
instance : Inhabited S50 := ⟨z50⟩
variable {H : Type} {enc : TypeId × Value → H} {W : World}
theorem openB {P : Program} {k : IntKind} {t e : TypeId} (ht : P.underlying t = some (.slice e)) (he : P.underlying e = some (.int k)) (hc : P.cellsOf e = 1) {fuel : Nat} {cs : List Value} {x : DataW H × List MemPlace} (h : DataW.trod enc P W 0 (fun _ => true) true fuel t cs = some x) (hw : ∀ n ∈ x.1.weights P t, n ≤ reachBytes) :
    ∃ (l : List Int) (A : Option Addr) (c : Nat), cs = [.slice A l.length c] ∧ l.length ≤ c ∧ Kd.C (Kd.int k) W A l.length l ∧ (∀ y ∈ l, (Lit.int k y).wf = true) ∧ l.length * P.bytesOf e ≤ reachBytes := by
  rcases ChangeShapes.open_ints ht he hc h with ⟨rfl, _⟩ | ⟨a, len, cap, zs, rfl, _, hl, hm, hz, hx, hcell, hwz⟩
  · exact ⟨[], none, 0, rfl, Nat.le_refl _, Kd.C_of_reads (d := (0 : Int)) (h1 := fun _ => rfl) ⟨rfl, by decide, fun h => absurd h (by decide)⟩, (fun y hy => by cases hy), by simp⟩
  · simp only [if_true] at hz
    have hlen : (zs.take len).length = len := by rw [List.length_take]; omega
    have hsz : len * P.bytesOf e ≤ reachBytes := by
      subst hx
      have h2 := hw (((ChangeShapes.lits (H := H) k (zs.take len)).length + (ChangeShapes.lits (H := H) k (zs.drop len)).length) * P.bytesOf e) (by simp [DataW.weights, ht])
      refine Nat.le_trans (Nat.mul_le_mul_right _ ?_) h2
      simp [ChangeShapes.lits]
      omega
    refine ⟨zs.take len, some a, cap, by rw [hlen], by omega, Kd.C_of_reads (d := (0 : Int)) (h1 := fun _ => rfl) ⟨rfl, by simp only [maxLen] at hm; omega, fun _ => ⟨a, rfl, fun j hj => ?_⟩⟩, fun y hy => hwz y (List.mem_of_mem_take hy), by rw [hlen]; exact hsz⟩
    rw [hlen] at hj
    rw [hcell j (by omega)]
    simp [List.getD_eq_getElem?_getD, hj]
set_option maxRecDepth 100000 in
theorem openDisk {v : Value} {d : DataW H} {p : List MemPlace} (hv : Value.okWide Try.prog W .any 0 24 v) (h : DataW.Trod enc Try.prog W 0 (fun _ => true) true 24 v d p) (hw : ∀ n ∈ d.weights Try.prog 24, n ≤ reachBytes) :
    ∃ (l : List Int) (A : Option Addr) (c : Nat) (l' : List Int) (A' : Option Addr) (c' : Nat), v = .agg #[.slice A l.length c, .slice A' l'.length c'] ∧ (l.length ≤ c ∧ l'.length ≤ c') ∧ (Kd.C (Kd.int .u8) W A l.length l ∧ Kd.C (Kd.int .u8) W A' l'.length l') ∧
      ((∀ y ∈ l, (Lit.int .u8 y).wf = true) ∧ ∀ y ∈ l', (Lit.int .u8 y).wf = true) ∧ (l.length ≤ reachBytes ∧ l'.length ≤ reachBytes) := by
  obtain ⟨v0, v1, y0, y1, n, rfl, rfl, rfl, h0, h1⟩ := Joins.open_agg2 Try.underlying24 (by kernel_rfl) (by kernel_rfl) hv h
  have hwl : ∀ m, (m ∈ y0.1.weights Try.prog 22 ∨ m ∈ y1.1.weights Try.prog 22) → m ≤ reachBytes := fun m hm => hw m (by
    simp only [DataW.weights, Try.underlying24, List.map_cons, List.map_nil, DataW.weightsEach, List.mem_append]
    rcases hm with h | h
    · exact .inl h
    · exact .inr (.inl h))
  obtain ⟨l, A, c, e0, a1, a2, a3, a4⟩ := openB Try.underlying22 Try.underlying5 (by kernel_rfl) h0 (fun m hm => hwl m (.inl hm))
  obtain ⟨l', A', c', e1, b1, b2, b3, b4⟩ := openB Try.underlying22 Try.underlying5 (by kernel_rfl) h1 (fun m hm => hwl m (.inr hm))
  have hb : Try.prog.bytesOf 5 = 1 := by kernel_rfl
  rw [hb, Nat.mul_one] at a4 b4
  simp only [List.cons.injEq, and_true] at e0 e1
  exact ⟨l, A, c, l', A', c', by rw [e0, e1], ⟨a1, b1⟩, ⟨a2, b2⟩, ⟨a3, b3⟩, ⟨a4, b4⟩⟩
/-- The places of a week. -/
theorem openP {fuel : Nat} {cs : List Value} {x : DataW H × List MemPlace} (h : DataW.trod enc Try.prog W 0 (fun _ => true) true fuel 46 cs = some x) :
    ∃ (l : List S76) (A : Option Addr) (c : Nat), cs = [.slice A l.length c] ∧ l.length ≤ c ∧ Kd.C k76 W A l.length l ∧ ∀ y ∈ l, (Lit.int .i64 y.f0).wf = true ∧ (Lit.int .i64 y.f1).wf = true := by
  rcases Deep.open_slice_pairs Try.underlying46 Try.underlying76 (by kernel_rfl) rfl rfl (by kernel_rfl) (by kernel_rfl) h with ⟨rfl, _⟩ | ⟨a, len, cap, m, n, V0, V1, D0, D1, P0, P1, rfl, _, hl, hm, hmm, _, hx⟩
  · exact ⟨[], none, 0, rfl, Nat.le_refl _, Kd.C_nil _ _, fun y hy => by cases hy⟩
  · simp only [if_true] at hmm
    subst hmm
    have each : ∀ i, i < len → ∃ s : S76, V0 i = .int .i64 s.f0 ∧ V1 i = .int .i64 s.f1 ∧ (Lit.int .i64 s.f0).wf = true ∧ (Lit.int .i64 s.f1).wf = true := by
      intro i hi
      obtain ⟨_, _, h0, h1⟩ := hx i (by omega)
      obtain ⟨z0, e0, _, w0⟩ := DataW.trod_int Try.underlying3 h0
      obtain ⟨z1, e1, _, w1⟩ := DataW.trod_int Try.underlying3 h1
      simp only [List.cons.injEq, and_true] at e0 e1
      exact ⟨⟨z0, z1⟩, e0, e1, w0, w1⟩
    obtain ⟨f, hf⟩ := Deep.choose_lt each
    refine ⟨(List.range len).map f, some a, m, by simp, by simpa using hl, ⟨rfl, by simp only [maxLen] at hm; simp; omega, fun _ => ⟨a, rfl, fun j p hj => ?_⟩⟩, fun y hy => ?_⟩
    · have hjl : j < len := by have := (List.getElem?_eq_some_iff.1 hj).1; simpa using this
      have hp : p = f j := by
        rw [List.getElem?_map, List.getElem?_range hjl] at hj
        exact (Option.some.inj hj).symm
      subst hp
      obtain ⟨e0, e1, _⟩ := hf j hjl
      obtain ⟨c0, c1, _⟩ := hx j (by omega)
      rw [e0] at c0
      rw [e1] at c1
      refine ⟨[.int .i64 (f j).f0, .int .i64 (f j).f1], rfl, k76_mk W (f j), fun i u hu => ?_⟩
      show W.cell? (a.add (j * 2 + i)) = some u
      match i, hu with
      | 0, hu => rw [← Option.some.inj hu]; exact c0
      | 1, hu => rw [← Option.some.inj hu]; exact c1
      | i + 2, hu => simp at hu
    · obtain ⟨i, hi, rfl⟩ := List.mem_map.1 hy
      exact (hf i (List.mem_range.1 hi)).2.2
/-- The numbers of a version are numbers of its kinds. -/
def VerWf (s : S50) : Prop := ((Lit.int .i64 s.f0).wf = true ∧ (Lit.int .i64 s.f2).wf = true) ∧ ∀ y ∈ s.f1.f0, (Lit.int .i64 y.f0).wf = true ∧ (Lit.int .i64 y.f1).wf = true
set_option maxRecDepth 100000 in
theorem openVer4 {n : Nat} {v0 v1 v2 v3 : Value} {y0 y1 y2 y3 : DataW H × List MemPlace} (h0 : DataW.trod enc Try.prog W 0 (fun _ => true) true n 3 [v0] = some y0) (h1 : DataW.trod enc Try.prog W 0 (fun _ => true) true n 48 [v1] = some y1)
    (h2 : DataW.trod enc Try.prog W 0 (fun _ => true) true n 3 [v2] = some y2) (h3 : DataW.trod enc Try.prog W 0 (fun _ => true) true n 4 [v3] = some y3) :
    ∃ (s : S50) (A : Option Addr) (c : Nat), v0 = .int .i64 s.f0 ∧ v1 = .slice A s.f1.f0.length c ∧ v2 = .int .i64 s.f2 ∧ v3 = .bool s.f3 ∧ s.f1.f0.length ≤ c ∧ Kd.C k76 W A s.f1.f0.length s.f1.f0 ∧ VerWf s := by
  obtain ⟨z0, e0, _, w0⟩ := DataW.trod_int Try.underlying3 h0
  obtain ⟨z2, e2, _, w2⟩ := DataW.trod_int Try.underlying3 h2
  obtain ⟨b, e3, _⟩ := DataW.trod_bool Try.underlying4 h3
  obtain ⟨y, m, _, _, hy⟩ := ChangeShapes.trod_struct1 Try.underlying48 h1
  have hy' : DataW.trod enc Try.prog W 0 (fun _ => true) true m 46 [v1] = some y := by
    have hc : Try.prog.cellsOf 46 = 1 := by kernel_rfl
    simpa [hc] using hy
  obtain ⟨l, A, c, e1, hl, hC, hw⟩ := openP hy'
  simp only [List.cons.injEq, and_true] at e0 e1 e2 e3
  exact ⟨⟨z0, ⟨l⟩, z2, b⟩, A, c, e0, e1, e2, e3, hl, hC, ⟨w0, w2⟩, hw⟩
set_option maxRecDepth 100000 in
theorem openVer {v : Value} {d : DataW H} {p : List MemPlace} (hv : Value.okWide Try.prog W .any 0 50 v) (h : DataW.Trod enc Try.prog W 0 (fun _ => true) true 50 v d p) :
    ∃ (s : S50) (A : Option Addr) (c : Nat), v = .agg #[.int .i64 s.f0, .slice A s.f1.f0.length c, .int .i64 s.f2, .bool s.f3] ∧ s.f1.f0.length ≤ c ∧ Kd.C k76 W A s.f1.f0.length s.f1.f0 ∧ VerWf s := by
  obtain ⟨v0, v1, v2, v3, y0, y1, y2, y3, n, rfl, _, _, h0, h1, h2, h3⟩ := Joins.open_agg4 Try.underlying50 (by kernel_rfl) (by kernel_rfl) hv h
  obtain ⟨s, A, c, rfl, rfl, rfl, rfl, hl, hC, hw⟩ := openVer4 h0 h1 h2 h3
  exact ⟨s, A, c, rfl, hl, hC, hw⟩
end Go.Proofs.Ytfcdaifaocgjfaa.Ra
end
