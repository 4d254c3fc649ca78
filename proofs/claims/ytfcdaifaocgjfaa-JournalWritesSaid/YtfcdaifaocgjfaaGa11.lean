/- Parts of the proof of JournalWrites; no condition. -/
import Derived.Test.YtfcdaifaocgjfaaPla
import Derived.Test.YtfcdaifaocgjfaaGa8
import Derived.Test.YtfcdaifaocgjfaaGa9
import Derived.Test.YtfcdaifaocgjfaaPr10
import Derived.Test.YtfcdaifaocgjfaaGa3
import Derived.Test.YtfcdaifaocgjfaaPr35
import Derived.Test.YtfcdaifaocgjfaaGa10
import Derived.Test.YtfcdaifaocgjfaaGa5
import Derived.Test.YtfcdaifaocgjfaaPr13
import Derived.Test.YtfcdaifaocgjfaaPr24
import Derived.Test.YtfcdaifaocgjfaaGa7
section
namespace Go.Proofs.Ytfcdaifaocgjfaa.Pure
open Go.RowKit Go.Proofs.Ytfcdaifaocgjfaa.Pr Go.Proofs.YtfcdaifaocgjfaaW.PrintWords Go.Proofs.YtfcdaifaocgjfaaW.PrintLast Go.Proofs.YtfcdaifaocgjfaaW.PrintMore
theorem okB_bytes' {l : List Int} (h : Pl.bytes l) : Oc.okB l = true := (Oc.okB_iff l).2 h
theorem bytes_wf {l : List Int} (h : ∀ x ∈ l, (Lit.int .u8 x).wf = true) : Pl.bytes l := fun x hx => wf_u8 (h x hx)
theorem scanF_spec (l : List Int) (hb : Pl.bytes l) : ∀ (n a : Nat) (acc : List (List Int)), a ≤ l.length → l.take a = Pl.F acc → (∀ x ∈ acc, Pl.bytes x ∧ x.length ≤ 65536) →
    ∃ g : Nat, (Pl.scanF n l a acc).2 = g ∧ g ≤ l.length ∧ l.take g = Pl.F (Pl.scanF n l a acc).1 ∧ (∀ x ∈ (Pl.scanF n l a acc).1, Pl.bytes x ∧ x.length ≤ 65536) := by
  intro n
  induction n with
  | zero => intro a acc ha hF hx; exact ⟨a, rfl, ha, hF, hx⟩
  | succ n ih =>
    intro a acc ha hF hx
    rw [Pl.scanF]
    rcases Pl.openI_spec l hb a with ⟨e, h, he⟩ | ⟨body, a', haa, h, h1, h2, h3, h4⟩
    · rw [h, if_neg he]
      exact ⟨a, rfl, ha, hF, hx⟩
    · obtain rfl : a = a' := by omega
      rw [h, if_pos rfl]
      have e1 : (a : Int) + 8 + (body.length : Int) = ((a + (8 + body.length) : Nat) : Int) := by omega
      dsimp only
      rw [e1]
      refine ih (a + (8 + body.length)) (acc ++ [body]) (by omega) ?_ ?_
      · rw [List.take_add, hF, h3, Pl.F_append, Pl.F_one]
      · intro x hx'
        rcases List.mem_append.1 hx' with h' | h'
        · exact hx x h'
        · rw [List.mem_singleton.1 h']; exact ⟨h4, h2⟩
theorem scan_spec (l : List Int) (hb : Pl.bytes l) : ∃ g : Nat, (Pl.scanI l).2 = g ∧ g ≤ l.length ∧ l.take g = Pl.F (Pl.scanI l).1 ∧ (∀ x ∈ (Pl.scanI l).1, Pl.bytes x ∧ x.length ≤ 65536) :=
  scanF_spec l hb (l.length + 1) 0 [] (Nat.zero_le _) rfl (fun x hx => by cases hx)
theorem scan_count (l : List Int) (hb : Pl.bytes l) : (Pl.scanI l).1.length ≤ l.length := by
  obtain ⟨g, _, h2, h3, _⟩ := scan_spec l hb
  have := Pl.len_le_F (Pl.scanI l).1
  rw [← h3, List.length_take] at this
  omega
def readM (l : List Int) : Option S50 := if rdOk l = true then some ⟨(rd1 l).1, ⟨(rd2 l).1⟩, (rd3 l).1, (rd4 l).1 == 1⟩ else none
def vers : List (List Int) → Nat → Option (List S50)
  | [], _ => some []
  | x :: xs, n => (readM x).bind fun v => if v.f0 = (n : Int) then (vers xs (n + 1)).map (v :: ·) else none
theorem vers_length : ∀ (xs : List (List Int)) (n : Nat) (vs : List S50), vers xs n = some vs → vs.length = xs.length
  | [], _, vs, h => by cases h; rfl
  | x :: xs, n, vs, h => by
    rw [vers] at h
    obtain ⟨v, _, h⟩ := Option.bind_eq_some_iff.1 h
    split at h
    · obtain ⟨ws, hw, rfl⟩ := Option.map_eq_some_iff.1 h
      rw [List.length_cons, List.length_cons, vers_length xs (n + 1) ws hw]
    · cases h
theorem readM_weeks {l : List Int} {v : S50} (h : readM l = some v) : v.f1.f0.length ≤ 64 ∧ 1 ≤ v.f0 ∧ v.f0 ≤ 1099511627776 ∧ 0 ≤ v.f2 ∧ v.f2 ≤ 1099511627776 := by
  unfold readM at h
  split at h
  · rename_i hok
    obtain rfl := Option.some.inj h
    unfold rdOk rdMay at hok
    simp only [Bool.and_eq_true, decide_eq_true_eq] at hok
    exact ⟨hok.2.2, hok.2.1.1.1.1, hok.2.1.1.1.2, hok.2.1.1.2, hok.2.1.2⟩
  · cases h
theorem vers_weeks : ∀ (xs : List (List Int)) (n : Nat) (vs : List S50), vers xs n = some vs → ∀ v ∈ vs, v.f1.f0.length ≤ 64
  | [], _, vs, h => by cases h; intro v hv; cases hv
  | x :: xs, n, vs, h => by
    rw [vers] at h
    obtain ⟨v, hv, h⟩ := Option.bind_eq_some_iff.1 h
    split at h
    · obtain ⟨ws, hw, rfl⟩ := Option.map_eq_some_iff.1 h
      intro u hu
      rcases List.mem_cons.1 hu with rfl | hu
      · exact (readM_weeks hv).1
      · exact vers_weeks xs (n + 1) ws hw u hu
    · cases h
def res (o : Option (List S50)) (acc : List S50) (N m : Int) : List S50 × Int × Int := match o with
  | some vs => (acc ++ vs, 0, N)
  | none => ([], 340, m)
theorem rdL1' (l : List (List Int)) (i : Nat) (h : i < l.length) : rd_L1 l (i : Int) = l[i] := by simp [rd_L1, List.getD_eq_getElem?_getD, List.getElem?_eq_getElem h]
theorem jread (x : List Int) (hb : Oc.okB x = true) : journal_read.f x = some (journal_read_r x) := by unfold journal_read.f; rw [if_pos hb]
theorem jv_loop (l : List (List Int)) (hb : ∀ x ∈ l, Pl.bytes x) (hl : l.length ≤ 1000000000000) : ∀ (d i n : Nat) (acc : List S50), i + d = l.length → n + d < 4611686018427387904 → acc.length + d < 2000000000000 →
    ∃ m, jv_l0 (d + 1) l (n : Int) acc (i : Int) = some (res (vers (l.drop i) n) acc ((n + d : Nat) : Int) m) := by
  intro d
  induction d with
  | zero =>
    intro i n acc hi hn ha
    refine ⟨0, ?_⟩
    rw [jv_l0, if_neg (by omega), List.drop_eq_nil_of_le (by omega)]
    show some (acc, 0, (n : Int)) = some (acc ++ [], 0, ((n + 0 : Nat) : Int))
    rw [List.append_nil]
    rfl
  | succ d ih =>
    intro i n acc hi hn ha
    have hlt : i < l.length := by omega
    have hx := okB_bytes' (hb l[i] (List.getElem_mem hlt))
    rw [jv_l0, if_pos (show (i : Int) < (l.length : Int) by omega), if_pos (show (0 : Int) ≤ (i : Int) by omega), if_pos (show (0 : Int) ≤ (n : Int) ∧ (n : Int) < 4611686018427387904 from ⟨by omega, by omega⟩), rdL1' l i hlt, jread _ hx, Option.bind_some, List.drop_eq_getElem_cons hlt, vers]
    unfold readM
    by_cases hok : rdOk l[i] = true
    · rw [if_pos hok, if_pos (show (journal_read_r l[i]).2.2.2.2 = true from hok), Option.bind_some]
      by_cases hno : (rd1 l[i]).1 = (n : Int)
      · rw [if_pos hno, if_pos (show (journal_read_r l[i]).1 = (n : Int) from hno), if_pos (by omega), w64 (by omega) (by omega)]
        obtain ⟨m, hm⟩ := ih (i + 1) (n + 1) (acc ++ [⟨(rd1 l[i]).1, ⟨(rd2 l[i]).1⟩, (rd3 l[i]).1, (rd4 l[i]).1 == 1⟩]) (by omega) (by omega) (by rw [List.length_append, List.length_singleton]; omega)
        refine ⟨m, ?_⟩
        have e1 : (n : Int) + 1 = ((n + 1 : Nat) : Int) := by omega
        have e2 : (i : Int) + 1 = ((i + 1 : Nat) : Int) := by omega
        rw [e1, e2]
        refine Eq.trans hm ?_
        cases vers (l.drop (i + 1)) (n + 1) with
        | none => rfl
        | some ws =>
          show some (acc ++ [_] ++ ws, _, _) = some (acc ++ (_ :: ws), _, _)
          rw [List.append_assoc, show n + 1 + d = n + (d + 1) by omega]
          rfl
      · rw [if_neg hno, if_neg (show ¬ (journal_read_r l[i]).1 = (n : Int) from hno)]
        exact ⟨_, rfl⟩
    · rw [if_neg hok, if_neg (show ¬ (journal_read_r l[i]).2.2.2.2 = true from hok)]
      exact ⟨_, rfl⟩
def versI (b : List Int) (n : Nat) : Option (List S50) := if (Pl.scanI b).2 = (b.length : Int) then vers (Pl.scanI b).1 n else none
theorem jvf (b : List Int) (hb : Pl.bytes b) (hl : b.length ≤ 1000000000000) (n : Nat) (hn : n ≤ 1000000000000) : ∃ m, jv_f b (n : Int) = some (res (versI b n) [] ((n + (Pl.scanI b).1.length : Nat) : Int) m) := by
  obtain ⟨g, h1, h2, h3, h4⟩ := scan_spec b hb
  have hc := scan_count b hb
  unfold jv_f versI
  rw [show seal_Scan.f b = some (Pl.scanI b) from by unfold seal_Scan.f; rw [if_pos hl], Option.bind_some]
  by_cases c : (Pl.scanI b).2 = (b.length : Int)
  · rw [if_pos c, if_pos c]
    obtain ⟨m, hm⟩ := jv_loop (Pl.scanI b).1 (fun x hx => (h4 x hx).1) (by omega) (Pl.scanI b).1.length 0 n [] (by omega) (by omega) (by simp; omega)
    exact ⟨m, hm⟩
  · rw [if_neg c, if_neg c]
    exact ⟨_, rfl⟩
def readI (s o : List Int) : List S50 × List S50 × Int :=
  if s.length + o.length > 1048576 then ([], [], 2) else match versI s 1 with
  | none => ([], [], 340)
  | some a => match versI o (1 + (Pl.scanI s).1.length) with
    | none => ([], [], 340)
    | some b => (a, b, 0)
theorem jRead (s o : List Int) (hs : Pl.bytes s) (ho : Pl.bytes o) (hl : s.length ≤ 1000000000000000) (hm : o.length ≤ 1000000000000000) : journal_Read.f s o = some (readI s o) := by
  unfold journal_Read.f readI
  rw [w64 (by omega) (by omega)]
  by_cases c : s.length + o.length > 1048576
  · rw [if_pos c, if_pos (by omega)]
  rw [if_neg c, if_neg (by omega)]
  have hc := scan_count s hs
  obtain ⟨m, h1⟩ := jvf s hs (by omega) 1 (by omega)
  rw [show ((1 : Int)) = ((1 : Nat) : Int) from rfl, h1, Option.bind_some]
  cases versI s 1 with
  | none => rfl
  | some a =>
    show (if (0 : Int) = 0 then _ else _) = _
    rw [if_pos rfl]
    obtain ⟨m2, h2⟩ := jvf o ho (by omega) (1 + (Pl.scanI s).1.length) (by omega)
    show (jv_f o ((1 + (Pl.scanI s).1.length : Nat) : Int)).bind _ = _
    rw [h2, Option.bind_some]
    cases versI o (1 + (Pl.scanI s).1.length) with
    | none => rfl
    | some b => rfl
theorem jCheck (s o : List Int) (hs : Pl.bytes s) (ho : Pl.bytes o) (hl : s.length ≤ 1000000000000000) (hm : o.length ≤ 1000000000000000) : journal_Check.f s o = some (readI s o).2.2 := by
  unfold journal_Check.f
  rw [jRead s o hs ho hl hm, Option.bind_some]
end Go.Proofs.Ytfcdaifaocgjfaa.Pure
end
section
namespace Go.Proofs.Ytfcdaifaocgjfaa.Pure
open Go.RowKit Go.Proofs.Ytfcdaifaocgjfaa.Pr Go.Proofs.YtfcdaifaocgjfaaW.PrintWords Go.Proofs.YtfcdaifaocgjfaaW.PrintLast Go.Proofs.YtfcdaifaocgjfaaW.PrintMore
theorem refOpen (l : List Int) (hb : Pl.bytes l) (a : Int) : chalklineref02_Open.f l a = some (Pl.openI l a) := by
  unfold chalklineref02_Open.f
  rw [if_pos (by rw [List.all_eq_true]; intro x hx; have := hb x hx; simp [this.1, this.2])]
theorem openI_far (l : List Int) (a : Int) (h : (l.length : Int) < a) : (Pl.openI l a).2.2 ≠ 0 := by
  unfold Pl.openI
  by_cases h0 : a < 0
  · rw [if_pos h0]; decide
  rw [if_neg h0, if_pos h]
  decide
theorem open_ok (l : List Int) (a : Int) (h : (Pl.openI l a).2.2 = 0) : a + 8 ≤ (Pl.openI l a).2.1 := by
  unfold Pl.openI at h ⊢
  by_cases h0 : a < 0
  · rw [if_pos h0] at h; exact absurd h (by decide)
  rw [if_neg h0] at h ⊢
  by_cases h1 : (l.length : Int) < a
  · rw [if_pos h1] at h; exact absurd h (by decide)
  rw [if_neg h1] at h ⊢
  by_cases h2 : (l.drop a.toNat).length < 8
  · rw [if_pos h2] at h; exact absurd h (by decide)
  rw [if_neg h2] at h ⊢
  by_cases h3 : 65536 < Pl.get4 (l.drop a.toNat)
  · rw [if_pos h3] at h; exact absurd h (by decide)
  rw [if_neg h3] at h ⊢
  by_cases h4 : (l.drop a.toNat).length - 8 < Pl.get4 (l.drop a.toNat)
  · rw [if_pos h4] at h; exact absurd h (by decide)
  rw [if_neg h4] at h ⊢
  by_cases h5 : Pl.sumI (((l.drop a.toNat).drop 8).take (Pl.get4 (l.drop a.toNat))) = Pl.get4 ((l.drop a.toNat).drop 4)
  · rw [if_pos h5]; dsimp only; omega
  · rw [if_neg h5] at h; exact absurd h (by decide)
theorem refScan_loop (l : List Int) (hb : Pl.bytes l) : ∀ (n : Nat) (a : Int) (acc : List (List Int)), (l.length : Int) < a + 8 * n → acc.length + n ≤ 1000000000000 →
    chalklineref02_Scan.l0 (n + 1) l acc a = some (Pl.scanF n l a acc) := by
  intro n
  induction n with
  | zero =>
    intro a acc h _
    simp only [chalklineref02_Scan.l0, Pl.scanF]
    rw [refOpen l hb, Option.bind_some, if_neg (openI_far l a (by omega))]
  | succ n ih =>
    intro a acc h h2
    rw [Pl.scanF, chalklineref02_Scan.l0]
    rw [refOpen l hb, Option.bind_some]
    by_cases c : (Pl.openI l a).2.2 = 0
    · rw [if_pos c, if_pos c, if_pos (by omega)]
      have := open_ok l a c
      exact ih _ _ (by omega) (by rw [List.length_append, List.length_singleton]; omega)
    · rw [if_neg c, if_neg c]
theorem refScan (l : List Int) (hb : Pl.bytes l) (hl : l.length ≤ 100000000000) : ∀ k, l.length + 2 ≤ k → chalklineref02_Scan.f k l = some (Pl.scanI l) :=
  up (f := fun k => chalklineref02_Scan.f k l) (chalklineref02_Scan.mono l) (k := l.length + 2) (refScan_loop l hb (l.length + 1) 0 [] (by omega) (by simp; omega))
theorem refWeek_loop (l : List Int) (hb : Oc.okB l = true) (hl : l.length ≤ 1000000000000) (N : Nat) (hN : N ≤ 64) : ∀ (d i : Nat) (a : Int) (acc : List S76), i + d = N → acc.length = i → ∀ k, d + 22 ≤ k →
    chalklineref04_Get.l0 k l (N : Int) a (i : Int) acc = some (week_Get_ws d l a acc) := by
  intro d
  induction d with
  | zero =>
    intro i a acc hi ha k hk
    obtain ⟨k, rfl⟩ : ∃ j, k = j + 1 := ⟨k - 1, by omega⟩
    rw [chalklineref04_Get.l0, if_neg (by omega)]
    rfl
  | succ d ih =>
    intro i a acc hi ha k hk
    obtain ⟨k, rfl⟩ : ∃ j, k = j + 1 := ⟨k - 1, by omega⟩
    rw [chalklineref04_Get.l0, if_pos (show (i : Int) < (N : Int) by omega), refGet l a hb hl k (by omega), Option.bind_some, week_Get_ws]
    by_cases h1 : (Oc.getI l a).2.2 = 0
    · rw [if_pos h1, if_neg (show ¬ (Oc.getI l a).2.2 ≠ 0 by simpa using h1), refGet l _ hb hl k (by omega), Option.bind_some]
      by_cases h2 : (Oc.getI l (Oc.getI l a).2.1).2.2 = 0
      · rw [if_pos h2, if_neg (show ¬ (Oc.getI l (Oc.getI l a).2.1).2.2 ≠ 0 by simpa using h2), if_pos (show acc.length < 8796093022208 by omega), w64 (by omega) (by omega)]
        have e1 : (i : Int) + 1 = ((i + 1 : Nat) : Int) := by omega
        rw [e1]
        exact ih (i + 1) _ _ (by omega) (by rw [List.length_append, List.length_singleton]; omega) k (by omega)
      · rw [if_neg h2, if_pos h2]
    · rw [if_neg h1, if_pos h1]
theorem refWeek (l : List Int) (hb : Oc.okB l = true) (hl : l.length ≤ 1000000000000) (a : Int) (k : Nat) (hk : 90 ≤ k) : chalklineref04_Get.f k l a = some (week_Get_w l a) := by
  unfold chalklineref04_Get.f week_Get_w
  rw [refGet l a hb hl k (by omega), Option.bind_some]
  by_cases h1 : (Oc.getI l a).2.2 = 0
  · rw [if_pos h1, if_neg (show ¬ (Oc.getI l a).2.2 ≠ 0 by simpa using h1)]
    by_cases h2 : (Oc.getI l a).1 < 0
    · rw [if_pos h2, if_pos h2]
    rw [if_neg h2, if_neg h2]
    by_cases h3 : (Oc.getI l a).1 > 64
    · rw [if_pos h3, if_pos (by omega)]
    rw [if_neg h3, if_neg (by omega)]
    obtain ⟨n, hn⟩ := Int.eq_ofNat_of_zero_le (Int.not_lt.1 h2)
    rw [hn, Int.toNat_natCast]
    exact refWeek_loop l hb hl n (by omega) n 0 _ [] (by omega) rfl k (by omega)
  · rw [if_neg h1, if_pos h1]
theorem refMay (no cost : Int) (ws : List S76) (b : Bool) : chalklineref34_may.f no ws cost b = some (rdMay no cost ws.length) := by
  unfold chalklineref34_may.f rdMay
  by_cases h1 : no ≥ 1
  · rw [if_pos h1, decide_eq_true (show 1 ≤ no from h1), Bool.true_and]
    by_cases h2 : no ≤ 1099511627776
    · rw [if_pos h2, decide_eq_true h2, Bool.true_and]
      by_cases h3 : cost ≥ 0
      · rw [if_pos h3, decide_eq_true (show 0 ≤ cost from h3), Bool.true_and]
        by_cases h4 : cost ≤ 1099511627776
        · rw [if_pos h4, decide_eq_true h4, Bool.true_and]
          congr 1
          by_cases h5 : ws.length ≤ 64
          · rw [decide_eq_true h5, decide_eq_true (show (ws.length : Int) ≤ 64 by omega)]
          · rw [decide_eq_false h5, decide_eq_false (show ¬ (ws.length : Int) ≤ 64 by omega)]
        · rw [if_neg h4, decide_eq_false h4, Bool.false_and]
      · rw [if_neg h3, decide_eq_false (show ¬ 0 ≤ cost from h3), Bool.false_and, Bool.false_and]
    · rw [if_neg h2, decide_eq_false h2, Bool.false_and, Bool.false_and, Bool.false_and]
  · rw [if_neg h1, decide_eq_false (show ¬ 1 ≤ no from h1), Bool.false_and, Bool.false_and, Bool.false_and, Bool.false_and]
theorem rdNum_err (l : List Int) (a e : Int) (h : e ≠ 0) : rdNum l a e = (0, a, e) := by unfold rdNum; rw [if_neg h]
theorem rdWk_err (l : List Int) (a e : Int) (h : e ≠ 0) : rdWk l a e = ([], a, e) := by unfold rdWk; rw [if_neg h]
theorem rd4_e3 (l : List Int) (h : (rd3 l).2.2 ≠ 0) : (rd4 l).2.2 ≠ 0 := by unfold rd4; rw [rdNum_err l _ _ h]; exact h
theorem rd4_e2 (l : List Int) (h : (rd2 l).2.2 ≠ 0) : (rd4 l).2.2 ≠ 0 := rd4_e3 l (by unfold rd3; rw [rdNum_err l _ _ h]; exact h)
theorem rd4_e1 (l : List Int) (h : (rd1 l).2.2 ≠ 0) : (rd4 l).2.2 ≠ 0 := rd4_e2 l (by unfold rd2; rw [rdWk_err l _ _ h]; exact h)
theorem rdOk_no (l : List Int) (h : (rd4 l).2.2 ≠ 0) : rdOk l = false := by unfold rdOk; rw [decide_eq_false h]; rfl
theorem refRead1 (l : List Int) (hb : Oc.okB l = true) (hl : l.length ≤ 1000000000000) (k : Nat) (hk : 90 ≤ k) :
    ∃ r, chalklineref34_read.f k l = some r ∧ r.2.2.2.2 = rdOk l ∧ (rdOk l = true → r = journal_read_r l) := by
  have d1 : rd1 l = Oc.getI l 0 := by unfold rd1 rdNum; rw [if_pos rfl]
  unfold chalklineref34_read.f
  rw [refGet l 0 hb hl k (by omega), Option.bind_some, ← d1]
  by_cases h1 : (rd1 l).2.2 = 0
  case neg =>
    have := rdOk_no l (rd4_e1 l h1)
    rw [if_neg h1]; exact ⟨_, rfl, this.symm, fun h => by rw [this] at h; cases h⟩
  have d2 : rd2 l = week_Get_w l (rd1 l).2.1 := by unfold rd2 rdWk; rw [if_pos h1]
  rw [if_pos h1, refWeek l hb hl _ k hk, Option.bind_some, ← d2]
  by_cases h2 : (rd2 l).2.2 = 0
  case neg =>
    have := rdOk_no l (rd4_e2 l h2)
    rw [if_neg h2]; exact ⟨_, rfl, this.symm, fun h => by rw [this] at h; cases h⟩
  have d3 : rd3 l = Oc.getI l (rd2 l).2.1 := by unfold rd3 rdNum; rw [if_pos h2]
  rw [if_pos h2, refGet l _ hb hl k (by omega), Option.bind_some, ← d3]
  by_cases h3 : (rd3 l).2.2 = 0
  case neg =>
    have := rdOk_no l (rd4_e3 l h3)
    rw [if_neg h3]; exact ⟨_, rfl, this.symm, fun h => by rw [this] at h; cases h⟩
  have d4 : rd4 l = Oc.getI l (rd3 l).2.1 := by unfold rd4 rdNum; rw [if_pos h3]
  rw [if_pos h3, refGet l _ hb hl k (by omega), Option.bind_some, ← d4]
  by_cases h4 : (rd4 l).2.2 = 0
  case neg =>
    have := rdOk_no l h4
    rw [if_neg h4]; exact ⟨_, rfl, this.symm, fun h => by rw [this] at h; cases h⟩
  rw [if_pos h4]
  by_cases h5 : (rd4 l).2.1 = (l.length : Int)
  case neg =>
    have : rdOk l = false := by unfold rdOk; rw [decide_eq_false h5, Bool.and_false]; rfl
    rw [if_neg h5]; exact ⟨_, rfl, this.symm, fun h => by rw [this] at h; cases h⟩
  rw [if_pos h5]
  by_cases h6 : (rd4 l).1 < 0
  · have : rdOk l = false := by unfold rdOk; rw [decide_eq_false (show ¬ 0 ≤ (rd4 l).1 by omega), Bool.and_false]; rfl
    rw [if_pos h6]; exact ⟨_, rfl, this.symm, fun h => by rw [this] at h; cases h⟩
  rw [if_neg h6]
  by_cases h7 : (rd4 l).1 > 1
  · have : rdOk l = false := by unfold rdOk; rw [decide_eq_false (show ¬ (rd4 l).1 ≤ 1 by omega), Bool.and_false]; rfl
    rw [if_pos h7]; exact ⟨_, rfl, this.symm, fun h => by rw [this] at h; cases h⟩
  rw [if_neg h7, refMay, Option.bind_some]
  have hok : rdOk l = rdMay (rd1 l).1 (rd3 l).1 (rd2 l).1.length := by
    unfold rdOk
    rw [decide_eq_true h4, decide_eq_true h5, decide_eq_true (show 0 ≤ (rd4 l).1 by omega), decide_eq_true (show (rd4 l).1 ≤ 1 by omega)]
    rfl
  exact ⟨_, rfl, hok.symm, fun _ => by unfold journal_read_r; rw [hok]⟩
theorem refVers_loop (b : List Int) (good : Int) (l : List (List Int)) (hb : ∀ x ∈ l, Pl.bytes x ∧ x.length ≤ 65536) (hl : l.length ≤ 1000000000000) (n0 : Nat) (hn : n0 ≤ 1000000000000) : ∀ (d i : Nat) (acc : List S50), i + d = l.length → acc.length + d < 2000000000000 → ∀ k, d + 91 ≤ k →
    chalklineref34_versions.l0 k b (n0 : Int) good acc l (l.length : Int) (i : Int) = some (match vers (l.drop i) (n0 + i) with | some ws => (acc ++ ws, good == (b.length : Int)) | none => ([], false)) := by
  intro d
  induction d with
  | zero =>
    intro i acc hi ha k hk
    obtain ⟨k, rfl⟩ : ∃ j, k = j + 1 := ⟨k - 1, by omega⟩
    rw [chalklineref34_versions.l0, if_neg (by omega), List.drop_eq_nil_of_le (by omega)]
    show _ = some (acc ++ [], _)
    rw [List.append_nil]
  | succ d ih =>
    intro i acc hi ha k hk
    obtain ⟨k, rfl⟩ : ∃ j, k = j + 1 := ⟨k - 1, by omega⟩
    have hlt : i < l.length := by omega
    have hx := hb l[i] (List.getElem_mem hlt)
    obtain ⟨r, hr, h1, h2⟩ := refRead1 l[i] (okB_bytes' hx.1) (by omega) k (by omega)
    rw [chalklineref34_versions.l0, if_pos (show (i : Int) < (l.length : Int) by omega), if_pos (show (0 : Int) ≤ (i : Int) by omega), if_pos (show (i : Int) < (l.length : Int) by omega), rdL1' l i hlt, hr, Option.bind_some, List.drop_eq_getElem_cons hlt, vers, w64 (n := (n0 : Int) + (i : Int)) (by omega) (by omega), w64 (n := (i : Int) + 1) (by omega) (by omega), h1]
    unfold readM
    by_cases hok : rdOk l[i] = true
    · obtain rfl := h2 hok
      rw [if_pos hok, if_pos hok, Option.bind_some]
      have e0 : (n0 : Int) + (i : Int) = ((n0 + i : Nat) : Int) := by omega
      have e2 : (i : Int) + 1 = ((i + 1 : Nat) : Int) := by omega
      rw [e0, e2]
      by_cases hno : (rd1 l[i]).1 = ((n0 + i : Nat) : Int)
      · rw [if_pos hno, if_pos (show (journal_read_r l[i]).1 = ((n0 + i : Nat) : Int) from hno), if_pos (show acc.length < 2932031007402 by omega)]
        refine Eq.trans (ih (i + 1) (acc ++ [⟨(rd1 l[i]).1, ⟨(rd2 l[i]).1⟩, (rd3 l[i]).1, (rd4 l[i]).1 == 1⟩]) (by omega) (by rw [List.length_append, List.length_singleton]; omega) k (by omega)) ?_
        rw [show n0 + (i + 1) = n0 + i + 1 by omega]
        cases vers (l.drop (i + 1)) (n0 + i + 1) with
        | none => rfl
        | some ws =>
          show some (acc ++ [_] ++ ws, _) = some (acc ++ (_ :: ws), _)
          rw [List.append_assoc]
          rfl
      · rw [if_neg hno, if_neg (show ¬ (journal_read_r l[i]).1 = ((n0 + i : Nat) : Int) from hno)]
    · rw [if_neg hok, if_neg hok]
      rfl
theorem refVers (b : List Int) (hb : Pl.bytes b) (hl : b.length ≤ 10000000) (n : Nat) (hn : n ≤ 1000000000000) (k : Nat) (hk : b.length + 200 ≤ k) :
    chalklineref34_versions.f k b (n : Int) = some (match vers (Pl.scanI b).1 n with | some ws => (ws, (Pl.scanI b).2 == (b.length : Int)) | none => ([], false)) := by
  obtain ⟨g, h1, h2, h3, h4⟩ := scan_spec b hb
  have hc := scan_count b hb
  unfold chalklineref34_versions.f
  rw [refScan b hb (by omega) k (by omega), Option.bind_some]
  have := refVers_loop b (Pl.scanI b).2 (Pl.scanI b).1 h4 (by omega) n hn (Pl.scanI b).1.length 0 [] (by omega) (by simp; omega) k (by omega)
  rw [List.drop_zero, Nat.add_zero] at this
  exact this
theorem refRead (s o : List Int) (hs : Pl.bytes s) (ho : Pl.bytes o) (hl : s.length ≤ 1000000000000000) (hm : o.length ≤ 1000000000000000) (k : Nat) (hk : 2000000 ≤ k) : chalklineref34_Read.f k s o = some (readI s o) := by
  unfold chalklineref34_Read.f readI
  rw [w64 (by omega) (by omega)]
  by_cases c : s.length + o.length > 1048576
  · rw [if_pos c, if_pos (by omega)]
  rw [if_neg c, if_neg (by omega)]
  have hc := scan_count s hs
  rw [show ((1 : Int)) = ((1 : Nat) : Int) from rfl, refVers s hs (by omega) 1 (by omega) k (by omega), Option.bind_some]
  unfold versI
  cases hv : vers (Pl.scanI s).1 1 with
  | none =>
    have : (if (Pl.scanI s).2 = (s.length : Int) then (none : Option (List S50)) else none) = none := by split <;> rfl
    rw [this]; rfl
  | some a =>
    by_cases c1 : (Pl.scanI s).2 = (s.length : Int)
    · rw [if_pos c1]
      show (if ((Pl.scanI s).2 == (s.length : Int)) = true then _ else _) = _
      rw [if_pos (beq_iff_eq.mpr c1)]
      have ha := vers_length _ _ _ hv
      show (chalklineref34_versions.f k o (wrap64 ((a.length : Int) + 1))).bind _ = _
      rw [w64 (by omega) (by omega), show ((a.length : Int) + 1) = ((1 + (Pl.scanI s).1.length : Nat) : Int) by omega, refVers o ho (by omega) _ (by omega) k (by omega), Option.bind_some]
      cases hw : vers (Pl.scanI o).1 (1 + (Pl.scanI s).1.length) with
      | none =>
        have : (if (Pl.scanI o).2 = (o.length : Int) then (none : Option (List S50)) else none) = none := by split <;> rfl
        rw [this]; rfl
      | some b =>
        by_cases c2 : (Pl.scanI o).2 = (o.length : Int)
        · rw [if_pos c2]
          show (if ((Pl.scanI o).2 == (o.length : Int)) = true then _ else _) = _
          rw [if_pos (beq_iff_eq.mpr c2)]
        · rw [if_neg c2]
          show (if ((Pl.scanI o).2 == (o.length : Int)) = true then _ else _) = _
          rw [if_neg (fun h => c2 (beq_iff_eq.mp h))]
    · rw [if_neg c1]
      show (if ((Pl.scanI s).2 == (s.length : Int)) = true then _ else _) = _
      rw [if_neg (fun h => c1 (beq_iff_eq.mp h))]
theorem refCheck (s o : List Int) (hs : Pl.bytes s) (ho : Pl.bytes o) (hl : s.length ≤ 1000000000000000) (hm : o.length ≤ 1000000000000000) (k : Nat) (hk : 2000000 ≤ k) : chalklineref34_Check.f k s o = some (readI s o).2.2 := by
  unfold chalklineref34_Check.f
  rw [refRead s o hs ho hl hm k hk, Option.bind_some]
theorem readI_small (s o : List Int) (hs : Pl.bytes s) (ho : Pl.bytes o) : ((readI s o).1.length ≤ 10000000 ∧ ∀ v ∈ (readI s o).1, v.f1.f0.length ≤ 64) ∧ ((readI s o).2.1.length ≤ 10000000 ∧ ∀ v ∈ (readI s o).2.1, v.f1.f0.length ≤ 64) := by
  have hn : (([] : List S50).length ≤ 10000000 ∧ ∀ v ∈ ([] : List S50), v.f1.f0.length ≤ 64) := ⟨by simp, fun v hv => by cases hv⟩
  have key : ∀ (b : List Int) (n : Nat) (vs : List S50), Pl.bytes b → b.length ≤ 1048576 → versI b n = some vs → vs.length ≤ 10000000 ∧ ∀ v ∈ vs, v.f1.f0.length ≤ 64 := by
    intro b n vs hb hl h
    unfold versI at h
    split at h
    · have h1 := vers_length _ _ _ h
      have h2 := scan_count b hb
      exact ⟨by omega, vers_weeks _ _ _ h⟩
    · cases h
  unfold readI
  by_cases c : s.length + o.length > 1048576
  · rw [if_pos c]; exact ⟨hn, hn⟩
  rw [if_neg c]
  cases h1 : versI s 1 with
  | none => exact ⟨hn, hn⟩
  | some a =>
    dsimp only
    cases h2 : versI o (1 + (Pl.scanI s).1.length) with
    | none => exact ⟨hn, hn⟩
    | some b => exact ⟨key s _ a hs (by omega) h1, key o _ b ho (by omega) h2⟩
end Go.Proofs.Ytfcdaifaocgjfaa.Pure
end
section
namespace Go.Proofs.Ytfcdaifaocgjfaa.Pure
open Go.RowKit Go.Proofs.Ytfcdaifaocgjfaa.Pr Go.Proofs.YtfcdaifaocgjfaaW.PrintWords Go.Proofs.YtfcdaifaocgjfaaW.PrintLast Go.Proofs.YtfcdaifaocgjfaaW.PrintMore
theorem same_refl (a b : List Int) : chalklineref34_Same.f a b a b = some true := by
  unfold chalklineref34_Same.f
  rw [if_pos rfl, beq_self_eq_true]
def syncI (s o : List Int) : List Int × List Int × Int := if (readI s o).2.2 = 0 then (s ++ o, [], 0) else ([], [], (readI s o).2.2)
theorem jSync (s o : List Int) (hs : Pl.bytes s) (ho : Pl.bytes o) (hl : s.length ≤ 1000000000) (hm : o.length ≤ 1000000000) : journal_Sync.f s o = some (syncI s o) := by
  unfold journal_Sync.f syncI
  rw [jCheck s o hs ho (by omega) (by omega), Option.bind_some]
  by_cases h0 : (readI s o).2.2 = 0
  · rw [if_pos h0, if_pos h0]
    unfold slices_Concat_byte_byte.f
    have e : [s, o].flatten = s ++ o := by simp
    rw [e, if_pos (by rw [List.length_append]; omega), Option.bind_some, h0]
  · rw [if_neg h0, if_neg h0]
end Go.Proofs.Ytfcdaifaocgjfaa.Pure
end
section
namespace Go.Proofs.Ytfcdaifaocgjfaa.Pure
set_option linter.unusedVariables false
open Go.RowKit Go.Proofs.Ytfcdaifaocgjfaa.Pr Go.Proofs.YtfcdaifaocgjfaaW.PrintWords Go.Proofs.YtfcdaifaocgjfaaW.PrintLast Go.Proofs.YtfcdaifaocgjfaaW.PrintMore
theorem whole_scan (l : List (List Int)) (hx : ∀ x ∈ l, x.length ≤ 65536) : Pl.scanI (Pl.F l) = (l, (((Pl.F l).length : Nat) : Int)) := by
  have := Pl.scan_stop l [] hx (Pl.openI_end _)
  rwa [List.append_nil] at this
/-- A valid disk, as the payloads of its frames and the versions that these are. -/
structure Val (s o : List Int) (ms mo : List (List Int)) (a b : List S50) : Prop where
  es : s = Pl.F ms
  eo : o = Pl.F mo
  hs : ∀ x ∈ ms, x.length ≤ 65536
  ho : ∀ x ∈ mo, x.length ≤ 65536
  va : vers ms 1 = some a
  vb : vers mo (1 + ms.length) = some b
  le : s.length + o.length ≤ 1048576
theorem readI_F (ms mo : List (List Int)) (a b : List S50) (hs : ∀ x ∈ ms, x.length ≤ 65536) (ho : ∀ x ∈ mo, x.length ≤ 65536) (va : vers ms 1 = some a) (vb : vers mo (1 + ms.length) = some b) (hl : (Pl.F ms).length + (Pl.F mo).length ≤ 1048576) : readI (Pl.F ms) (Pl.F mo) = (a, b, 0) := by
  unfold readI versI
  rw [if_neg (by omega), whole_scan ms hs, if_pos rfl]
  dsimp only
  rw [va]
  dsimp only
  rw [whole_scan mo ho, if_pos rfl]
  dsimp only
  rw [vb]
theorem Val.read {s o : List Int} {ms mo : List (List Int)} {a b : List S50} (h : Val s o ms mo a b) : readI s o = (a, b, 0) := by
  have hl := h.le
  rw [h.es, h.eo] at hl ⊢
  exact readI_F ms mo a b h.hs h.ho h.va h.vb hl
theorem Val.counts {s o : List Int} {ms mo : List (List Int)} {a b : List S50} (h : Val s o ms mo a b) : a.length = ms.length ∧ b.length = mo.length := ⟨vers_length _ _ _ h.va, vers_length _ _ _ h.vb⟩
end Go.Proofs.Ytfcdaifaocgjfaa.Pure
end
section
namespace Go.Proofs.Ytfcdaifaocgjfaa.Pure
open Go.RowKit Go.Proofs.Ytfcdaifaocgjfaa.Pr Go.Proofs.YtfcdaifaocgjfaaW.PrintWords Go.Proofs.YtfcdaifaocgjfaaW.PrintLast Go.Proofs.YtfcdaifaocgjfaaW.PrintMore
set_option linter.unusedVariables false
set_option linter.unusedSimpArgs false
/-- The bytes of a week's places. -/
def Wk (ws : List S76) : List Int := (ws.map fun p => Oc.grp (Oc.zz p.f0) ++ Oc.grp (Oc.zz p.f1)).flatten
theorem Wk_nil : Wk [] = [] := rfl
theorem Wk_cons (p : S76) (ws : List S76) : Wk (p :: ws) = (Oc.grp (Oc.zz p.f0) ++ Oc.grp (Oc.zz p.f1)) ++ Wk ws := by simp [Wk]
def wok (ws : List S76) : Prop := ∀ p ∈ ws, Oc.ok64 p.f0 = true ∧ Oc.ok64 p.f1 = true
theorem grp10 {n : Int} (h : Oc.ok64 n = true) : (Oc.grp (Oc.zz n)).length ≤ 10 := Oc.grp_ten _ (Oc.zz_lt n h)
theorem Wk_length (ws : List S76) (h : wok ws) : (Wk ws).length ≤ 20 * ws.length := by
  induction ws with
  | nil => simp [Wk]
  | cons p ws ih =>
    have h0 := h p List.mem_cons_self
    have := ih (fun q hq => h q (List.mem_cons_of_mem _ hq))
    have := grp10 h0.1
    have := grp10 h0.2
    rw [Wk_cons, List.length_append, List.length_append, List.length_cons]
    omega
def bit (b : Bool) : Int := if b then 1 else 0
def recI (n : Int) (ws : List S76) (c : Int) (b : Bool) : List Int := Oc.grp (Oc.zz n) ++ (Oc.grp (Oc.zz ws.length) ++ (Wk ws ++ (Oc.grp (Oc.zz c) ++ Oc.grp (Oc.zz (bit b)))))
theorem ok64_nat (n : Nat) (h : n ≤ 1000000000000000) : Oc.ok64 (n : Int) = true := by simp [Oc.ok64]; omega
theorem ok64_bit (b : Bool) : Oc.ok64 (bit b) = true := by cases b <;> decide
theorem recI_length (n : Int) (ws : List S76) (c : Int) (b : Bool) (hn : Oc.ok64 n = true) (hw : wok ws) (hl : ws.length ≤ 1000000000) (hc : Oc.ok64 c = true) : (recI n ws c b).length ≤ 40 + 20 * ws.length := by
  have := grp10 hn
  have := grp10 hc
  have := grp10 (ok64_bit b)
  have := grp10 (ok64_nat ws.length (by omega))
  have := Wk_length ws hw
  unfold recI
  simp only [List.length_append]
  omega
theorem jPut (l : List Int) (n : Int) (hn : Oc.ok64 n = true) (hl : l.length ≤ 1000000000000) : octet_PutInt.f l n = some (l ++ Oc.grp (Oc.zz n)) := by unfold octet_PutInt.f; rw [if_pos ⟨hn, hl⟩]; rfl
theorem rdT76 (l : List S76) (i : Nat) (h : i < l.length) : rd_T76 l (i : Int) = l[i] := by simp [rd_T76, List.getD_eq_getElem?_getD, List.getElem?_eq_getElem h]
theorem weekPut_loop (ws : List S76) (hw : wok ws) (hl : ws.length ≤ 1000000000) : ∀ (d i : Nat) (acc : List Int), i + d = ws.length → acc.length + 20 * d ≤ 900000000000 → ∀ k, d + 1 ≤ k → week_Put.l0 k acc ws (ws.length : Int) (i : Int) = some (acc ++ Wk (ws.drop i)) := by
  intro d
  induction d with
  | zero =>
    intro i acc hi ha k hk
    obtain ⟨k, rfl⟩ : ∃ j, k = j + 1 := ⟨k - 1, by omega⟩
    rw [week_Put.l0, if_neg (by omega), List.drop_eq_nil_of_le (by omega), Wk_nil, List.append_nil]
  | succ d ih =>
    intro i acc hi ha k hk
    obtain ⟨k, rfl⟩ : ∃ j, k = j + 1 := ⟨k - 1, by omega⟩
    have hlt : i < ws.length := by omega
    have hp := hw ws[i] (List.getElem_mem hlt)
    have g0 := grp10 hp.1
    have g1 := grp10 hp.2
    have e2 : (i : Int) + 1 = ((i + 1 : Nat) : Int) := by omega
    rw [week_Put.l0, if_pos (show (i : Int) < (ws.length : Int) by omega), if_pos (show (0 : Int) ≤ (i : Int) by omega), if_pos (show (i : Int) < (ws.length : Int) by omega), rdT76 ws i hlt, jPut _ _ hp.1 (by omega), Option.bind_some, jPut _ _ hp.2 (by rw [List.length_append]; omega), Option.bind_some, w64 (by omega) (by omega), e2,
      ih (i + 1) _ (by omega) (by rw [List.length_append, List.length_append]; omega) k (by omega), List.drop_eq_getElem_cons hlt, Wk_cons]
    simp only [List.append_assoc]
theorem jRecord (n : Int) (ws : List S76) (c : Int) (b : Bool) (hn : Oc.ok64 n = true) (hw : wok ws) (hl : ws.length ≤ 1000000000) (hc : Oc.ok64 c = true) (k : Nat) (hk : ws.length + 1 ≤ k) : journal_record.f k n ws c b = some (recI n ws c b) := by
  have g0 := grp10 hn
  have g1 := grp10 (ok64_nat ws.length (by omega))
  have g2 := Wk_length ws hw
  have g3 := grp10 hc
  unfold journal_record.f week_Put.f
  rw [jPut [] n hn (by simp), Option.bind_some, List.nil_append, jPut _ _ (ok64_nat ws.length (by omega)) (by omega), Option.bind_some]
  have hlp := weekPut_loop ws hw hl ws.length 0 (Oc.grp (Oc.zz n) ++ Oc.grp (Oc.zz ws.length)) (by omega) (by rw [List.length_append]; omega) k hk
  rw [show ((0 : Nat) : Int) = 0 from rfl, List.drop_zero] at hlp
  rw [hlp, Option.bind_some, jPut _ _ hc (by simp only [List.length_append]; omega), Option.bind_some]
  cases b with
  | true =>
    rw [if_pos rfl, jPut _ 1 (by decide) (by simp only [List.length_append]; omega), Option.bind_some]
    simp only [recI, bit, if_true, Bool.false_eq_true, if_false, List.append_assoc]
  | false =>
    rw [if_neg (by decide), jPut _ 0 (by decide) (by simp only [List.length_append]; omega), Option.bind_some]
    simp only [recI, bit, if_true, Bool.false_eq_true, if_false, List.append_assoc]
theorem bytes_grp (u : Nat) : Pl.bytes (Oc.grp u) := by
  induction u using Nat.strongRecOn with
  | _ u ih =>
    by_cases h : 127 < u
    · rw [Oc.grp_big u h]
      intro x hx
      rcases List.mem_cons.1 hx with rfl | hx
      · omega
      · exact ih (u / 128) (by omega) x hx
    · rw [Oc.grp_small u (by omega)]
      intro x hx
      rw [List.mem_singleton.1 hx]
      omega
theorem bytes_Wk (ws : List S76) : Pl.bytes (Wk ws) := by
  induction ws with
  | nil => intro x hx; cases hx
  | cons p ws ih => rw [Wk_cons]; exact Pl.bytes_append (Pl.bytes_append (bytes_grp _) (bytes_grp _)) ih
theorem bytes_recI (n : Int) (ws : List S76) (c : Int) (b : Bool) : Pl.bytes (recI n ws c b) := Pl.bytes_append (bytes_grp _) (Pl.bytes_append (bytes_grp _) (Pl.bytes_append (bytes_Wk _) (Pl.bytes_append (bytes_grp _) (bytes_grp _))))
def appendI (s o : List Int) (n : Int) (ws : List S76) (c : Int) (b : Bool) : List Int × List Int × Int :=
  if (readI s o).2.2 = 0 then
    if rdMay n c ws.length = true ∧ n = ((readI s o).1.length : Int) + ((readI s o).2.1.length : Int) + 1 then
      if s.length + (o ++ Pl.frameI (recI n ws c b)).length > 1048576 then ([], [], 2) else (s, o ++ Pl.frameI (recI n ws c b), 0)
    else ([], [], 1)
  else ([], [], (readI s o).2.2)
theorem may_len {n c : Int} {m : Nat} (h : rdMay n c m = true) : 1 ≤ n ∧ n ≤ 1099511627776 ∧ 0 ≤ c ∧ c ≤ 1099511627776 ∧ m ≤ 64 := by
  unfold rdMay at h
  simp only [Bool.and_eq_true, decide_eq_true_eq] at h
  exact ⟨h.1.1.1.1, h.1.1.1.2, h.1.1.2, h.1.2, h.2⟩
theorem next_eq (s o : List Int) (hs : Pl.bytes s) (ho : Pl.bytes o) (n : Int) : (n != wrap64 (wrap64 (((readI s o).1.length : Int) + ((readI s o).2.1.length : Int)) + 1)) = !(decide (n = ((readI s o).1.length : Int) + ((readI s o).2.1.length : Int) + 1)) := by
  have h := readI_small s o hs ho
  have h1 := h.1.1
  have h2 := h.2.1
  have e1 : wrap64 (((readI s o).1.length : Int) + ((readI s o).2.1.length : Int)) = ((readI s o).1.length : Int) + ((readI s o).2.1.length : Int) := w64 (by omega) (by omega)
  rw [e1, w64 (n := ((readI s o).1.length : Int) + ((readI s o).2.1.length : Int) + 1) (by omega) (by omega)]
  by_cases c : n = ((readI s o).1.length : Int) + ((readI s o).2.1.length : Int) + 1
  · rw [decide_eq_true c]; exact bne_eq_false_iff_eq.mpr c
  · rw [decide_eq_false c]; exact bne_iff_ne.mpr c
theorem jAppend (s o : List Int) (hs : Pl.bytes s) (ho : Pl.bytes o) (hl : s.length ≤ 1000000000) (hm : o.length ≤ 1000000000) (n : Int) (ws : List S76) (c : Int) (b : Bool) (hn : Oc.ok64 n = true) (hw : wok ws) (hc : Oc.ok64 c = true) (k : Nat) (hk : 100 ≤ k) : journal_Append.f k s o n ws c b = some (appendI s o n ws c b) := by
  unfold journal_Append.f appendI
  rw [jRead s o hs ho (by omega) (by omega), Option.bind_some]
  by_cases h0 : (readI s o).2.2 = 0
  case neg => rw [if_neg h0, if_neg h0]
  rw [if_pos h0, if_pos h0, may_eq, Option.bind_some, next_eq s o hs ho n]
  by_cases hg : rdMay n c ws.length = true ∧ n = ((readI s o).1.length : Int) + ((readI s o).2.1.length : Int) + 1
  · rw [if_pos hg, if_pos ⟨hg.1, by rw [decide_eq_true hg.2]; rfl⟩]
    have hlen := (may_len hg.1).2.2.2.2
    have hr := recI_length n ws c b hn hw (by omega) hc
    have hfl := Pl.frameI_length (recI n ws c b)
    rw [jRecord n ws c b hn hw (by omega) hc k (by omega), Option.bind_some, show seal_Frame.f (recI n ws c b) = some (Pl.frameI (recI n ws c b), 0) from by unfold seal_Frame.f; rw [if_neg (by omega)], Option.bind_some, if_pos rfl,
      show slices_Clone_byte_byte.f s = some s from by unfold slices_Clone_byte_byte.f; rw [if_pos (by omega)], Option.bind_some]
    unfold slices_Concat_byte_byte.f
    have e : [o, Pl.frameI (recI n ws c b)].flatten = o ++ Pl.frameI (recI n ws c b) := by simp
    dsimp only
    rw [e, if_pos (by rw [List.length_append]; omega), Option.bind_some, w64 (by omega) (by rw [List.length_append]; omega)]
    by_cases hsz : s.length + (o ++ Pl.frameI (recI n ws c b)).length > 1048576
    · rw [if_pos hsz, if_pos (by omega)]
    · rw [if_neg hsz, if_neg (by omega)]
  · rw [if_neg hg, if_neg (fun h => hg ⟨h.1, by
      have := h.2
      by_cases hc : n = ((readI s o).1.length : Int) + ((readI s o).2.1.length : Int) + 1
      · exact hc
      · rw [decide_eq_false hc] at this; cases this⟩)]
end Go.Proofs.Ytfcdaifaocgjfaa.Pure
end
