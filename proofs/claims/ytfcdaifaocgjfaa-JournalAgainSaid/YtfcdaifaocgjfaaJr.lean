/- A part of the proof of JournalAgain; no condition. -/
import Derived.Test.YtfcdaifaocgjfaaPla
import Derived.Test.YtfcdaifaocgjfaaTrip
import Derived.Test.YtfcdaifaocgjfaaRefP
import Derived.Test.YtfcdaifaocgjfaaPr10
import Derived.Test.YtfcdaifaocgjfaaPr11
import Derived.Test.YtfcdaifaocgjfaaPr35
import Derived.Test.YtfcdaifaocgjfaaPr31
import Derived.Test.YtfcdaifaocgjfaaPr15
namespace Go.Proofs.Ytfcdaifaocgjfaa.Pure
open Go.RowKit Go.Proofs.Ytfcdaifaocgjfaa.Pr Go.Proofs.YtfcdaifaocgjfaaW.PrintWords Go.Proofs.YtfcdaifaocgjfaaW.PrintLast Go.Proofs.YtfcdaifaocgjfaaW.PrintMore
theorem okB_bytes' {l : List Int} (h : Pl.bytes l) : Oc.okB l = true := (Oc.okB_iff l).2 h
theorem bytes_wf {l : List Int} (h : ∀ x ∈ l, (Lit.int .u8 x).wf = true) : Pl.bytes l := fun x hx => wf_u8 (h x hx)
theorem scanF_spec (l : List Int) (hb : Pl.bytes l) : ∀ (n a : Nat) (acc : List (List Int)), a ≤ l.length → l.take a = Pl.F acc → (∀ x ∈ acc, Pl.bytes x ∧ x.length ≤ 65536) →
    ∃ g : Nat, (Pl.scanF n l a acc).2 = g ∧ g ≤ l.length ∧ l.take g = Pl.F (Pl.scanF n l a acc).1 ∧ (∀ x ∈ (Pl.scanF n l a acc).1, Pl.bytes x ∧ x.length ≤ 65536) := by
  intro n
  induction n with
  | zero => intro a acc ha hF hx; exact ⟨a, rfl, ha, hF, hx⟩
  | succ n ih =>
    intro a acc ha hF hx
    rw [Pl.scanF]
    rcases Pl.openI_spec l hb a with ⟨e, h, he⟩ | ⟨body, a', haa, h, h1, h2, h3, h4⟩
    · rw [h, if_neg he]
      exact ⟨a, rfl, ha, hF, hx⟩
    · obtain rfl : a = a' := by omega
      rw [h, if_pos rfl]
      have e1 : (a : Int) + 8 + (body.length : Int) = ((a + (8 + body.length) : Nat) : Int) := by omega
      dsimp only
      rw [e1]
      refine ih (a + (8 + body.length)) (acc ++ [body]) (by omega) ?_ ?_
      · rw [List.take_add, hF, h3, Pl.F_append, Pl.F_one]
      · intro x hx'
        rcases List.mem_append.1 hx' with h' | h'
        · exact hx x h'
        · rw [List.mem_singleton.1 h']; exact ⟨h4, h2⟩
theorem scan_spec (l : List Int) (hb : Pl.bytes l) : ∃ g : Nat, (Pl.scanI l).2 = g ∧ g ≤ l.length ∧ l.take g = Pl.F (Pl.scanI l).1 ∧ (∀ x ∈ (Pl.scanI l).1, Pl.bytes x ∧ x.length ≤ 65536) :=
  scanF_spec l hb (l.length + 1) 0 [] (Nat.zero_le _) rfl (fun x hx => by cases hx)
theorem scan_count (l : List Int) (hb : Pl.bytes l) : (Pl.scanI l).1.length ≤ l.length := by
  obtain ⟨g, _, h2, h3, _⟩ := scan_spec l hb
  have := Pl.len_le_F (Pl.scanI l).1
  rw [← h3, List.length_take] at this
  omega
def readM (l : List Int) : Option S50 := if rdOk l = true then some ⟨(rd1 l).1, ⟨(rd2 l).1⟩, (rd3 l).1, (rd4 l).1 == 1⟩ else none
def vers : List (List Int) → Nat → Option (List S50)
  | [], _ => some []
  | x :: xs, n => (readM x).bind fun v => if v.f0 = (n : Int) then (vers xs (n + 1)).map (v :: ·) else none
theorem vers_length : ∀ (xs : List (List Int)) (n : Nat) (vs : List S50), vers xs n = some vs → vs.length = xs.length
  | [], _, vs, h => by cases h; rfl
  | x :: xs, n, vs, h => by
    rw [vers] at h
    obtain ⟨v, _, h⟩ := Option.bind_eq_some_iff.1 h
    split at h
    · obtain ⟨ws, hw, rfl⟩ := Option.map_eq_some_iff.1 h
      rw [List.length_cons, List.length_cons, vers_length xs (n + 1) ws hw]
    · cases h
theorem readM_weeks {l : List Int} {v : S50} (h : readM l = some v) : v.f1.f0.length ≤ 64 ∧ 1 ≤ v.f0 ∧ v.f0 ≤ 1099511627776 ∧ 0 ≤ v.f2 ∧ v.f2 ≤ 1099511627776 := by
  unfold readM at h
  split at h
  · rename_i hok
    obtain rfl := Option.some.inj h
    unfold rdOk rdMay at hok
    simp only [Bool.and_eq_true, decide_eq_true_eq] at hok
    exact ⟨hok.2.2, hok.2.1.1.1.1, hok.2.1.1.1.2, hok.2.1.1.2, hok.2.1.2⟩
  · cases h
theorem vers_weeks : ∀ (xs : List (List Int)) (n : Nat) (vs : List S50), vers xs n = some vs → ∀ v ∈ vs, v.f1.f0.length ≤ 64
  | [], _, vs, h => by cases h; intro v hv; cases hv
  | x :: xs, n, vs, h => by
    rw [vers] at h
    obtain ⟨v, hv, h⟩ := Option.bind_eq_some_iff.1 h
    split at h
    · obtain ⟨ws, hw, rfl⟩ := Option.map_eq_some_iff.1 h
      intro u hu
      rcases List.mem_cons.1 hu with rfl | hu
      · exact (readM_weeks hv).1
      · exact vers_weeks xs (n + 1) ws hw u hu
    · cases h
def res (o : Option (List S50)) (acc : List S50) (N m : Int) : List S50 × Int × Int := match o with
  | some vs => (acc ++ vs, 0, N)
  | none => ([], 340, m)
theorem rdL1' (l : List (List Int)) (i : Nat) (h : i < l.length) : rd_L1 l (i : Int) = l[i] := by simp [rd_L1, List.getD_eq_getElem?_getD, List.getElem?_eq_getElem h]
theorem jread (x : List Int) (hb : Oc.okB x = true) : journal_read.f x = some (journal_read_r x) := by unfold journal_read.f; rw [if_pos hb]
theorem jv_loop (l : List (List Int)) (hb : ∀ x ∈ l, Pl.bytes x) (hl : l.length ≤ 1000000000000) : ∀ (d i n : Nat) (acc : List S50), i + d = l.length → n + d < 4611686018427387904 → acc.length + d < 2000000000000 →
    ∃ m, jv_l0 (d + 1) l (n : Int) acc (i : Int) = some (res (vers (l.drop i) n) acc ((n + d : Nat) : Int) m) := by
  intro d
  induction d with
  | zero =>
    intro i n acc hi hn ha
    refine ⟨0, ?_⟩
    rw [jv_l0, if_neg (by omega), List.drop_eq_nil_of_le (by omega)]
    show some (acc, 0, (n : Int)) = some (acc ++ [], 0, ((n + 0 : Nat) : Int))
    rw [List.append_nil]
    rfl
  | succ d ih =>
    intro i n acc hi hn ha
    have hlt : i < l.length := by omega
    have hx := okB_bytes' (hb l[i] (List.getElem_mem hlt))
    rw [jv_l0, if_pos (show (i : Int) < (l.length : Int) by omega), if_pos (show (0 : Int) ≤ (i : Int) by omega), if_pos (show (0 : Int) ≤ (n : Int) ∧ (n : Int) < 4611686018427387904 from ⟨by omega, by omega⟩), rdL1' l i hlt, jread _ hx, Option.bind_some, List.drop_eq_getElem_cons hlt, vers]
    unfold readM
    by_cases hok : rdOk l[i] = true
    · rw [if_pos hok, if_pos (show (journal_read_r l[i]).2.2.2.2 = true from hok), Option.bind_some]
      by_cases hno : (rd1 l[i]).1 = (n : Int)
      · rw [if_pos hno, if_pos (show (journal_read_r l[i]).1 = (n : Int) from hno), if_pos (by omega), w64 (by omega) (by omega)]
        obtain ⟨m, hm⟩ := ih (i + 1) (n + 1) (acc ++ [⟨(rd1 l[i]).1, ⟨(rd2 l[i]).1⟩, (rd3 l[i]).1, (rd4 l[i]).1 == 1⟩]) (by omega) (by omega) (by rw [List.length_append, List.length_singleton]; omega)
        refine ⟨m, ?_⟩
        have e1 : (n : Int) + 1 = ((n + 1 : Nat) : Int) := by omega
        have e2 : (i : Int) + 1 = ((i + 1 : Nat) : Int) := by omega
        rw [e1, e2]
        refine Eq.trans hm ?_
        cases vers (l.drop (i + 1)) (n + 1) with
        | none => rfl
        | some ws =>
          show some (acc ++ [_] ++ ws, _, _) = some (acc ++ (_ :: ws), _, _)
          rw [List.append_assoc, show n + 1 + d = n + (d + 1) by omega]
          rfl
      · rw [if_neg hno, if_neg (show ¬ (journal_read_r l[i]).1 = (n : Int) from hno)]
        exact ⟨_, rfl⟩
    · rw [if_neg hok, if_neg (show ¬ (journal_read_r l[i]).2.2.2.2 = true from hok)]
      exact ⟨_, rfl⟩
def versI (b : List Int) (n : Nat) : Option (List S50) := if (Pl.scanI b).2 = (b.length : Int) then vers (Pl.scanI b).1 n else none
theorem jvf (b : List Int) (hb : Pl.bytes b) (hl : b.length ≤ 1000000000000) (n : Nat) (hn : n ≤ 1000000000000) : ∃ m, jv_f b (n : Int) = some (res (versI b n) [] ((n + (Pl.scanI b).1.length : Nat) : Int) m) := by
  obtain ⟨g, h1, h2, h3, h4⟩ := scan_spec b hb
  have hc := scan_count b hb
  unfold jv_f versI
  rw [show seal_Scan.f b = some (Pl.scanI b) from by unfold seal_Scan.f; rw [if_pos hl], Option.bind_some]
  by_cases c : (Pl.scanI b).2 = (b.length : Int)
  · rw [if_pos c, if_pos c]
    obtain ⟨m, hm⟩ := jv_loop (Pl.scanI b).1 (fun x hx => (h4 x hx).1) (by omega) (Pl.scanI b).1.length 0 n [] (by omega) (by omega) (by simp; omega)
    exact ⟨m, hm⟩
  · rw [if_neg c, if_neg c]
    exact ⟨_, rfl⟩
def readI (s o : List Int) : List S50 × List S50 × Int :=
  if s.length + o.length > 1048576 then ([], [], 2) else match versI s 1 with
  | none => ([], [], 340)
  | some a => match versI o (1 + (Pl.scanI s).1.length) with
    | none => ([], [], 340)
    | some b => (a, b, 0)
theorem jRead (s o : List Int) (hs : Pl.bytes s) (ho : Pl.bytes o) (hl : s.length ≤ 1000000000000000) (hm : o.length ≤ 1000000000000000) : journal_Read.f s o = some (readI s o) := by
  unfold journal_Read.f readI
  rw [w64 (by omega) (by omega)]
  by_cases c : s.length + o.length > 1048576
  · rw [if_pos c, if_pos (by omega)]
  rw [if_neg c, if_neg (by omega)]
  have hc := scan_count s hs
  obtain ⟨m, h1⟩ := jvf s hs (by omega) 1 (by omega)
  rw [show ((1 : Int)) = ((1 : Nat) : Int) from rfl, h1, Option.bind_some]
  cases versI s 1 with
  | none => rfl
  | some a =>
    show (if (0 : Int) = 0 then _ else _) = _
    rw [if_pos rfl]
    obtain ⟨m2, h2⟩ := jvf o ho (by omega) (1 + (Pl.scanI s).1.length) (by omega)
    show (jv_f o ((1 + (Pl.scanI s).1.length : Nat) : Int)).bind _ = _
    rw [h2, Option.bind_some]
    cases versI o (1 + (Pl.scanI s).1.length) with
    | none => rfl
    | some b => rfl
theorem jCheck (s o : List Int) (hs : Pl.bytes s) (ho : Pl.bytes o) (hl : s.length ≤ 1000000000000000) (hm : o.length ≤ 1000000000000000) : journal_Check.f s o = some (readI s o).2.2 := by
  unfold journal_Check.f
  rw [jRead s o hs ho hl hm, Option.bind_some]
end Go.Proofs.Ytfcdaifaocgjfaa.Pure
