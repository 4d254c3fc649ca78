/- OctetSequence: slices put one behind another are decoded one by one, and what was made shares no memory with the argument; every input that the statement's guard lets in; no condition. -/
import Derived.Test.YtodobnmfgcmnnaaByteP
import Derived.Test.YtodobnmfgcmnnaaPr25
namespace Go.Proofs.Ytodobnmfgcmnnaa.Pure
open Go.RowKit Go.Proofs.Ytodobnmfgcmnnaa.Pr Go.Proofs.YtodobnmfgcmnnaaW.PrintWords Go.Proofs.YtodobnmfgcmnnaaW.PrintLast
theorem rd_get2 (l : List (List Int)) (i : Nat) (h : i < l.length) : rd_L2 l (i : Int) = l[i] := by simp [rd_L2, List.getD_eq_getElem?_getD, List.getElem?_eq_getElem h]
/-- The lengths of the first slices. -/
def S (l : List (List Int)) (i : Nat) : Nat := ((l.take i).map List.length).sum
theorem S_succ (l : List (List Int)) (i : Nat) (h : i < l.length) : S l (i + 1) = S l i + l[i].length := by
  unfold S
  rw [List.take_succ_eq_append_getElem h, List.map_append, List.sum_append]
  simp
theorem S_mem (l : List (List Int)) : ∀ x ∈ l, x.length ≤ S l l.length := by
  intro x hx
  unfold S
  rw [List.take_length]
  induction l with
  | nil => cases hx
  | cons y l ih =>
    rw [List.map_cons, List.sum_cons]
    rcases List.mem_cons.1 hx with rfl | hx
    · omega
    · have := ih hx; omega
/-- What is put for slices. -/
def E (l : List (List Int)) : List Int := (l.map fun x => Oc.grp (Oc.zz x.length) ++ Oc.C x).flatten
theorem E_nil : E [] = [] := rfl
theorem E_cons (x : List Int) (l : List (List Int)) : E (x :: l) = (Oc.grp (Oc.zz x.length) ++ Oc.C x) ++ E l := by simp [E]
theorem E_append (l m : List (List Int)) : E (l ++ m) = E l ++ E m := by simp [E]
theorem E_split (l : List (List Int)) (i : Nat) (h : i < l.length) : E l = E (l.take i) ++ ((Oc.grp (Oc.zz l[i].length) ++ Oc.C l[i]) ++ E (l.drop (i + 1))) := by
  rw [← E_cons, ← E_append, ← List.drop_eq_getElem_cons h, List.take_append_drop]
theorem E_take (l : List (List Int)) (i : Nat) (h : i < l.length) : E (l.take (i + 1)) = E (l.take i) ++ (Oc.grp (Oc.zz l[i].length) ++ Oc.C l[i]) := by
  rw [List.take_succ_eq_append_getElem h, E_append]
  simp [E]
theorem okB_E (l : List (List Int)) : Oc.okB (E l) = true := by
  induction l with
  | nil => rfl
  | cons x l ih => rw [E_cons]; exact okB_append _ _ (okB_append _ _ (okB_grp _) (okB_C x)) ih
theorem E_len (l : List (List Int)) (ho : ∀ x ∈ l, ∀ y ∈ x, Oc.ok64 y = true) (hs : ∀ x ∈ l, x.length ≤ 1000) : (E l).length ≤ 10010 * l.length := by
  induction l with
  | nil => simp [E]
  | cons x l ih =>
    have h1 := ih (fun y hy => ho y (List.mem_cons_of_mem _ hy)) (fun y hy => hs y (List.mem_cons_of_mem _ hy))
    have h2 := C_len x (ho x List.mem_cons_self)
    have h3 := hs x List.mem_cons_self
    have h4 := Oc.grp_ten _ (Oc.zz_lt _ (ok64_nat x.length (by omega)))
    rw [E_cons, List.length_append, List.length_append, List.length_cons]
    omega
theorem seq_l3 (b : List Int) (all : List Int) : ∀ (d : Nat) (x : List Int) (i : Nat), i + d = x.length → x.length ≤ 1000000 → ∀ k, d + 1 ≤ k → chalklinelaw01_OctetSequence.l3 k b (strOfNums b) all (all.length : Int) x (i : Int) = some true := by
  intro d
  induction d with
  | zero =>
    intro x i hi hl k hk
    obtain ⟨k, rfl⟩ : ∃ j, k = j + 1 := ⟨k - 1, by omega⟩
    rw [chalklinelaw01_OctetSequence.l3, if_neg (by omega), if_pos rfl]
    exact congrArg some (beq_self_eq_true _)
  | succ d ih =>
    intro x i hi hl k hk
    obtain ⟨k, rfl⟩ : ∃ j, k = j + 1 := ⟨k - 1, by omega⟩
    rw [chalklinelaw01_OctetSequence.l3, if_pos (by omega), if_pos (by omega), w64 (n := (i : Int) + 1) (by omega) (by omega)]
    exact ih _ (i + 1) (by rw [List.length_set]; omega) (by rw [List.length_set]; exact hl) k (by omega)
theorem seq_l2 (ls : List (List Int)) (b : List Int) (n : Nat) (hb : Oc.okB b = true) (hl : b.length ≤ 3000) (ho : ∀ x ∈ ls, ∀ y ∈ x, Oc.ok64 y = true) (hn : ∀ x ∈ ls, x.length ≤ n) (hn2 : n ≤ 100) (hE : (E ls).length ≤ 1000000) : ∀ (d i : Nat), i + d = ls.length → ls.length ≤ 10 → ∀ k, d + 20000 ≤ k →
    chalklinelaw01_OctetSequence.l2 k ls b (n : Int) (strOfNums b) (b ++ E ls) ((b.length + (E (ls.take i)).length : Nat) : Int) (i : Int) = some true := by
  have hok : Oc.okB (b ++ E ls) = true := okB_append _ _ hb (okB_E ls)
  intro d
  induction d with
  | zero =>
    intro i hi hm k hk
    obtain ⟨k, rfl⟩ : ∃ j, k = j + 1 := ⟨k - 1, by omega⟩
    have hp := putI_length b 1 (by decide)
    rw [chalklinelaw01_OctetSequence.l2, if_neg (by omega), octPut b 1 (by decide) (by omega), Option.bind_some, List.take_of_length_le (by omega), ← List.length_append]
    exact seq_l3 b (b ++ E ls) (Oc.putI b 1).length (Oc.putI b 1) 0 (by omega) (by omega) k (by omega)
  | succ d ih =>
    intro i hi hm k hk
    obtain ⟨k, rfl⟩ : ∃ j, k = j + 1 := ⟨k - 1, by omega⟩
    have hlt : i < ls.length := by omega
    have hmem : ls[i] ∈ ls := List.getElem_mem hlt
    have hs := E_split ls i hlt
    have hx := hn _ hmem
    have hg := Oc.getIs_all (b ++ E (ls.take i)) (E (ls.drop (i + 1))) ls[i] (n : Int) (ho _ hmem) (by omega) (by omega)
    have e : b ++ E ls = (b ++ E (ls.take i)) ++ (Oc.grp (Oc.zz (ls[i].length : Int)) ++ (Oc.C ls[i] ++ E (ls.drop (i + 1)))) := by
      rw [hs]; simp only [List.append_assoc]
    rw [← e, List.length_append] at hg
    have hr := ints_refl ls[i] (by omega) k (by omega)
    rw [chalklinelaw01_OctetSequence.l2, if_pos (by omega), octInts _ _ _ hok (by rw [List.length_append]; omega), hg, Option.bind_some, if_pos rfl, if_pos (by omega), rd_get2 ls i hlt, hr, Option.bind_some, if_pos rfl, w64 (n := (i : Int) + 1) (by omega) (by omega)]
    have h := ih (i + 1) (by omega) hm k (by omega)
    rw [E_take ls i hlt, List.length_append, List.length_append] at h
    rw [show (((b.length + (E (ls.take i)).length : Nat) : Int) + ((Oc.grp (Oc.zz (ls[i].length : Int))).length : Int) + ((Oc.C ls[i]).length : Int)) = ((b.length + ((E (ls.take i)).length + ((Oc.grp (Oc.zz (ls[i].length : Int))).length + (Oc.C ls[i]).length)) : Nat) : Int) by omega]
    exact h
theorem seq_l1 (ls : List (List Int)) (b : List Int) (n : Nat) (hb : Oc.okB b = true) (hl : b.length ≤ 3000) (ho : ∀ x ∈ ls, ∀ y ∈ x, Oc.ok64 y = true) (hn : ∀ x ∈ ls, x.length ≤ n) (hn2 : n ≤ 100) (hE : (E ls).length ≤ 1000000) : ∀ (d i : Nat), i + d = ls.length → ls.length ≤ 10 → ∀ k, d + 30000 ≤ k →
    chalklinelaw01_OctetSequence.l1 k ls b (n : Int) (strOfNums b) (b ++ E (ls.take i)) (i : Int) = some true := by
  intro d
  induction d with
  | zero =>
    intro i hi hm k hk
    obtain ⟨k, rfl⟩ : ∃ j, k = j + 1 := ⟨k - 1, by omega⟩
    rw [chalklinelaw01_OctetSequence.l1, if_neg (by omega), List.take_of_length_le (by omega)]
    exact seq_l2 ls b n hb hl ho hn hn2 hE ls.length 0 (by omega) hm k (by omega)
  | succ d ih =>
    intro i hi hm k hk
    obtain ⟨k, rfl⟩ : ∃ j, k = j + 1 := ⟨k - 1, by omega⟩
    have hlt : i < ls.length := by omega
    have hmem : ls[i] ∈ ls := List.getElem_mem hlt
    have hx := hn _ hmem
    have hle : (E (ls.take i)).length ≤ (E ls).length := by rw [E_split ls i hlt, List.length_append]; omega
    rw [chalklinelaw01_OctetSequence.l1, if_pos (by omega), if_pos (by omega), rd_get2 ls i hlt, octPuts _ _ (ho _ hmem) (by rw [List.length_append]; omega) (by omega), Option.bind_some, w64 (n := (i : Int) + 1) (by omega) (by omega)]
    have h := ih (i + 1) (by omega) hm k (by omega)
    rw [E_take ls i hlt] at h
    rw [Oc.putIs_C, List.append_assoc, List.append_assoc]
    exact h
theorem seq_j1 (ls : List (List Int)) (b : List Int) (hb : Oc.okB b = true) (ho : ∀ x ∈ ls, ∀ y ∈ x, Oc.ok64 y = true) (n : Nat) (hn : ls.length ≤ 10 → n = S ls ls.length) (k : Nat) (hk : 40000 ≤ k) : chalklinelaw01_OctetSequence.j1 k ls b (n : Int) = some true := by
  obtain ⟨k, rfl⟩ : ∃ j, k = j + 2 := ⟨k - 2, by omega⟩
  have yes : chalklinelaw01_OctetSequence.j2 (k + 1) ls b (n : Int) true = some true := by rw [chalklinelaw01_OctetSequence.j2, if_pos rfl]
  rw [chalklinelaw01_OctetSequence.j1]
  by_cases c : (ls.length : Int) > 10
  · rw [if_pos c]; exact yes
  rw [if_neg c]
  by_cases c1 : (n : Int) > 100
  · rw [if_pos c1]; exact yes
  rw [if_neg c1]
  unfold chalklinelaw01_few.f
  rw [Option.bind_some]
  by_cases c2 : (b.length : Int) ≤ 3000
  · rw [decide_eq_true c2]
    have hnn := hn (by omega)
    have hmem : ∀ x ∈ ls, x.length ≤ n := fun x hx => by rw [hnn]; exact S_mem ls x hx
    have hE := E_len ls ho (fun x hx => by have := hmem x hx; omega)
    rw [chalklinelaw01_OctetSequence.j2, if_neg (by simp), Option.bind_some, if_pos (by simp; omega), List.nil_append]
    have h := seq_l1 ls b n hb (by omega) ho hmem (by omega) (by omega) ls.length 0 (by omega) (by omega) k (by omega)
    rw [List.take_zero, E_nil, List.append_nil] at h
    exact h
  · rw [decide_eq_false c2]; exact yes
theorem seq_l0 (ls : List (List Int)) (b : List Int) (hb : Oc.okB b = true) (ho : ∀ x ∈ ls, ∀ y ∈ x, Oc.ok64 y = true) (hz : ∀ x ∈ ls, x.length ≤ 17592186043904) (hm : ls.length ≤ 9223372036854775807) : ∀ (d i : Nat), i + d = 20 → i ≤ ls.length → S ls i ≤ 17592186043904 * i → ∀ k, d + 40001 ≤ k →
    chalklinelaw01_OctetSequence.l0 k ls b ((S ls i : Nat) : Int) (i : Int) = some true := by
  intro d
  induction d with
  | zero =>
    intro i hi hle hS k hk
    obtain ⟨k, rfl⟩ : ∃ j, k = j + 1 := ⟨k - 1, by omega⟩
    rw [chalklinelaw01_OctetSequence.l0]
    by_cases c : (i : Int) < (ls.length : Int)
    · rw [if_pos c, if_neg (by omega)]
      exact seq_j1 ls b hb ho _ (fun h => by omega) k (by omega)
    · rw [if_neg c]
      exact seq_j1 ls b hb ho _ (fun h => by omega) k (by omega)
  | succ d ih =>
    intro i hi hle hS k hk
    obtain ⟨k, rfl⟩ : ∃ j, k = j + 1 := ⟨k - 1, by omega⟩
    rw [chalklinelaw01_OctetSequence.l0]
    by_cases c : (i : Int) < (ls.length : Int)
    · have hlt : i < ls.length := by omega
      have h1 := hz _ (List.getElem_mem hlt)
      have h2 := S_succ ls i hlt
      rw [if_pos c, if_pos (by omega), if_pos (by omega), rd_get2 ls i hlt, w64 (n := (i : Int) + 1) (by omega) (by omega), w64 (by omega) (by omega), show (((S ls i : Nat) : Int) + (ls[i].length : Int)) = ((S ls (i + 1) : Nat) : Int) by omega]
      exact ih (i + 1) (by omega) (by omega) (by omega) k (by omega)
    · rw [if_neg c]
      refine seq_j1 ls b hb ho _ (fun _ => ?_) k (by omega)
      rw [show i = ls.length by omega]
theorem OctetSequence (l0 : List (List Int)) (l1 : List Int) (hm : l0.length ≤ maxLen) (hw : ∀ x ∈ l0, ∀ y ∈ x, (Lit.int .i64 y).wf = true) (hz : ∀ x ∈ l0, x.length * Try.prog.bytesOf 3 ≤ reachBytes) (hw1 : ∀ y ∈ l1, (Lit.int .u8 y).wf = true) (_ : l1.length * Try.prog.bytesOf 5 ≤ reachBytes) : ∃ k, chalklinelaw01_OctetSequence.f k l0 l1 = some true := by
  have e8 : Try.prog.bytesOf 3 = 8 := by kernel_rfl
  have hz' : ∀ x ∈ l0, x.length ≤ 17592186043904 := fun x hx => by
    have h1 := hz x hx
    have h2 : reachBytes = 140737488351232 := by decide
    rw [e8, h2] at h1
    omega
  refine ⟨50000, ?_⟩
  unfold chalklinelaw01_OctetSequence.f chalklinelaw01_live.f
  rw [Option.bind_some, if_pos rfl]
  exact seq_l0 l0 l1 (okB_of l1 hw1) (fun x hx y hy => ok64_of (hw x hx y hy)) hz' (by simpa [maxLen] using hm) 20 0 (by omega) (by omega) (by simp [S]) 50000 (by omega)
end Go.Proofs.Ytodobnmfgcmnnaa.Pure
