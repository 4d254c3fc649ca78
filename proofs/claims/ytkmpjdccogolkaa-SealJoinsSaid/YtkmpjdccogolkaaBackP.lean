/- Plain: frames one behind the other: what a scan of them, of a cut of them, and of a spoilt one of them answers. -/
import Derived.Test.YtkmpjdccogolkaaOpenP
import Derived.Test.YtkmpjdccogolkaaBurst
namespace Go.Proofs.Ytkmpjdccogolkaa.Pl
def F (l : List (List Int)) : List Int := (l.map frameI).flatten
theorem F_nil : F [] = [] := rfl
theorem F_cons (x : List Int) (l : List (List Int)) : F (x :: l) = frameI x ++ F l := by simp [F]
theorem F_append (l m : List (List Int)) : F (l ++ m) = F l ++ F m := by simp [F]
theorem F_one (x : List Int) : F [x] = frameI x := by simp [F]
def G (l : List (List Int)) (j : Nat) : Nat := (F (l.take j)).length
theorem G_zero (l : List (List Int)) : G l 0 = 0 := by simp [G, F]
theorem G_succ (l : List (List Int)) (j : Nat) (h : j < l.length) : G l (j + 1) = G l j + 8 + (l[j]).length := by
  unfold G
  rw [List.take_succ_eq_append_getElem h, F_append, F_one, List.length_append, frameI_length]
  omega
theorem F_take_succ (l : List (List Int)) (j : Nat) (h : j < l.length) : F (l.take (j + 1)) = F (l.take j) ++ frameI l[j] := by
  rw [List.take_succ_eq_append_getElem h, F_append, F_one]
theorem F_split (l : List (List Int)) (j : Nat) : F l = F (l.take j) ++ F (l.drop j) := by rw [← F_append, List.take_append_drop]
theorem G_all (l : List (List Int)) (j : Nat) (h : l.length ≤ j) : G l j = (F l).length := by unfold G; rw [List.take_of_length_le h]
theorem G_mono (l : List (List Int)) : ∀ {i j : Nat}, i ≤ j → G l i ≤ G l j := by
  intro i j h
  obtain ⟨d, rfl⟩ : ∃ d, j = i + d := ⟨j - i, by omega⟩
  clear h
  induction d with
  | zero => exact Nat.le_refl _
  | succ d ih =>
    rcases Nat.lt_or_ge (i + d) l.length with h | h
    · have := G_succ l (i + d) h
      have e : i + (d + 1) = i + d + 1 := rfl
      rw [e]; omega
    · rw [G_all l (i + (d + 1)) (by omega), ← G_all l (i + d) h]; exact ih
theorem len_le_F : ∀ l : List (List Int), l.length ≤ (F l).length
  | [] => Nat.le_refl _
  | x :: l => by rw [F_cons, List.length_append, frameI_length, List.length_cons]; have := len_le_F l; omega
theorem openI_at (pre rest : List Int) : openI (pre ++ rest) pre.length =
    (if rest.length < 8 then ([], 0, 10) else if 65536 < get4 rest then ([], 0, 11) else if rest.length - 8 < get4 rest then ([], 0, 10) else
      if sumI ((rest.drop 8).take (get4 rest)) = get4 (rest.drop 4) then ((rest.drop 8).take (get4 rest), (pre.length : Int) + 8 + get4 rest, 0) else ([], 0, 20)) := by
  have hd : (pre ++ rest).drop pre.length = rest := by rw [List.drop_left]
  unfold openI
  rw [if_neg (by omega), if_neg (by rw [List.length_append]; omega), Int.toNat_natCast, hd]
theorem get4_frame (body post : List Int) (h : body.length ≤ 65536) : get4 (frameI body ++ post) = body.length := by
  have := get4_be4 (body.length : Int) (by omega) (by omega) (be4 (sumI body) ++ body ++ post)
  have e : frameI body ++ post = be4 body.length ++ (be4 (sumI body) ++ body ++ post) := by simp [frameI, List.append_assoc]
  rw [e]
  omega
theorem openI_cut (pre body : List Int) (h : body.length ≤ 65536) (j : Nat) (hj : j < 8 + body.length) : (openI (pre ++ (frameI body).take j) pre.length).2.2 ≠ 0 := by
  have hf := frameI_length body
  rw [openI_at]
  have hl : ((frameI body).take j).length = j := by rw [List.length_take, hf]; omega
  rw [hl]
  by_cases h8 : j < 8
  · rw [if_pos h8]; decide
  have hg : get4 ((frameI body).take j) = body.length := by
    rw [get4_take _ _ (by omega)]
    have := get4_frame body [] h
    rwa [List.append_nil] at this
  rw [if_neg h8, hg, if_neg (by omega), if_pos (by omega)]
  decide
theorem openI_end (pre : List Int) : (openI (pre ++ []) pre.length).2.2 ≠ 0 := by
  rw [openI_at, if_pos (by simp)]; decide
theorem sum_set (body : List Int) (hb : bytes body) (q : Nat) (hq : q < body.length) (to : Int) (ht : 0 ≤ to ∧ to < 256) (hne : body[q] ≠ to) : sumI (body.set q to) ≠ sumI body := by
  have hx := hb body[q] (List.getElem_mem hq)
  have e1 : body.set q to = body.take q ++ xorL [body[q]] [body[q].toNat ^^^ to.toNat] ++ body.drop (q + 1) := by
    rw [List.set_eq_take_append_cons_drop, if_pos hq]
    simp only [xorL, List.append_assoc, List.cons_append, List.nil_append]
    rw [← Nat.xor_assoc, Nat.xor_self, Nat.zero_xor, show ((to.toNat : Nat) : Int) = to by omega]
  have e2 : body = body.take q ++ [body[q]] ++ body.drop (q + 1) := by
    rw [← List.take_succ_eq_append_getElem hq, List.take_append_drop]
  have hbu := burst (body.take q) [body[q]] (body.drop (q + 1)) [body[q].toNat ^^^ to.toNat] (fun x hx' => by rw [List.mem_singleton] at hx'; rw [hx']; exact hx)
    (fun c hc => by rw [List.mem_singleton] at hc; rw [hc]; exact xor_byte (by omega) (by omega)) rfl (by simp)
  rw [← e1, ← e2] at hbu
  intro h
  have h0 := hbu.1 h _ (List.mem_singleton.2 rfl)
  have := xor_eq_zero h0
  omega
theorem openI_bad (pre body post : List Int) (h : body.length ≤ 65536) (hb : bytes body) (p : Nat) (hp4 : 4 ≤ p) (hp : p < 8 + body.length) (to : Int) (ht : 0 ≤ to ∧ to < 256) (hne : (frameI body)[p]'(by rw [frameI_length]; exact hp) ≠ to) :
    (openI (pre ++ ((frameI body).set p to ++ post)) pre.length).2.2 = 20 := by
  have hs := sumI_range body
  obtain ⟨q, rfl⟩ : ∃ q, p = 4 + q := ⟨p - 4, by omega⟩
  have hlen4 : ∀ n, (be4 n).length = 4 := fun n => rfl
  have e0 : frameI body = be4 body.length ++ (be4 (sumI body) ++ body) := by simp [frameI, List.append_assoc]
  have hne' : (be4 (sumI body) ++ body)[q]'(by rw [List.length_append, hlen4]; omega) ≠ to := by
    have : (frameI body)[4 + q]'(by rw [frameI_length]; exact hp) = (be4 (sumI body) ++ body)[q]'(by rw [List.length_append, hlen4]; omega) := by
      simp only [e0]
      rw [List.getElem_append_right (by rw [hlen4]; omega)]
      simp [hlen4]
    rwa [this] at hne
  have e1 : (frameI body).set (4 + q) to = be4 body.length ++ (be4 (sumI body) ++ body).set q to := by
    rw [e0, List.set_append_right _ _ (by rw [hlen4]; omega), hlen4, Nat.add_sub_cancel_left]
  have hlr : ((frameI body).set (4 + q) to ++ post).length = 8 + body.length + post.length := by rw [List.length_append, List.length_set, frameI_length]
  have hg : get4 ((frameI body).set (4 + q) to ++ post) = body.length := by
    rw [e1, List.append_assoc]
    have := get4_be4 (body.length : Int) (by omega) (by omega) ((be4 (sumI body) ++ body).set q to ++ post)
    omega
  have hd4 : ((frameI body).set (4 + q) to ++ post).drop 4 = (be4 (sumI body) ++ body).set q to ++ post := by
    rw [e1, List.append_assoc, show (4 : Nat) = (be4 (body.length : Int)).length from rfl, List.drop_left]
  have hd8 : ((frameI body).set (4 + q) to ++ post).drop 8 = (((be4 (sumI body) ++ body).set q to ++ post).drop 4) := by
    rw [← hd4, List.drop_drop]
  rw [openI_at, hlr, hg, if_neg (by omega), if_neg (by omega), if_neg (by omega), hd8, hd4]
  have key : sumI ((((be4 (sumI body) ++ body).set q to ++ post).drop 4).take body.length) ≠ ((get4 ((be4 (sumI body) ++ body).set q to ++ post) : Nat) : Int) := by
    by_cases hq : q < 4
    · rw [List.set_append_left _ _ (by rw [hlen4]; omega)]
      have hl4 : ((be4 (sumI body)).set q to).length = 4 := by rw [List.length_set, hlen4]
      have hbs : bytes ((be4 (sumI body)).set q to) := fun x hx => by
        rcases List.mem_or_eq_of_mem_set hx with h | h
        · exact bytes_be4 _ x h
        · rw [h]; exact ht
      rw [List.append_assoc, show (4 : Nat) = ((be4 (sumI body)).set q to).length from hl4.symm, List.drop_left, List.take_left]
      intro hc
      have hb4 := be4_get4 ((be4 (sumI body)).set q to ++ []) (by rw [List.append_nil]; exact hbs) (by simp [hl4])
      have hgt : get4 ((be4 (sumI body)).set q to ++ (body ++ post)) = get4 ((be4 (sumI body)).set q to ++ []) := by
        rw [← get4_take _ 4 (Nat.le_refl _), ← get4_take ((be4 (sumI body)).set q to ++ []) 4 (Nat.le_refl _)]
        congr 1
        rw [List.take_append_of_le_length (by rw [hl4]; omega), List.take_append_of_le_length (by rw [hl4]; omega)]
      rw [hgt] at hc
      rw [← hc, List.append_nil, List.take_of_length_le (by rw [hl4]; omega)] at hb4
      apply hne'
      rw [List.getElem_append_left (by rw [hlen4]; omega)]
      have : (be4 (sumI body))[q]'(by rw [hlen4]; omega) = ((be4 (sumI body)).set q to)[q]'(by rw [hl4]; omega) := by
        congr 1
      rw [this, List.getElem_set_self]
    · obtain ⟨r, rfl⟩ : ∃ r, q = 4 + r := ⟨q - 4, by omega⟩
      rw [List.set_append_right _ _ (by rw [hlen4]; omega), hlen4, Nat.add_sub_cancel_left, List.append_assoc]
      have hr : r < body.length := by omega
      rw [show (be4 (sumI body) ++ (body.set r to ++ post)).drop 4 = body.set r to ++ post from by rw [show (4 : Nat) = (be4 (sumI body)).length from rfl, List.drop_left]]
      rw [show (body.set r to ++ post).take body.length = body.set r to from by rw [show body.length = (body.set r to).length by rw [List.length_set], List.take_left]]
      have hgs := get4_be4 (sumI body) hs.1 (by omega) (body.set r to ++ post)
      rw [hgs]
      refine sum_set body hb r hr to ht ?_
      intro hc
      apply hne'
      rw [List.getElem_append_right (by rw [hlen4]; omega)]
      simp only [hlen4, Nat.add_sub_cancel_left]
      exact hc
  rw [if_neg key]
theorem scanF_stop (l : List Int) (a : Int) (acc : List (List Int)) (h : (openI l a).2.2 ≠ 0) : ∀ n, scanF n l a acc = (acc, a)
  | 0 => rfl
  | n + 1 => by rw [scanF, if_neg h]
theorem scanF_frames : ∀ (m : List (List Int)) (pre post : List Int) (acc : List (List Int)) (n : Nat), (∀ x ∈ m, x.length ≤ 65536) →
    scanF (m.length + n) (pre ++ (F m ++ post)) pre.length acc = scanF n (pre ++ (F m ++ post)) ((pre ++ F m).length : Nat) (acc ++ m)
  | [], pre, post, acc, n, _ => by simp [F_nil]
  | x :: m, pre, post, acc, n, h => by
    have hx := openI_frame pre x (F m ++ post) (h x List.mem_cons_self)
    have ih := scanF_frames m (pre ++ frameI x) post (acc ++ [x]) n (fun y hy => h y (List.mem_cons_of_mem _ hy))
    rw [List.length_cons, show m.length + 1 + n = (m.length + n) + 1 by omega, scanF, F_cons, List.append_assoc, hx]
    rw [if_pos rfl]
    have e1 : ((pre.length : Int) + 8 + x.length) = ((pre ++ frameI x).length : Nat) := by rw [List.length_append, frameI_length]; omega
    show scanF (m.length + n) _ ((pre.length : Int) + 8 + x.length) (acc ++ [x]) = _
    rw [e1]
    simp only [List.append_assoc, List.cons_append, List.nil_append] at ih ⊢
    exact ih
theorem scan_stop (m : List (List Int)) (post : List Int) (hm : ∀ x ∈ m, x.length ≤ 65536) (h : (openI (F m ++ post) (F m).length).2.2 ≠ 0) : scanI (F m ++ post) = (m, (((F m).length : Nat) : Int)) := by
  have hl := len_le_F m
  obtain ⟨n, hn⟩ : ∃ n, (F m ++ post).length + 1 = m.length + n := ⟨(F m ++ post).length + 1 - m.length, by rw [List.length_append]; omega⟩
  unfold scanI
  rw [hn]
  have := scanF_frames m [] post [] n hm
  simp only [List.nil_append, List.length_nil] at this
  rw [show ((0 : Nat) : Int) = 0 from rfl] at this
  rw [this, scanF_stop _ _ _ h]
/-- Where a place lies among the frames. -/
theorem place (l : List (List Int)) (c : Nat) : ∃ W, W ≤ l.length ∧ (∀ j, j ≤ W → G l j ≤ c) ∧ (∀ j, W < j → j ≤ l.length → c < G l j) := by
  suffices h : ∀ n, n ≤ l.length → ∃ W, W ≤ n ∧ (∀ j, j ≤ W → G l j ≤ c) ∧ (∀ j, W < j → j ≤ n → c < G l j) from h l.length (Nat.le_refl _)
  intro n
  induction n with
  | zero => intro _; exact ⟨0, Nat.le_refl _, fun j hj => by rw [show j = 0 by omega, G_zero]; omega, fun j h1 h2 => by omega⟩
  | succ n ih =>
    intro hn
    obtain ⟨W, hW, h1, h2⟩ := ih (by omega)
    by_cases hc : G l (n + 1) ≤ c
    · exact ⟨n + 1, Nat.le_refl _, fun j hj => Nat.le_trans (G_mono l hj) hc, fun j h3 h4 => by omega⟩
    · refine ⟨W, by omega, h1, fun j h3 h4 => ?_⟩
      rcases Nat.lt_or_ge n j with h5 | h5
      · rw [show j = n + 1 by omega]; omega
      · exact h2 j h3 h5
end Go.Proofs.Ytkmpjdccogolkaa.Pl
