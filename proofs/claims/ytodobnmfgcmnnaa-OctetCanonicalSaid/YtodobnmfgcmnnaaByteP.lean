/- What is encoded is bytes. -/
import Derived.Test.YtodobnmfgcmnnaaRefL
import Derived.Test.YtodobnmfgcmnnaaTrip
namespace Go.Proofs.Ytodobnmfgcmnnaa.Pure
open Go.RowKit Go.Proofs.Ytodobnmfgcmnnaa.Pr Go.Proofs.YtodobnmfgcmnnaaW.PrintWords Go.Proofs.YtodobnmfgcmnnaaW.PrintLast
theorem okB_append (l m : List Int) (h : Oc.okB l = true) (k : Oc.okB m = true) : Oc.okB (l ++ m) = true := by
  rw [Oc.okB_iff] at *
  exact fun x hx => (List.mem_append.1 hx).elim (h x) (k x)
theorem okB_take (l : List Int) (n : Nat) (h : Oc.okB l = true) : Oc.okB (l.take n) = true := by
  rw [Oc.okB_iff] at *
  exact fun x hx => h x (List.mem_of_mem_take hx)
theorem okB_grp (u : Nat) : Oc.okB (Oc.grp u) = true := by
  induction u using Nat.strongRecOn with
  | _ u ih =>
    by_cases c : 127 < u
    · rw [Oc.grp_big u c, ← List.singleton_append]
      exact okB_append _ _ ((Oc.okB_iff _).2 fun x hx => by rw [List.mem_singleton.1 hx]; omega) (ih _ (by omega))
    · rw [Oc.grp_small u (by omega)]
      exact (Oc.okB_iff _).2 fun x hx => by rw [List.mem_singleton.1 hx]; omega
theorem okB_C (xs : List Int) : Oc.okB (Oc.C xs) = true := by
  induction xs with
  | nil => rfl
  | cons x xs ih => rw [Oc.C_cons]; exact okB_append _ _ (okB_grp _) ih
theorem okB_bytes (s : ByteArray) : Oc.okB (bytesOf s) = true := by
  rw [Oc.okB_iff]
  intro x hx
  unfold bytesOf at hx
  obtain ⟨b, _, rfl⟩ := List.mem_map.1 hx
  have := b.toNat_lt
  omega
theorem okB_putI (l : List Int) (n : Int) (h : Oc.okB l = true) : Oc.okB (Oc.putI l n) = true := okB_append _ _ h (okB_grp _)
theorem okB_putT (l : List Int) (s : ByteArray) (h : Oc.okB l = true) : Oc.okB (putT l s) = true := okB_append _ _ (okB_putI _ _ h) (okB_bytes s)
theorem okB_putIs (l xs : List Int) (h : Oc.okB l = true) : Oc.okB (Oc.putIs l xs) = true := by
  rw [Oc.putIs_C]; exact okB_append _ _ (okB_append _ _ h (okB_grp _)) (okB_C xs)
theorem C_len (xs : List Int) (hx : ∀ x ∈ xs, Oc.ok64 x = true) : (Oc.C xs).length ≤ 10 * xs.length := by
  induction xs with
  | nil => simp [Oc.C]
  | cons x xs ih =>
    have h1 := Oc.grp_ten _ (Oc.zz_lt x (hx x List.mem_cons_self))
    have h2 := ih (fun y hy => hx y (List.mem_cons_of_mem _ hy))
    rw [Oc.C_cons, List.length_append, List.length_cons]
    omega
theorem putIs_len (l xs : List Int) (hx : ∀ x ∈ xs, Oc.ok64 x = true) (hl : xs.length ≤ 1000000000000) : (Oc.putIs l xs).length ≤ l.length + 10 + 10 * xs.length := by
  have h1 := C_len xs hx
  have h2 := Oc.grp_ten _ (Oc.zz_lt _ (ok64_nat xs.length (by omega)))
  rw [Oc.putIs_C, List.length_append, List.length_append]
  omega
theorem putT_len (l : List Int) (s : ByteArray) (hs : s.size ≤ 1000000000000) : (putT l s).length ≤ l.length + 10 + s.size := by
  have h1 := putI_length l _ (ok64_nat s.size (by omega))
  unfold putT
  rw [List.length_append, bytesOf_length]
  omega
theorem str_bytes (s : ByteArray) : strOfNums (bytesOf s) = s := by
  unfold strOfNums bytesOf
  have h : (fun n : Int => UInt8.ofNat n.toNat) ∘ (fun b : UInt8 => (b.toNat : Int)) = id := by
    funext b
    show UInt8.ofNat ((b.toNat : Int)).toNat = b
    rw [Int.toNat_natCast, UInt8.ofNat_toNat]
  rw [List.map_map, h, List.map_id]
end Go.Proofs.Ytodobnmfgcmnnaa.Pure
