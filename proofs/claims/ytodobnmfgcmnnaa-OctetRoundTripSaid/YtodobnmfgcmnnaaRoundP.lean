/- Plain: an integer, a text and a list, put behind any bytes, and read again. -/
import Derived.Test.YtodobnmfgcmnnaaByteP
namespace Go.Proofs.Ytodobnmfgcmnnaa.Pure
open Go.RowKit Go.Proofs.Ytodobnmfgcmnnaa.Pr Go.Proofs.YtodobnmfgcmnnaaW.PrintWords Go.Proofs.YtodobnmfgcmnnaaW.PrintLast
def all3 (b : List Int) (n : Int) (s : ByteArray) (xs : List Int) : List Int := Oc.putIs (putT (Oc.putI b n) s) xs
theorem trip (b : List Int) (n : Int) (s : ByteArray) (xs : List Int) (hb : Oc.okB b = true) (hn : Oc.ok64 n = true) (hx : ∀ x ∈ xs, Oc.ok64 x = true) (h1 : b.length ≤ 3000) (h2 : s.size ≤ 300) (h3 : xs.length ≤ 100) :
    Oc.getI (all3 b n s xs) b.length = (n, ((Oc.putI b n).length : Int), 0) ∧ Oc.getT (all3 b n s xs) ((Oc.putI b n).length : Int) s.size = (bytesOf s, ((putT (Oc.putI b n) s).length : Int), 0) ∧
    Oc.getIs (all3 b n s xs) ((putT (Oc.putI b n) s).length : Int) xs.length = (xs, ((all3 b n s xs).length : Int), 0) ∧ (all3 b n s xs).take b.length = b ∧ Oc.okB (all3 b n s xs) = true ∧ (all3 b n s xs).length ≤ 10000 ∧ b.length ≤ (all3 b n s xs).length := by
  have l1 := putI_length b n hn
  have l2 := putT_len (Oc.putI b n) s (by omega)
  have l3 := putIs_len (putT (Oc.putI b n) s) xs hx (by omega)
  have e3 : all3 b n s xs = putT (Oc.putI b n) s ++ (Oc.grp (Oc.zz xs.length) ++ (Oc.C xs ++ [])) := by unfold all3; rw [Oc.putIs_C]; simp only [List.append_assoc, List.append_nil]
  have e2 : all3 b n s xs = Oc.putI b n ++ (Oc.grp (Oc.zz (bytesOf s).length) ++ (bytesOf s ++ (Oc.grp (Oc.zz xs.length) ++ Oc.C xs))) := by unfold all3; rw [Oc.putIs_C, bytesOf_length]; unfold putT Oc.putI; simp only [List.append_assoc]
  have e1 : all3 b n s xs = b ++ (Oc.grp (Oc.zz n) ++ (Oc.grp (Oc.zz s.size) ++ (bytesOf s ++ (Oc.grp (Oc.zz xs.length) ++ Oc.C xs)))) := by unfold all3; rw [Oc.putIs_C]; unfold putT Oc.putI; simp only [List.append_assoc]
  refine ⟨?_, ?_, ?_, ?_, ?_, ?_, ?_⟩
  · rw [e1, Oc.getI_grp b _ n hn]
    simp [Oc.putI]
  · have h := Oc.getT_all (Oc.putI b n) (Oc.grp (Oc.zz xs.length) ++ Oc.C xs) (bytesOf s) (s.size : Int) (by rw [bytesOf_length]; omega) (by rw [bytesOf_length]; omega)
    rw [← e2] at h
    rw [h]
    simp only [putT, Oc.putI, List.length_append, bytesOf_length, Prod.mk.injEq, true_and, and_true]
    omega
  · have h := Oc.getIs_all (putT (Oc.putI b n) s) [] xs (xs.length : Int) hx (by omega) (by omega)
    rw [← e3] at h
    rw [h]
    have : (all3 b n s xs).length = (putT (Oc.putI b n) s).length + (Oc.grp (Oc.zz xs.length)).length + (Oc.C xs).length := by rw [e3]; simp only [List.length_append, List.append_nil]; omega
    simp only [Prod.mk.injEq, true_and, and_true]
    omega
  · rw [e1, List.take_left]
  · exact okB_putIs _ _ (okB_putT _ _ (okB_putI _ _ hb))
  · unfold all3; omega
  · rw [e1, List.length_append]; omega
end Go.Proofs.Ytodobnmfgcmnnaa.Pure
