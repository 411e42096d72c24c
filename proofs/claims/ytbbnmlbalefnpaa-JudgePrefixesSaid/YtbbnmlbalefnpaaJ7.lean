/- Which outcomes of JudgePrefixes agree: about byte arrays alone. -/
import Derived.Test.YtbbnmlbalefnpaaJ6
namespace Go.Proofs.Ytbbnmlbalefnpaa
open Go.RowKit Go.Proofs.YtbbnmlbalefnpaaL
abbrev pA (out : ByteArray) (k h : Nat) : Out := ⟨3 + (h : Int), out.extract 0 k, ⟨#[]⟩, 0, 0⟩
abbrev pB (out text : ByteArray) : Out := ⟨1, out, text, 0, 0⟩
abbrev pC (out more : ByteArray) : Out := ⟨4, out ++ more, ⟨#[]⟩, 0, 0⟩
abbrev pD (out : ByteArray) (k : Nat) : Out := ⟨5, out.extract 0 k ++ ⟨#[0]⟩ ++ out.extract k out.size, ⟨#[]⟩, 0, 0⟩
theorem ext_left (a b : ByteArray) (k : Nat) (hk : k ≤ a.size) : (a ++ b).extract 0 k = a.extract 0 k := by
  apply ByteArray.ext
  simp only [ByteArray.data_extract, ByteArray.data_append]
  rw [Array.extract_append]
  have : k - a.size = 0 := by omega
  simp [this]
theorem ext_all (a : ByteArray) : a.extract 0 a.size = a := by simp
theorem preB_of {s p : ByteArray} (h1 : p.size ≤ s.size) (h2 : s.extract 0 p.size = p) : preB s p = true := by
  unfold preB; rw [h2]; simp [h1]
theorem sz_ext (out : ByteArray) (k : Nat) (hk : k ≤ out.size) : (out.extract 0 k).size = k := by simp; omega
theorem pre_k (out : ByteArray) (k : Nat) (hk : k ≤ out.size) : preB out (out.extract 0 k) = true :=
  preB_of (by rw [sz_ext out k hk]; exact hk) (by rw [sz_ext out k hk])
theorem pre_more (out more : ByteArray) (k : Nat) (hk : k ≤ out.size) : preB (out ++ more) (out.extract 0 k) = true :=
  preB_of (by rw [sz_ext out k hk, ByteArray.size_append]; omega) (by rw [sz_ext out k hk, ext_left _ _ _ hk])
theorem pre_all (out more : ByteArray) : preB (out ++ more) out = true :=
  preB_of (by rw [ByteArray.size_append]; omega) (by rw [ext_left _ _ _ (Nat.le_refl _), ext_all])
theorem whole_pA (out : ByteArray) (k h : Nat) (hh : h < 3) : wholeB (pA out k h) = false := by
  simp [wholeB]; omega
theorem whole_pC (out more : ByteArray) : wholeB (pC out more) = false := by simp [wholeB]
theorem whole_pD (out : ByteArray) (k : Nat) : wholeB (pD out k) = false := by simp [wholeB]
theorem agAB5 (out text : ByteArray) (k h : Nat) (hk : k ≤ out.size) (hh : h < 3) : agreeB (pA out k h) (pB out text) = true := by
  unfold agreeB; rw [whole_pA out k h hh]; simp [pre_k out k hk]
theorem agBC5 (out text more : ByteArray) : agreeB (pB out text) (pC out more) = true := by
  unfold agreeB; rw [whole_pC]; simp [pre_all]
theorem agAC5 (out more : ByteArray) (k h : Nat) (hk : k ≤ out.size) (hh : h < 3) : agreeB (pA out k h) (pC out more) = true := by
  unfold agreeB; rw [whole_pA out k h hh]; simp [pre_more out more k hk]
theorem agBD5 (out text : ByteArray) (k : Nat) (hk : k ≤ out.size) : agreeB (pB out text) (pD out k) = (((out.extract 0 k ++ ⟨#[0]⟩ ++ out.extract k out.size).extract 0 out.size).toList == out.toList) := by
  have e3 : (⟨#[0]⟩ : ByteArray).size = 1 := rfl
  have e4 : (out.extract 0 k ++ ⟨#[0]⟩ ++ out.extract k out.size).size = out.size + 1 := by
    rw [ByteArray.size_append, ByteArray.size_append, sz_ext out k hk, e3]; simp; omega
  unfold agreeB; rw [whole_pD]
  simp only [Bool.and_false, Bool.false_eq_true, if_false, preB, e4]
  have h1 : decide (out.size + 1 ≤ out.size) = false := decide_eq_false (by omega)
  have h2 : decide (out.size ≤ out.size + 1) = true := decide_eq_true (by omega)
  rw [h1, h2]; simp
theorem alABC (out text more : ByteArray) (k h : Nat) (hk : k ≤ out.size) (hh : h < 3) : allB [pA out k h, pB out text, pC out more] = true := by
  simp only [allB, List.length_cons, List.length_nil, Nat.zero_add, Nat.reduceAdd, List.range_succ, List.range_zero, List.nil_append, List.all_append, List.all_cons, List.all_nil, Bool.and_true, Bool.true_and, List.cons_append, Bool.and_eq_true]
  refine ⟨?_, ?_, ?_⟩
  · exact (agreeB_symm _ _).trans (agAB5 out text k h hk hh)
  · exact (agreeB_symm _ _).trans (agAC5 out more k h hk hh)
  · exact (agreeB_symm _ _).trans (agBC5 out text more)
theorem agT (x y : Out) (r : Bool) (w : World) (h : agreeB x y = r) : Calls Try.prog 6 #[.agg #[.int .i64 x.how, .string x.out, .string x.text, .int .i64 x.err, .int .i64 x.at_], .agg #[.int .i64 y.how, .string y.out, .string y.text, .int .i64 y.err, .int .i64 y.at_]] w
      fun e w' => e = .returned (.bool r) ∧ Below w.heap.size w w' := by rw [← h]; exact agree6 x y w
end Go.Proofs.Ytbbnmlbalefnpaa
