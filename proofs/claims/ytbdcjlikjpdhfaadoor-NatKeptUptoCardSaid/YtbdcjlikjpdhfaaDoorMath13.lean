/- Decimal digits read as a number. Plain mathematics. -/
import Derived.Test.YtbdcjlikjpdhfaaDoorMath6
import Derived.Lib.ParseIntB
import Derived.Lib.ItoaNum
import Derived.Lib.MapLaws
namespace Go.Proofs.YtbdcjlikjpdhfaaDoorM
set_option linter.unusedVariables false
set_option linter.unusedSimpArgs false
/-- is it a decimal digit? -/
def isD (c : UInt8) : Bool := decide (48 ≤ c.toNat ∧ c.toNat ≤ 57)
theorem isD_of {c : UInt8} (h : isD c = true) : 48 ≤ c.toNat ∧ c.toNat ≤ 57 := by rwa [isD, decide_eq_true_iff] at h
theorem isD_not {c : UInt8} (h : isD c = false) : c.toNat < 48 ∨ 57 < c.toNat := by rw [isD, decide_eq_false_iff_not] at h; omega
/-- the number behind digits that have already been read -/
def numV (a : Nat) (l : List UInt8) : Nat := l.foldl (fun a c => a * 10 + (c.toNat - 48)) a
theorem numV_nil (a : Nat) : numV a [] = a := rfl
theorem numV_cons (a : Nat) (c : UInt8) (l : List UInt8) : numV a (c :: l) = numV (a * 10 + (c.toNat - 48)) l := by rw [numV, numV, List.foldl_cons]
theorem numV_append (l m : List UInt8) (a : Nat) : numV a (l ++ m) = numV (numV a l) m := List.foldl_append
theorem numV_acc (l : List UInt8) : ∀ a : Nat, numV a l = a * 10 ^ l.length + numV 0 l := by
  induction l with
  | nil => intro a; rw [numV_nil, numV_nil, List.length_nil]; simp
  | cons c l ih =>
    intro a
    rw [numV_cons, ih, numV_cons, ih (0 * 10 + (c.toNat - 48)), List.length_cons, Nat.pow_succ, Nat.add_mul, Nat.zero_mul, Nat.zero_add, Nat.mul_assoc, Nat.mul_comm 10]
    omega
theorem numV_lt (l : List UInt8) : ∀ a : Nat, (∀ c ∈ l, isD c = true) → numV a l < (a + 1) * 10 ^ l.length := by
  induction l with
  | nil => intro a _; rw [numV_nil, List.length_nil]; simp
  | cons c l ih =>
    intro a h
    have h1 := isD_of (h c (List.mem_cons_self ..))
    have h2 := ih (a * 10 + (c.toNat - 48)) (fun x hx => h x (List.mem_cons_of_mem _ hx))
    rw [numV_cons, List.length_cons, Nat.pow_succ]
    have h3 : (a * 10 + (c.toNat - 48) + 1) * 10 ^ l.length ≤ ((a + 1) * 10) * 10 ^ l.length := Nat.mul_le_mul_right _ (by omega)
    rw [Nat.mul_assoc, Nat.mul_comm 10] at h3
    omega
theorem numV_lt0 (l : List UInt8) (h : ∀ c ∈ l, isD c = true) : numV 0 l < 10 ^ l.length := by
  have := numV_lt l 0 h
  rwa [Nat.zero_add, Nat.one_mul] at this
/-- strconv.ParseUint of digits that fit -/
theorem parse_ok (M : Nat) (hM2 : M ≤ 4294967295) (l : List UInt8) : ∀ a : Nat, (∀ c ∈ l, isD c = true) → numV a l ≤ M → Lib.parseUintM M a l = .ok (numV a l) := by
  induction l with
  | nil => intro a _ _; rfl
  | cons c l ih =>
    intro a h hM
    have h1 := isD_of (h c (List.mem_cons_self ..))
    have h2 : a * 10 + (c.toNat - 48) ≤ numV (a * 10 + (c.toNat - 48)) l := by
      have := numV_acc l (a * 10 + (c.toNat - 48))
      have h3 : (a * 10 + (c.toNat - 48)) * 1 ≤ (a * 10 + (c.toNat - 48)) * 10 ^ l.length := Nat.mul_le_mul_left _ (Nat.pow_pos (by omega))
      omega
    rw [numV_cons] at hM ⊢
    rw [Lib.parseUintM, if_pos h1, if_neg (by omega), if_neg (by omega)]
    exact ih _ (fun x hx => h x (List.mem_cons_of_mem _ hx)) hM
theorem numV_snoc (l : List UInt8) (c : UInt8) (a : Nat) : numV a (l ++ [c]) = numV a l * 10 + (c.toNat - 48) := by
  rw [numV_append]; rfl
/-- the digits of a number are read as that number -/
theorem numV_dec (u : Nat) : numV 0 (Lib.decDigits u) = u ∧ (∀ c ∈ Lib.decDigits u, isD c = true) ∧ Lib.decDigits u ≠ [] := by
  induction u using Nat.strongRecOn with
  | ind u ih =>
    have hd : ∀ d, d < 10 → (UInt8.ofNat (48 + d)).toNat = 48 + d := fun d hd => by
      simp [UInt8.toNat_ofNat']; omega
    by_cases h : u < 10
    · rw [Lib.decDigits, dif_pos h]
      refine ⟨?_, fun c hc => ?_, by simp⟩
      · rw [numV_cons, numV_nil, hd u h]; omega
      · simp only [List.mem_singleton] at hc
        subst hc
        rw [isD, decide_eq_true_iff, hd u h]; omega
    · obtain ⟨h1, h2, h3⟩ := ih (u / 10) (by omega)
      have hm : u % 10 < 10 := Nat.mod_lt _ (by omega)
      rw [Lib.decDigits, dif_neg h]
      refine ⟨?_, fun c hc => ?_, by simp⟩
      · rw [numV_snoc, h1, hd _ hm]; omega
      · rcases List.mem_append.1 hc with hc | hc
        · exact h2 c hc
        · simp only [List.mem_singleton] at hc
          subst hc
          rw [isD, decide_eq_true_iff, hd _ hm]; omega
theorem numV_zeros (n : Nat) (l : List UInt8) : numV 0 (List.replicate n (48 : UInt8) ++ l) = numV 0 l := by
  induction n with
  | zero => rfl
  | succ n ih => rw [List.replicate_succ, List.cons_append, numV_cons]; exact ih
/-- what a rune is where its first byte is no digit: no digit -/
theorem rune_no_digit (s : ByteArray) (pos : Nat) (h : pos < s.size) (hd : isD (s[pos]'h) = false) : (Utf8.decode s pos).1 < 48 ∨ 57 < (Utf8.decode s pos).1 := by
  have hg : s.get! pos = s[pos]'h := by
    simp [ByteArray.get!, getElem!_pos, h]
    rfl
  have hn := isD_not hd
  rw [Lib.decode_at, hg]
  rcases Lib.decodeN_shape (s.size - pos) (s[pos]'h).toNat (s.get! (pos + 1)).toNat (s.get! (pos + 2)).toNat (s.get! (pos + 3)).toNat with ⟨_, e⟩ | ⟨_, _, _, h4, e⟩ | ⟨_, _, _, _, h4, _, e⟩ | ⟨_, _, _, _, _, h4, _, e⟩ | e
  all_goals rw [e]; simp only; omega
end Go.Proofs.YtbdcjlikjpdhfaaDoorM
