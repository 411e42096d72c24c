/- Sums of many lists of digits; how long they are. Plain mathematics. -/
import Derived.Test.YtigoofeodbbbhaaDoorMath3
namespace Go.Proofs.YtigoofeodbbbhaaDoorM
set_option linter.unusedVariables false
set_option linter.unusedSimpArgs false
def sumV (B : Nat) : List (List Nat) → Nat
  | [] => 0
  | l :: m => valB B l + sumV B m
theorem sumV_append (B : Nat) : ∀ l m, sumV B (l ++ m) = sumV B l + sumV B m
  | [], m => by simp [sumV]
  | x :: l, m => by simp only [List.cons_append, sumV, sumV_append B l m]; omega
theorem sumV_take_succ (B : Nat) (l : List (List Nat)) (k : Nat) (hk : k < l.length) : sumV B (l.take (k + 1)) = sumV B (l.take k) + valB B l[k] := by
  rw [List.take_succ_eq_append_getElem hk, sumV_append]; simp [sumV]
theorem sumV_lt (B N : Nat) (hB : 0 < B) : ∀ L : List (List Nat), (∀ l ∈ L, (∀ x ∈ l, x < B) ∧ l.length ≤ N) → sumV B L + L.length ≤ L.length * B ^ N
  | [], _ => by simp [sumV]
  | l :: m, h => by
    have h1 := sumV_lt B N hB m (fun x hx => h x (List.mem_cons_of_mem _ hx))
    obtain ⟨h2, h3⟩ := h l (List.mem_cons_self ..)
    have h4 := valB_lt B hB l h2
    have h5 : B ^ l.length ≤ B ^ N := Nat.pow_le_pow_right hB h3
    simp only [sumV, List.length_cons, Nat.add_mul, Nat.one_mul]
    omega
/-- a sum of fewer than 2^48 numbers of at most N limbs has at most 2N + 3 half limbs -/
theorem sumV_len (N : Nat) (L : List (List Nat)) (h : ∀ l ∈ L, (∀ x ∈ l, x < 4294967296) ∧ l.length ≤ N) (hL : L.length < 281474976710656) : (digB 65536 (sumV 4294967296 L)).length ≤ 2 * N + 3 := by
  refine digB_len_lt 65536 (by omega) _ _ ?_
  have h1 := sumV_lt 4294967296 N (by omega) L h
  have h2 : (4294967296 : Nat) ^ N = 65536 ^ (2 * N) := by rw [Nat.pow_mul]
  rw [h2] at h1
  have h3 : (65536 : Nat) ^ (2 * N + 3) = 65536 ^ (2 * N) * 281474976710656 := by rw [Nat.pow_add]
  rw [h3]
  have hp : 0 < (65536 : Nat) ^ (2 * N) := Nat.pow_pos (by omega)
  have h4 : L.length * 65536 ^ (2 * N) < 281474976710656 * 65536 ^ (2 * N) := Nat.mul_lt_mul_of_pos_right hL hp
  rw [Nat.mul_comm (65536 ^ (2 * N))]
  omega
end Go.Proofs.YtigoofeodbbbhaaDoorM
