/- Decimal digits, nine at a time. Plain mathematics. -/
import Derived.Test.YtigoofeodbbbhaaDoorMath5
import Derived.Lib.ItoaNum
namespace Go.Proofs.YtigoofeodbbbhaaDoorM
set_option linter.unusedVariables false
set_option linter.unusedSimpArgs false
open Go.Lib
/-- just k digits -/
def padD : Nat → Nat → List UInt8
  | 0, _ => []
  | k + 1, r => padD k (r / 10) ++ [UInt8.ofNat (48 + r % 10)]
theorem decDigits_big {u : Nat} (h : ¬ u < 10) : decDigits u = decDigits (u / 10) ++ [UInt8.ofNat (48 + u % 10)] := by rw [decDigits, dif_neg h]
theorem dec_split : ∀ (k v : Nat), 0 < v / 10 ^ k → decDigits v = decDigits (v / 10 ^ k) ++ padD k (v % 10 ^ k)
  | 0, v, _ => by simp [padD]
  | k + 1, v, h => by
    have e1 : v / 10 ^ (k + 1) = v / 10 / 10 ^ k := by rw [Nat.pow_succ, Nat.mul_comm, Nat.div_div_eq_div_mul]
    have e2 : v % 10 ^ (k + 1) / 10 = v / 10 % 10 ^ k := by rw [Nat.pow_succ, Nat.mul_comm, Nat.mod_mul_right_div_self]
    have e3 : v % 10 ^ (k + 1) % 10 = v % 10 := by rw [Nat.pow_succ]; exact Nat.mod_mul_left_mod _ _ _
    have hv : ¬ v < 10 := by
      intro hlt
      rw [e1, Nat.div_eq_of_lt hlt] at h
      simp at h
    rw [e1] at h ⊢
    rw [decDigits_big hv, dec_split k (v / 10) h, padD, e2, e3, List.append_assoc]
theorem padD_eq : ∀ (k r : Nat), r < 10 ^ (k + 1) → padD (k + 1) r = List.replicate (k + 1 - (decDigits r).length) 48 ++ decDigits r
  | 0, r, h => by
    have h10 : r < 10 := by simpa using h
    rw [decDigits_one h10]
    simp [padD, Nat.mod_eq_of_lt h10]
  | k + 1, r, h => by
    rw [padD]
    by_cases h10 : r < 10
    · rw [Nat.div_eq_of_lt h10, padD_eq k 0 (Nat.pow_pos (by omega)), decDigits_one h10, decDigits_one (by omega), Nat.mod_eq_of_lt h10]
      simp only [List.length_singleton, List.append_assoc]
      rw [show k + 1 + 1 - 1 = (k + 1 - 1) + 1 by omega, List.replicate_succ', List.append_assoc]
      rfl
    · rw [padD_eq k (r / 10) (by rw [Nat.div_lt_iff_lt_mul (by omega)]; rwa [Nat.pow_succ] at h), decDigits_big h10, List.append_assoc]
      simp
theorem padD_len : ∀ k r, (padD k r).length = k
  | 0, _ => rfl
  | k + 1, r => by simp [padD, padD_len k]
theorem dec_len9 (r : Nat) (h : r < 1000000000) : (decDigits r).length ≤ 9 := by
  have h1 := padD_eq 8 r (by simpa using h)
  have h2 := congrArg List.length h1
  rw [padD_len, List.length_append] at h2
  omega
/-- the text of limbs of nine digits, the lowest first -/
def joinL : List (List UInt8) → List UInt8
  | [] => []
  | [x] => x
  | x :: y :: l => joinL (y :: l) ++ (List.replicate (9 - x.length) 48 ++ x)
theorem joinL_dec (v : Nat) (hv : 0 < v) : joinL ((digB 1000000000 v).map decDigits) = decDigits v := by
  induction v using Nat.strongRecOn with
  | ind v ih =>
    rw [digB_pos _ _ (by omega) hv]
    by_cases h : v < 1000000000
    · rw [Nat.div_eq_of_lt h, digB_zero, Nat.mod_eq_of_lt h]; rfl
    · have hq : 0 < v / 1000000000 := Nat.div_pos (by omega) (by omega)
      have hi := ih (v / 1000000000) (Nat.div_lt_self hv (by omega)) hq
      rw [digB_pos _ _ (by omega) hq] at hi ⊢
      rw [List.map_cons, List.map_cons, joinL, ← List.map_cons, hi]
      rw [dec_split 9 v (by simpa using hq), padD_eq 8 _ (Nat.mod_lt _ (by omega))]
theorem joinL_cons (x : List UInt8) (l : List (List UInt8)) (h : l ≠ []) : joinL (x :: l) = joinL l ++ (List.replicate (9 - x.length) 48 ++ x) := by
  cases l with
  | nil => exact absurd rfl h
  | cons y l => rfl
theorem joinL_len : ∀ l : List (List UInt8), (∀ x ∈ l, x.length ≤ 9) → (joinL l).length ≤ 9 * l.length
  | [], _ => by simp [joinL]
  | [x], h => by simpa [joinL] using h x (by simp)
  | x :: y :: l, h => by
    have h1 := joinL_len (y :: l) (fun z hz => h z (List.mem_cons_of_mem _ hz))
    have h2 := h x (by simp)
    simp only [joinL, List.length_append, List.length_replicate, List.length_cons] at *
    omega
theorem decL_dec (v : Nat) : (decL v).map UInt8.ofNat = decDigits v := by
  rcases Nat.eq_zero_or_pos v with rfl | hv
  · rw [decL, if_pos rfl, decDigits_one (by omega)]; rfl
  · rw [decL_pos hv]
    induction v using Nat.strongRecOn with
    | ind v ih =>
      rw [digB_pos _ _ (by omega) hv]
      by_cases h : v < 10
      · rw [Nat.div_eq_of_lt h, digB_zero, Nat.mod_eq_of_lt h, decDigits_one h]; rfl
      · rw [decDigits_big h, ← ih (v / 10) (Nat.div_lt_self hv (by omega)) (Nat.div_pos (by omega) (by omega))]
        simp
theorem pow32_le (n : Nat) : (4294967296 : Nat) ^ n ≤ 1000000000 ^ (2 * n) := by
  rw [Nat.pow_mul]; exact Nat.pow_le_pow_left (by omega) n
theorem dig9_len (l : List Nat) (h : ∀ x ∈ l, x < 4294967296) : (digB 1000000000 (valB 4294967296 l)).length ≤ 2 * l.length :=
  digB_len_lt 1000000000 (by omega) _ _ (Nat.lt_of_lt_of_le (valB_lt 4294967296 (by omega) l h) (pow32_le _))
theorem piece_step {β : Type} (f : Nat → β) (x : Nat) (hx : 0 < x) (E bs : List β) (h : E = bs ++ (digB 1000000000 x).map f) : E = (bs ++ [f (x % 1000000000)]) ++ (digB 1000000000 (x / 1000000000)).map f := by
  rw [h, digB_pos 1000000000 x (by omega) hx, List.append_assoc]; rfl
end Go.Proofs.YtigoofeodbbbhaaDoorM
