/- Whole numbers as a sign and a size. Plain mathematics. -/
import Derived.Test.YtigoofeodbbbhaaDoorMath8
namespace Go.Proofs.YtigoofeodbbbhaaDoorM
set_option linter.unusedVariables false
set_option linter.unusedSimpArgs false
/-- the number of a sign and a size -/
def sval (neg : Bool) (v : Nat) : Int := if neg then -(v : Int) else (v : Int)
theorem sval_abs (neg : Bool) (v : Nat) : (sval neg v).natAbs = v := by cases neg <;> simp [sval]
theorem sval_lt (neg : Bool) (v : Nat) : decide (sval neg v < 0) = (neg && decide (0 < v)) := by
  cases neg
  · simp [sval]
  · rw [Bool.eq_iff_iff]; simp only [sval, if_true, decide_eq_true_eq, Bool.true_and]; omega
theorem sval_same (n : Bool) (a b : Nat) : sval n (a + b) = sval n a + sval n b := by cases n <;> simp [sval] <;> omega
theorem sval_apart (n m : Bool) (a b : Nat) (h : n ≠ m) (hle : b ≤ a) : sval n (a - b) = sval n a + sval m b := by
  cases n <;> cases m <;> simp_all [sval] <;> omega
theorem sval_mul (n m : Bool) (a b : Nat) : sval (n != m) (a * b) = sval n a * sval m b := by
  cases n <;> cases m <;> simp [sval, Int.mul_neg, Int.neg_mul]
theorem sval_not (n : Bool) (a : Nat) : sval (!n) a = - sval n a := by cases n <;> simp [sval]
theorem sval_canon (n : Bool) (a : Nat) : sval (n && decide (0 < a)) a = sval n a := by
  cases n
  · simp
  · rcases Nat.eq_zero_or_pos a with rfl | h
    · simp [sval]
    · simp [h]
theorem sval_of (z : Int) : sval (decide (z < 0)) z.natAbs = z := by
  by_cases h : z < 0
  · simp [sval, h]; omega
  · simp [sval, h]; omega
theorem sval_zero (n : Bool) (a : Nat) : sval n a = 0 ↔ a = 0 := by cases n <;> simp [sval]
/-- the sum of whole numbers -/
def sumZ : List Int → Int
  | [] => 0
  | z :: l => z + sumZ l
theorem sumZ_append : ∀ l m, sumZ (l ++ m) = sumZ l + sumZ m
  | [], m => by simp [sumZ]
  | x :: l, m => by simp only [List.cons_append, sumZ, sumZ_append l m]; omega
theorem sumZ_take_succ (l : List Int) (k : Nat) (hk : k < l.length) : sumZ (l.take (k + 1)) = sumZ (l.take k) + l[k] := by
  rw [List.take_succ_eq_append_getElem hk, sumZ_append]; simp [sumZ]
def prodZ : List Int → Int
  | [] => 1
  | z :: l => z * prodZ l
theorem prodZ_append : ∀ l m, prodZ (l ++ m) = prodZ l * prodZ m
  | [], m => by simp [prodZ]
  | x :: l, m => by simp only [List.cons_append, prodZ, prodZ_append l m, Int.mul_assoc]
theorem prodZ_take_succ (l : List Int) (k : Nat) (hk : k < l.length) : prodZ (l.take (k + 1)) = prodZ (l.take k) * l[k] := by
  rw [List.take_succ_eq_append_getElem hk, prodZ_append]; simp [prodZ]
/-- a sum is at most so great -/
theorem sumZ_abs (N : Nat) : ∀ l : List Int, (∀ z ∈ l, z.natAbs < N) → (sumZ l).natAbs ≤ l.length * N
  | [], _ => by simp [sumZ]
  | z :: l, h => by
    have h1 := sumZ_abs N l (fun x hx => h x (List.mem_cons_of_mem _ hx))
    have h2 := h z (List.mem_cons_self ..)
    have h3 := Int.natAbs_add_le z (sumZ l)
    simp only [sumZ, List.length_cons, Nat.add_mul, Nat.one_mul]
    omega
end Go.Proofs.YtigoofeodbbbhaaDoorM
