/- Decimal digits as a text; a list turned round by swapping. Plain mathematics. -/
import Derived.Test.YtigoofeodbbbhaaDoorMath4
namespace Go.Proofs.YtigoofeodbbbhaaDoorM
set_option linter.unusedVariables false
set_option linter.unusedSimpArgs false
/-- the bytes of the decimal text -/
def decL (v : Nat) : List Nat := if v = 0 then [48] else ((digB 10 v).map (48 + ·)).reverse
theorem decL_pos {v : Nat} (h : 0 < v) : decL v = ((digB 10 v).map (48 + ·)).reverse := by rw [decL, if_neg (by omega)]
theorem pow10_le (n : Nat) : (65536 : Nat) ^ n ≤ 10 ^ (5 * n) := by
  rw [Nat.pow_mul]; exact Nat.pow_le_pow_left (by omega) n
theorem dig10_len (l : List Nat) (h : ∀ x ∈ l, x < 65536) : (digB 10 (valB 65536 l)).length ≤ 5 * l.length :=
  digB_len_lt 10 (by omega) _ _ (Nat.lt_of_lt_of_le (valB_lt 65536 (by omega) l h) (pow10_le _))
theorem digB_len_mono (B : Nat) (hB : 1 < B) (q x : Nat) (h : q ≤ x) : (digB B q).length ≤ (digB B x).length := by
  refine digB_len_lt B hB _ _ (Nat.lt_of_le_of_lt h ?_)
  have := valB_lt B (by omega) (digB B x) (digB_lt B hB x)
  rwa [digB_val B hB] at this
theorem digB_snoc_step (B x : Nat) (hB : 1 < B) (hx : 0 < x) (D ds : List Nat) (h : D = ds ++ digB B x) : D = (ds ++ [x % B]) ++ digB B (x / B) := by
  rw [h, digB_pos B x hB hx, List.append_assoc]; rfl
theorem dec_step (x : Nat) (hx : 0 < x) (E bs : List Nat) (h : E = bs ++ (digB 10 x).map (48 + ·)) : E = (bs ++ [48 + x % 10]) ++ (digB 10 (x / 10)).map (48 + ·) := by
  rw [h, digB_pos 10 x (by omega) hx, List.append_assoc]; rfl
/-- the first i and the last i are turned round -/
structure Swapped (D X : List Nat) (i : Nat) : Prop where
  len : X.length = D.length
  out : ∀ j, j < D.length → (j < i ∨ D.length ≤ j + i) → X[j]? = D[D.length - 1 - j]?
  mid : ∀ j, i ≤ j → j + i < D.length → X[j]? = D[j]?
theorem Swapped.start (D : List Nat) : Swapped D D 0 := ⟨rfl, fun j h1 h2 => by omega, fun _ _ _ => rfl⟩
theorem Swapped.done {D X : List Nat} {i : Nat} (h : Swapped D X i) (hi : D.length ≤ 2 * i + 1) : X = D.reverse := by
  apply List.ext_getElem?
  intro j
  by_cases hj : j < D.length
  · rw [List.getElem?_reverse hj]
    by_cases h1 : j < i ∨ D.length ≤ j + i
    · exact h.out j hj h1
    · rw [h.mid j (by omega) (by omega)]
      congr 1; omega
  · rw [List.getElem?_eq_none (by rw [h.len]; omega), List.getElem?_eq_none (by simp; omega)]
theorem Swapped.step {D X : List Nat} {i : Nat} (h : Swapped D X i) (hi : 2 * i + 1 < D.length) : Swapped D ((X.set i (X.getD (D.length - 1 - i) 0)).set (D.length - 1 - i) (X.getD i 0)) (i + 1) := by
  have e1 : X.getD (D.length - 1 - i) 0 = D.getD (D.length - 1 - i) 0 := by
    simp only [List.getD]; rw [h.mid _ (by omega) (by omega)]
  have e2 : X.getD i 0 = D.getD i 0 := by
    simp only [List.getD]; rw [h.mid _ (by omega) (by omega)]
  rw [e1, e2]
  refine ⟨by simp [h.len], fun j hj hc => ?_, fun j h1 h2 => ?_⟩
  · rw [List.getElem?_set, List.getElem?_set]
    by_cases c1 : D.length - 1 - i = j
    · subst c1
      rw [if_pos rfl, if_pos (by simp [h.len]; omega), show D.length - 1 - (D.length - 1 - i) = i by omega, List.getD, List.getElem?_eq_getElem (by omega)]
      rfl
    · rw [if_neg c1]
      by_cases c2 : i = j
      · subst c2
        rw [if_pos rfl, if_pos (by rw [h.len]; omega), List.getD, List.getElem?_eq_getElem (by omega)]
        rfl
      · rw [if_neg c2]
        exact h.out j hj (by omega)
  · rw [List.getElem?_set, List.getElem?_set, if_neg (by omega), if_neg (by omega)]
    exact h.mid j (by omega) (by omega)
end Go.Proofs.YtigoofeodbbbhaaDoorM
