/- Limbs of 32 binary digits as limbs of 16, and back; sums of beginnings. Plain mathematics. -/
import Derived.Test.YtigoofeodbbbhaaDoorMath2
namespace Go.Proofs.YtigoofeodbbbhaaDoorM
set_option linter.unusedVariables false
set_option linter.unusedSimpArgs false
def halves : List Nat → List Nat
  | [] => []
  | x :: l => x % 65536 :: x / 65536 :: halves l
theorem halves_len : ∀ l, (halves l).length = 2 * l.length
  | [] => rfl
  | x :: l => by simp [halves, halves_len l]; omega
theorem halves_val : ∀ l, valB 65536 (halves l) = valB 4294967296 l
  | [] => rfl
  | x :: l => by
    simp only [halves, valB_cons, halves_val l]
    have := Nat.mod_add_div x 65536
    omega
theorem halves_lt : ∀ l, (∀ x ∈ l, x < 4294967296) → ∀ y ∈ halves l, y < 65536
  | [], _, y, h => by simp [halves] at h
  | x :: l, hl, y, h => by
    have hx := hl x (List.mem_cons_self ..)
    rcases List.mem_cons.1 h with e | h
    · omega
    · rcases List.mem_cons.1 h with e | h
      · omega
      · exact halves_lt l (fun z hz => hl z (List.mem_cons_of_mem _ hz)) y h
theorem halves_append : ∀ l m, halves (l ++ m) = halves l ++ halves m
  | [], m => rfl
  | x :: l, m => by simp [halves, halves_append l m]
theorem halves_take_succ (l : List Nat) (k : Nat) (hk : k < l.length) : halves (l.take k) ++ [l[k] % 65536, l[k] / 65536] = halves (l.take (k + 1)) := by
  rw [List.take_succ_eq_append_getElem hk, halves_append]; rfl
theorem trim_halves (l : List Nat) (hl : ∀ x ∈ l, x < 4294967296) : trimL (halves l) = digB 65536 (valB 4294967296 l) := by
  rw [trimL_dig 65536 (by omega) _ (halves_lt l hl), halves_val]
def pairs : List Nat → List Nat
  | [] => []
  | [x] => [x]
  | x :: y :: l => (x + y * 65536) :: pairs l
theorem pairs_val : ∀ l, valB 4294967296 (pairs l) = valB 65536 l
  | [] => rfl
  | [x] => by simp [pairs, valB]
  | x :: y :: l => by simp only [pairs, valB_cons, pairs_val l]; omega
theorem pairs_lt : ∀ l, (∀ x ∈ l, x < 65536) → ∀ y ∈ pairs l, y < 4294967296
  | [], _, y, h => by simp [pairs] at h
  | [x], hl, y, h => by
    have := hl x (by simp)
    simp [pairs] at h; omega
  | x :: z :: l, hl, y, h => by
    have h1 := hl x (by simp)
    have h2 := hl z (by simp)
    rcases List.mem_cons.1 h with e | h
    · omega
    · exact pairs_lt l (fun u hu => hl u (by simp [hu])) y h
theorem pairs_eq_nil : ∀ l, pairs l = [] → l = []
  | [], _ => rfl
  | [x], h => by simp [pairs] at h
  | x :: y :: l, h => by simp [pairs] at h
theorem pairs_canon : ∀ l, Canon l → Canon (pairs l)
  | [], h => h
  | [x], h => h
  | x :: y :: l, h => by
    intro z hz
    rw [pairs] at hz
    cases hp : pairs l with
    | nil =>
      have := pairs_eq_nil l hp
      subst this
      have hy := h y (by simp)
      rw [hp] at hz
      simp at hz
      omega
    | cons u m =>
      rw [hp, List.getLast?_cons_cons] at hz
      exact pairs_canon l h.tail.tail z (by rw [hp]; exact hz)
theorem pairs_dig (v : Nat) : pairs (digB 65536 v) = digB 4294967296 v := by
  have h := dig_of_canon 4294967296 (by omega) (pairs (digB 65536 v)) (pairs_lt _ (digB_lt 65536 (by omega) v)) (pairs_canon _ (digB_canon 65536 (by omega) v))
  rw [pairs_val, digB_val 65536 (by omega)] at h
  exact h
theorem pairs_len : ∀ l : List Nat, (pairs l).length = (l.length + 1) / 2
  | [] => rfl
  | [x] => by simp [pairs]
  | x :: y :: l => by simp only [pairs, List.length_cons, pairs_len l]; omega
theorem pairs_take_two (l : List Nat) (k : Nat) (hk : 2 * k + 1 < l.length) : (pairs l).take k ++ [l[2 * k] + l[2 * k + 1] * 65536] = (pairs l).take (k + 1) := by
  match l, k, hk with
  | x :: y :: l, 0, hk => rfl
  | x :: y :: l, k + 1, hk =>
    have := pairs_take_two l k (by simp at hk; omega)
    simp only [pairs, List.take_succ_cons, List.cons_append]
    exact congrArg _ this
theorem pairs_take_one (l : List Nat) (k : Nat) (hk : 2 * k + 1 = l.length) : (pairs l).take k ++ [l[2 * k]] = (pairs l).take (k + 1) := by
  match l, k, hk with
  | [x], 0, hk => rfl
  | [x], k + 1, hk => simp at hk
  | x :: y :: l, 0, hk => simp at hk
  | x :: y :: l, k + 1, hk =>
    have := pairs_take_one l k (by simp at hk; omega)
    simp only [pairs, List.take_succ_cons, List.cons_append]
    exact congrArg _ this
/-- one digit more; 0 beyond the end -/
theorem valB_take_succ (B : Nat) (l : List Nat) (k : Nat) : valB B (l.take (k + 1)) = valB B (l.take k) + B ^ k * l.getD k 0 := by
  by_cases h : k < l.length
  · rw [List.take_succ_eq_append_getElem h, valB_snoc, List.length_take, Nat.min_eq_left (by omega)]
    simp [List.getD, List.getElem?_eq_getElem h]
  · rw [List.take_of_length_le (i := k + 1) (by omega), List.take_of_length_le (i := k) (by omega)]
    simp [List.getD, List.getElem?_eq_none (Nat.le_of_not_lt h)]
theorem getD_lt (B : Nat) (hB : 0 < B) (l : List Nat) (hl : ∀ x ∈ l, x < B) (k : Nat) : l.getD k 0 < B := by
  by_cases h : k < l.length
  · rw [show l.getD k 0 = l[k] by simp [List.getD, List.getElem?_eq_getElem h]]
    exact hl _ (List.getElem_mem h)
  · simpa [List.getD, List.getElem?_eq_none (Nat.le_of_not_lt h)] using hB
/-- the step of a sum, digit by digit -/
theorem add_step (B : Nat) (hB : 0 < B) (a b S : List Nat) (k c : Nat) (hS : S.length = k) (h : valB B S + B ^ k * c = valB B (a.take k) + valB B (b.take k)) :
    valB B (S ++ [(a.getD k 0 + b.getD k 0 + c) % B]) + B ^ (k + 1) * ((a.getD k 0 + b.getD k 0 + c) / B) = valB B (a.take (k + 1)) + valB B (b.take (k + 1)) := by
  rw [valB_take_succ, valB_take_succ, valB_snoc, hS, Nat.pow_succ, Nat.mul_assoc, Nat.add_assoc, ← Nat.mul_add, Nat.mod_add_div]
  rw [Nat.mul_add, Nat.mul_add]
  omega
end Go.Proofs.YtigoofeodbbbhaaDoorM
