/- Sums, differences, comparisons, products, digit by digit. Plain mathematics. -/
import Derived.Test.YtigoofeodbbbhaaDoorMath3
namespace Go.Proofs.YtigoofeodbbbhaaDoorM
set_option linter.unusedVariables false
set_option linter.unusedSimpArgs false
/-- one more place of a list that is filled from its beginning -/
theorem fill_up {α : Type} (z v : α) (m : Nat) (S : List α) (k : Nat) (hk : S.length = k) : (S ++ List.replicate (m + 1) z).set k v = (S ++ [v]) ++ List.replicate m z := by
  subst hk
  rw [List.replicate_succ, List.set_append]
  simp
theorem valB_set (B : Nat) : ∀ (l : List Nat) (j v : Nat) (hj : j < l.length), valB B (l.set j v) + B ^ j * l[j] = valB B l + B ^ j * v
  | x :: l, 0, v, hj => by simp [valB]; omega
  | x :: l, j + 1, v, hj => by
    have h := valB_set B l j v (by simpa using hj)
    have h2 : B * (valB B (l.set j v) + B ^ j * l[j]'(by simpa using hj)) = B * (valB B l + B ^ j * v) := by rw [h]
    rw [Nat.mul_add, Nat.mul_add, ← Nat.mul_assoc, ← Nat.mul_assoc, Nat.mul_comm B (B ^ j), ← Nat.pow_succ] at h2
    simp only [List.set_cons_succ, valB_cons, List.getElem_cons_succ, Nat.succ_eq_add_one] at h2 ⊢
    omega
theorem set_lt {B j v : Nat} {l : List Nat} (h : ∀ x ∈ l, x < B) (hv : v < B) : ∀ x ∈ l.set j v, x < B := by
  intro x hx
  rcases List.mem_or_eq_of_mem_set hx with h1 | h1
  · exact h x h1
  · omega
theorem snoc_lt {B v : Nat} {l : List Nat} (h : ∀ x ∈ l, x < B) (hv : v < B) : ∀ x ∈ l ++ [v], x < B := by
  intro x hx
  rcases List.mem_append.1 hx with h1 | h1
  · exact h x h1
  · simp at h1; omega
theorem valB_split (B : Nat) (l : List Nat) (k : Nat) : valB B l = valB B (l.take k) + B ^ (l.take k).length * valB B (l.drop k) := by
  conv => lhs; rw [← List.take_append_drop k l]
  rw [valB_append]
/-- digits that agree above place k, and are less there: the number is less -/
theorem val_lt_at (B : Nat) (hB : 0 < B) (a b : List Nat) (k : Nat) (ha : ∀ x ∈ a, x < B) (hka : k < a.length) (hkb : k < b.length) (hd : a.drop (k + 1) = b.drop (k + 1)) (hlt : a[k] < b[k]) : valB B a < valB B b := by
  rw [valB_split B a k, valB_split B b k, drop_cons_of_lt a k hka, drop_cons_of_lt b k hkb, hd, valB_cons, valB_cons, List.length_take, List.length_take, Nat.min_eq_left (by omega), Nat.min_eq_left (by omega)]
  have h1 := valB_lt B hB (a.take k) (fun x hx => ha x (List.mem_of_mem_take hx))
  rw [List.length_take, Nat.min_eq_left (by omega)] at h1
  have h2 : B ^ k * (a[k] + B * valB B (b.drop (k + 1))) + B ^ k ≤ B ^ k * (b[k] + B * valB B (b.drop (k + 1))) := by
    rw [← Nat.mul_succ]
    exact Nat.mul_le_mul_left _ (by omega)
  omega
/-- fewer digits: less -/
theorem val_lt_len (B : Nat) (hB : 1 < B) (v u : Nat) (h : (digB B v).length < (digB B u).length) : v < u := by
  refine Nat.lt_of_not_le (fun hle => ?_)
  have h1 := valB_lt B (by omega) (digB B v) (digB_lt B hB v)
  rw [digB_val B hB] at h1
  have h2 := digB_len_lt B hB (digB B v).length u (by omega)
  omega
/-- -1, 0, 1 -/
def cmpN (a b : Nat) : Int := if a < b then -1 else if b < a then 1 else 0
/-- the step of a difference, digit by digit -/
theorem sub_step (B : Nat) (a b S : List Nat) (k c d c2 : Nat) (hS : S.length = k) (h : valB B S + valB B (b.take k) = valB B (a.take k) + B ^ k * c) (hd : d + b.getD k 0 + c = a.getD k 0 + B * c2) :
    valB B (S ++ [d]) + valB B (b.take (k + 1)) = valB B (a.take (k + 1)) + B ^ (k + 1) * c2 := by
  have h3 : B ^ k * (d + b.getD k 0 + c) = B ^ k * (a.getD k 0 + B * c2) := by rw [hd]
  rw [valB_take_succ, valB_take_succ, valB_snoc, hS, Nat.pow_succ, Nat.mul_assoc]
  simp only [Nat.mul_add] at h3
  omega
/-- no borrow is left where the subtrahend is not above -/
theorem sub_end (B : Nat) (hB : 0 < B) (S : List Nat) (va vb c : Nat) (hS : ∀ x ∈ S, x < B) (h : valB B S + vb = va + B ^ S.length * c) (hle : vb ≤ va) : valB B S = va - vb := by
  have h1 := valB_lt B hB S hS
  rcases Nat.eq_zero_or_pos c with rfl | hc
  · omega
  · have : B ^ S.length * 1 ≤ B ^ S.length * c := Nat.mul_le_mul_left _ hc
    omega
/-- one place of a product, with its carry -/
theorem mul_step (B : Nat) (P : List Nat) (j v c T : Nat) (hj : j < P.length) (hT : T = c + v + P[j]) : valB B (P.set j (T % B)) + B ^ (j + 1) * (T / B) = valB B P + B ^ j * (c + v) := by
  have h1 := valB_set B P j (T % B) hj
  have h2 : B ^ j * T = B ^ j * (T % B) + B ^ (j + 1) * (T / B) := by
    rw [Nat.pow_succ, Nat.mul_assoc, ← Nat.mul_add, Nat.mod_add_div]
  have h3 : B ^ j * T = B ^ j * (c + v) + B ^ j * P[j] := by rw [hT, Nat.mul_add]
  omega
theorem getD_set {l : List Nat} {i j v : Nat} (h : i ≠ j) : (l.set i v).getD j 0 = l.getD j 0 := by
  simp [List.getD, List.getElem?_set_ne h]
/-- the value of the digits from place n on is 0, where they are -/
theorem valB_take_of_zero (B : Nat) (l : List Nat) (n : Nat) (h : ∀ j, n ≤ j → l.getD j 0 = 0) : valB B (l.take n) = valB B l := by
  have key : ∀ k, valB B (l.take (n + k)) = valB B (l.take n) := by
    intro k
    induction k with
    | zero => rfl
    | succ k ih => rw [← Nat.add_assoc, valB_take_succ, ih, h (n + k) (by omega), Nat.mul_zero, Nat.add_zero]
  have := key l.length
  rw [List.take_of_length_le (by omega)] at this
  exact this.symm
/-- a carry that is left has its place within the list -/
theorem carry_room (B : Nat) (hB : 0 < B) (n k c v T : Nat) (hT : T < B ^ n) (h : v + B ^ k * c = T) (hc : 0 < c) (hB1 : 1 < B) : k < n := by
  refine Nat.lt_of_not_le (fun hle => ?_)
  have h1 : B ^ n ≤ B ^ k := Nat.pow_le_pow_right hB hle
  have h2 : B ^ k * 1 ≤ B ^ k * c := Nat.mul_le_mul_left _ hc
  omega
theorem mul_lt_pow (B : Nat) (a b : List Nat) (hB : 0 < B) (ha : ∀ x ∈ a, x < B) (hb : ∀ x ∈ b, x < B) : valB B a * valB B b < B ^ (a.length + b.length) := by
  rw [Nat.pow_add]
  have h1 := valB_lt B hB a ha
  have h2 := valB_lt B hB b hb
  exact Nat.mul_lt_mul'' h1 h2
theorem digB_len_add (B : Nat) (hB : 1 < B) (a b n m : Nat) (ha : a < B ^ n) (hb : b < B ^ m) : (digB B (a + b)).length ≤ max n m + 1 := by
  refine digB_len_lt B hB _ _ ?_
  have h1 : B ^ n ≤ B ^ max n m := Nat.pow_le_pow_right (by omega) (Nat.le_max_left ..)
  have h2 : B ^ m ≤ B ^ max n m := Nat.pow_le_pow_right (by omega) (Nat.le_max_right ..)
  have h3 : B ^ (max n m) * 2 ≤ B ^ (max n m) * B := Nat.mul_le_mul_left _ hB
  rw [Nat.pow_succ]
  omega
theorem lt_pow_len (B : Nat) (hB : 1 < B) (v : Nat) : v < B ^ (digB B v).length := by
  have := valB_lt B (by omega) (digB B v) (digB_lt B hB v)
  rwa [digB_val B hB] at this
theorem digB_mono8 (B : Nat) (hB : 1 < B) {u v : Nat} (h : u ≤ v) : (digB B u).length ≤ (digB B v).length :=
  digB_len_lt B hB _ _ (Nat.lt_of_le_of_lt h (lt_pow_len B hB v))
end Go.Proofs.YtigoofeodbbbhaaDoorM
