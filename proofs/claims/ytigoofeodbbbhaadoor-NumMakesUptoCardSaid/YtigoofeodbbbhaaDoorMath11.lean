/- Products of many numbers; how long they are. Plain mathematics. -/
import Derived.Test.YtigoofeodbbbhaaDoorMath8
import Derived.Test.YtigoofeodbbbhaaDoorMath4
namespace Go.Proofs.YtigoofeodbbbhaaDoorM
set_option linter.unusedVariables false
set_option linter.unusedSimpArgs false
def prodV (B : Nat) : List (List Nat) → Nat
  | [] => 1
  | l :: m => valB B l * prodV B m
def lens : List (List Nat) → Nat
  | [] => 0
  | l :: m => l.length + lens m
theorem prodV_append (B : Nat) : ∀ l m, prodV B (l ++ m) = prodV B l * prodV B m
  | [], m => by simp [prodV]
  | x :: l, m => by simp only [List.cons_append, prodV, prodV_append B l m, Nat.mul_assoc]
theorem prodV_take_succ (B : Nat) (l : List (List Nat)) (k : Nat) (hk : k < l.length) : prodV B (l.take (k + 1)) = prodV B (l.take k) * valB B l[k] := by
  rw [List.take_succ_eq_append_getElem hk, prodV_append]; simp [prodV]
theorem lens_take : ∀ (l : List (List Nat)) (k : Nat), lens (l.take k) ≤ lens l
  | [], k => by simp
  | x :: l, 0 => by simp [lens]
  | x :: l, k + 1 => by
    have := lens_take l k
    simp only [List.take_succ_cons, lens]; omega
theorem lens_mem {x : List Nat} : ∀ {l : List (List Nat)}, x ∈ l → x.length ≤ lens l
  | y :: l, h => by
    rw [lens]
    rcases List.mem_cons.1 h with rfl | h
    · omega
    · have := lens_mem h; omega
theorem prodV_le (B : Nat) (hB : 0 < B) : ∀ L : List (List Nat), (∀ l ∈ L, ∀ x ∈ l, x < B) → prodV B L ≤ B ^ lens L
  | [], _ => by simp [prodV, lens]
  | l :: m, h => by
    have h1 := prodV_le B hB m (fun x hx => h x (List.mem_cons_of_mem _ hx))
    have h2 := Nat.le_of_lt (valB_lt B hB l (h l (List.mem_cons_self ..)))
    rw [prodV, lens, Nat.pow_add]
    exact Nat.mul_le_mul h2 h1
theorem prodV_len16 (L : List (List Nat)) (h : ∀ l ∈ L, ∀ x ∈ l, x < 4294967296) (k : Nat) : (digB 65536 (prodV 4294967296 (L.take k))).length ≤ 2 * lens L + 1 := by
  refine digB_len_lt 65536 (by omega) _ _ ?_
  have h1 := prodV_le 4294967296 (by omega) (L.take k) (fun l hl => h l (List.mem_of_mem_take hl))
  have h2 : (4294967296 : Nat) ^ lens (L.take k) = 65536 ^ (2 * lens (L.take k)) := by rw [Nat.pow_mul]
  have h3 : (65536 : Nat) ^ (2 * lens (L.take k)) ≤ 65536 ^ (2 * lens L) := Nat.pow_le_pow_right (by omega) (by have := lens_take L k; omega)
  have h4 : 0 < (65536 : Nat) ^ (2 * lens L) := Nat.pow_pos (by omega)
  rw [Nat.pow_succ]
  omega
theorem prodV_len32 (L : List (List Nat)) (h : ∀ l ∈ L, ∀ x ∈ l, x < 4294967296) (k : Nat) : (digB 4294967296 (prodV 4294967296 (L.take k))).length ≤ lens L + 1 := by
  refine digB_len_lt 4294967296 (by omega) _ _ ?_
  have h1 := prodV_le 4294967296 (by omega) (L.take k) (fun l hl => h l (List.mem_of_mem_take hl))
  have h3 : (4294967296 : Nat) ^ (lens (L.take k)) ≤ 4294967296 ^ (lens L) := Nat.pow_le_pow_right (by omega) (lens_take L k)
  have h4 : 0 < (4294967296 : Nat) ^ (lens L) := Nat.pow_pos (by omega)
  rw [Nat.pow_succ]
  omega
theorem sumV_len32 (N : Nat) (L : List (List Nat)) (h : ∀ l ∈ L, (∀ x ∈ l, x < 4294967296) ∧ l.length ≤ N) (hL : L.length < 4294967296) : (digB 4294967296 (sumV 4294967296 L)).length ≤ N + 1 := by
  refine digB_len_lt 4294967296 (by omega) _ _ ?_
  have h1 := sumV_lt 4294967296 N (by omega) L h
  have hp : 0 < (4294967296 : Nat) ^ N := Nat.pow_pos (by omega)
  have h4 : L.length * 4294967296 ^ N < 4294967296 * 4294967296 ^ N := Nat.mul_lt_mul_of_pos_right hL hp
  rw [Nat.pow_succ, Nat.mul_comm (4294967296 ^ N)]
  omega
end Go.Proofs.YtigoofeodbbbhaaDoorM
