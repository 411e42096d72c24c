/- How many binary digits. Plain mathematics. -/
import Derived.Test.YtigoofeodbbbhaaDoorMath6
import Derived.Lib.BitFns
namespace Go.Proofs.YtigoofeodbbbhaaDoorM
set_option linter.unusedVariables false
set_option linter.unusedSimpArgs false
/-- how many binary digits -/
def bitN (v : Nat) : Nat := (digB 2 v).length
theorem bitN_zero : bitN 0 = 0 := by rw [bitN, digB_zero]; rfl
theorem bitN_eq_zero (v : Nat) : bitN v = 0 ↔ v = 0 := by
  rw [bitN, List.length_eq_zero_iff]; exact digB_eq_nil 2 v (by omega)
theorem bitN_unique (v k : Nat) (h1 : 2 ^ k ≤ v) (h2 : v < 2 ^ (k + 1)) : bitN v = k + 1 := by
  have a := digB_len_ge 2 (by omega) k v h1
  have b := digB_len_lt 2 (by omega) (k + 1) v h2
  unfold bitN; omega
theorem bitN_lt (v : Nat) : v < 2 ^ bitN v := by
  have := valB_lt 2 (by omega) (digB 2 v) (digB_lt 2 (by omega) v)
  rwa [digB_val 2 (by omega)] at this
theorem bitN_ge (v : Nat) (h : 0 < v) : 2 ^ (bitN v - 1) ≤ v := by
  rcases Nat.lt_or_ge v (2 ^ (bitN v - 1)) with h1 | h1
  · exfalso
    have h2 := digB_len_lt 2 (by omega) _ v h1
    have h3 : bitN v ≠ 0 := fun e => by rw [bitN_eq_zero] at e; omega
    unfold bitN at *
    omega
  · exact h1
theorem bitN_half (x : Nat) (h : 0 < x) : bitN x = 1 + bitN (x / 2) := by
  unfold bitN; rw [digB_pos 2 x (by omega) h]; simp; omega
theorem bitLen_bitN (x : Nat) (h : x < 2 ^ 64) : Lib.bitLen x = bitN x := by
  induction x using Nat.strongRecOn with
  | ind x ih =>
    rcases Nat.eq_zero_or_pos x with rfl | hx
    · rw [bitN_zero]; rfl
    · rw [Lib.bitLen_half x (by omega) h, bitN_half x hx, ih (x / 2) (Nat.div_lt_self hx (by omega)) (by omega)]
/-- the top limb tells it -/
theorem bitN_top (k : Nat) (L : List Nat) (hL : ∀ x ∈ L, x < 2 ^ k) (top : Nat) (ht : 0 < top) : bitN (valB (2 ^ k) (L ++ [top])) = k * L.length + bitN top := by
  have h1 := valB_lt (2 ^ k) (Nat.pow_pos (by omega)) L hL
  rw [valB_snoc]
  have h2 := bitN_lt top
  have h3 := bitN_ge top ht
  have h4 : bitN top ≠ 0 := fun e => by rw [bitN_eq_zero] at e; omega
  obtain ⟨t, h5⟩ : ∃ t, bitN top = t + 1 := ⟨bitN top - 1, by omega⟩
  rw [h5] at h2 h3 ⊢
  rw [← Nat.pow_mul] at h1 ⊢
  rw [Nat.add_sub_cancel] at h3
  have e1 : 2 ^ (k * L.length + t) = 2 ^ (k * L.length) * 2 ^ t := Nat.pow_add ..
  have e2 : 2 ^ (k * L.length + (t + 1)) = 2 ^ (k * L.length) * 2 ^ (t + 1) := Nat.pow_add ..
  have m1 : 2 ^ (k * L.length) * 2 ^ t ≤ 2 ^ (k * L.length) * top := Nat.mul_le_mul_left _ h3
  have m2 : 2 ^ (k * L.length) * (top + 1) ≤ 2 ^ (k * L.length) * 2 ^ (t + 1) := Nat.mul_le_mul_left _ h2
  rw [Nat.mul_add, Nat.mul_one] at m2
  have := bitN_unique (valB (2 ^ k) L + 2 ^ (k * L.length) * top) (k * L.length + t) (by omega) (by rw [show k * L.length + t + 1 = k * L.length + (t + 1) by omega]; omega)
  omega
theorem bitN_limbs (k v : Nat) (hk : 0 < k) (h : digB (2 ^ k) v ≠ []) : bitN v = k * ((digB (2 ^ k) v).length - 1) + bitN ((digB (2 ^ k) v).getLast h) := by
  have hB : 1 < 2 ^ k := Nat.one_lt_two_pow (by omega)
  have h0 := digB_canon (2 ^ k) hB v _ (List.getLast?_eq_some_getLast h)
  have h1 := bitN_top k ((digB (2 ^ k) v).dropLast) (fun x hx => digB_lt (2 ^ k) hB v x ((List.dropLast_sublist _).subset hx)) ((digB (2 ^ k) v).getLast h) (by omega)
  rw [List.dropLast_concat_getLast, digB_val _ hB, List.length_dropLast] at h1
  exact h1
theorem bitN_le (k v : Nat) (hk : 0 < k) : bitN v ≤ k * (digB (2 ^ k) v).length := by
  have hB : 1 < 2 ^ k := Nat.one_lt_two_pow (by omega)
  refine digB_len_lt 2 (by omega) _ _ ?_
  have := valB_lt (2 ^ k) (by omega) (digB (2 ^ k) v) (digB_lt _ hB v)
  rwa [digB_val _ hB, ← Nat.pow_mul] at this
end Go.Proofs.YtigoofeodbbbhaaDoorM
