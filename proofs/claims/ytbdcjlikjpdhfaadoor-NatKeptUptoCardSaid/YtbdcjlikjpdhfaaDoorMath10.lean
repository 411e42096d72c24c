/- Division of long numbers, one digit of the quotient after the other: the guess is right, or one too great. Plain mathematics. -/
import Derived.Test.YtbdcjlikjpdhfaaDoorMath8
namespace Go.Proofs.YtbdcjlikjpdhfaaDoorM
set_option linter.unusedVariables false
set_option linter.unusedSimpArgs false
/-- a guess that is too great for the beginnings is too great -/
theorem guess_over (P R3 D2 R D g : Nat) (hR : R < (R3 + 1) * P) (hD : D2 * P ≤ D) (h : R3 < g * D2) : R / D < g := by
  have h1 : (R3 + 1) * P ≤ g * D2 * P := Nat.mul_le_mul_right P h
  have h2 : g * D2 * P ≤ g * D := by rw [Nat.mul_assoc]; exact Nat.mul_le_mul_left g hD
  rcases Nat.eq_zero_or_pos D with rfl | hp
  · omega
  · rw [Nat.div_lt_iff_lt_mul hp]; omega
/-- a guess that is not too great for the beginnings is at most one too great -/
theorem guess_near (P R3 D2 R D g : Nat) (hP : 0 < P) (hR : R3 * P ≤ R) (hD : D < (D2 + 1) * P) (hD0 : 0 < D) (hg : g ≤ D2) (h : g * D2 ≤ R3) : g ≤ R / D + 1 := by
  have hq : R < (R / D + 1) * D := by
    have := Nat.lt_mul_div_succ R hD0
    rwa [Nat.mul_comm] at this
  generalize R / D = q at hq ⊢
  refine Nat.le_of_not_lt (fun hlt => ?_)
  obtain ⟨k, rfl⟩ : ∃ k, g = k + 1 := ⟨g - 1, by omega⟩
  have h1 : (q + 1) * D ≤ k * D := Nat.mul_le_mul_right D (by omega)
  have h2 : k * D ≤ k * ((D2 + 1) * P) := Nat.mul_le_mul_left k (by omega)
  have h3 : (k + 1) * D2 * P ≤ R3 * P := Nat.mul_le_mul_right P h
  have h4 : (k + 1) * D2 * P < k * (D2 + 1) * P := by rw [Nat.mul_assoc k]; omega
  have h5 : (k + 1) * D2 < k * (D2 + 1) := Nat.lt_of_mul_lt_mul_right h4
  rw [Nat.add_mul, Nat.mul_add] at h5
  omega
/-- one place of what a multiple takes away -/
theorem take_step (B k new old dk g c b r y low hi d b2 : Nat) (h : new + g * dk = old + B ^ k * (c + b)) (hT : c + g * y = low + B * hi) (hd : d + low + b = r + B * b2) :
    (new + B ^ k * d) + g * (dk + B ^ k * y) = (old + B ^ k * r) + B ^ (k + 1) * (hi + b2) := by
  have h1 : B ^ k * (c + g * y) + B ^ k * (d + low + b) = B ^ k * (low + B * hi) + B ^ k * (r + B * b2) := by rw [hT, hd]
  rw [Nat.pow_succ, Nat.mul_add g, Nat.mul_left_comm g, Nat.mul_assoc (B ^ k) B]
  simp only [Nat.mul_add] at h1 h ⊢
  omega
/-- the guess was right: what is left stands there -/
theorem take_right (Bn D R r new old c b g : Nat) (hnew : new < Bn) (hD : D ≤ Bn) (h : new + g * D = old + Bn * (c + b)) (hR : R = old + Bn * r) (hg : g = R / D) (hD0 : 0 < D) : r = c + b ∧ new = R % D := by
  have h1 := Nat.div_add_mod R D
  have h2 := Nat.mod_lt R hD0
  rw [← hg, Nat.mul_comm] at h1
  have h3 : new + Bn * r = R % D + Bn * (c + b) := by omega
  have key : r = c + b := by
    rcases Nat.lt_trichotomy r (c + b) with hl | he | hl
    · have : Bn * (r + 1) ≤ Bn * (c + b) := Nat.mul_le_mul_left _ hl
      rw [Nat.mul_add, Nat.mul_one] at this
      omega
    · exact he
    · have : Bn * (c + b + 1) ≤ Bn * r := Nat.mul_le_mul_left _ hl
      rw [Nat.mul_add, Nat.mul_one] at this
      omega
  refine ⟨key, ?_⟩
  rw [key] at h3; omega
/-- the guess was one too great: the divisor once more makes what is left -/
theorem take_over (Bn D R r new old c b g : Nat) (hnew : new < Bn) (hD : D ≤ Bn) (h : new + g * D = old + Bn * (c + b)) (hR : R = old + Bn * r) (hg : g = R / D + 1) (hD0 : 0 < D) : r + 1 = c + b ∧ new + D = R % D + Bn := by
  have h1 := Nat.div_add_mod R D
  have h2 := Nat.mod_lt R hD0
  have h4 : g * D = D * (R / D) + D := by rw [hg, Nat.add_mul, Nat.one_mul, Nat.mul_comm]
  have h3 : new + D + Bn * r = R % D + Bn * (c + b) := by omega
  have key : r + 1 = c + b := by
    rcases Nat.lt_trichotomy (r + 1) (c + b) with hl | he | hl
    · have : Bn * (r + 1 + 1) ≤ Bn * (c + b) := Nat.mul_le_mul_left _ hl
      simp only [Nat.mul_add, Nat.mul_one] at this h3
      omega
    · exact he
    · have : Bn * (c + b) ≤ Bn * r := Nat.mul_le_mul_left _ (by omega)
      omega
  refine ⟨key, ?_⟩
  rw [← key, Nat.mul_add, Nat.mul_one] at h3; omega
/-- the divisor added: the carry out -/
theorem back_end (Bn D m new v c : Nat) (hv : v < Bn) (h : v + Bn * c = new + D) (he : new + D = m + Bn) (hm : m < D) (hD : D ≤ Bn) : c = 1 ∧ v = m := by
  have key : c = 1 := by
    rcases Nat.lt_trichotomy c 1 with hl | he2 | hl
    · obtain rfl : c = 0 := by omega
      omega
    · exact he2
    · have : Bn * 2 ≤ Bn * c := Nat.mul_le_mul_left _ hl
      omega
  subst key
  omega
/-- one digit more of the quotient -/
theorem quot_step (B k A D T W Q S : Nat) (hv : D * Q + (T + B ^ k * W) = A) (hS : S = W % D) : D * (Q + B ^ k * (W / D)) + (T + B ^ k * S) = A := by
  have h1 := Nat.div_add_mod W D
  have h2 : B ^ k * W = B ^ k * (D * (W / D)) + B ^ k * (W % D) := by rw [← Nat.mul_add, h1]
  rw [hS, Nat.mul_add, Nat.mul_left_comm D]
  omega
end Go.Proofs.YtbdcjlikjpdhfaaDoorM
