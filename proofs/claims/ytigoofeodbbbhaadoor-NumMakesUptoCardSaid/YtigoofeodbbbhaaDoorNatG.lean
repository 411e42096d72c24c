/- Math10 Math12 Nat9 Nat10 Nat11, in one text. -/
import Derived.Test.YtigoofeodbbbhaaDoorMath8
import Derived.Test.YtigoofeodbbbhaaDoorMath7
import Derived.Test.YtigoofeodbbbhaaDoorNat8
import Derived.Test.YtigoofeodbbbhaaDoorLib4
import Derived.StillTailTactics
import Derived.Test.YtigoofeodbbbhaaDoorKeep
import Derived.Test.YtigoofeodbbbhaaDoorNum1
/- Division of long numbers, one digit of the quotient after the other: the guess is right, or one too great. Plain mathematics. -/
namespace Go.Proofs.YtigoofeodbbbhaaDoorM
set_option linter.unusedVariables false
set_option linter.unusedSimpArgs false
/-- a guess that is too great for the beginnings is too great -/
theorem guess_over (P R3 D2 R D g : Nat) (hR : R < (R3 + 1) * P) (hD : D2 * P ≤ D) (h : R3 < g * D2) : R / D < g := by
  have h1 : (R3 + 1) * P ≤ g * D2 * P := Nat.mul_le_mul_right P h
  have h2 : g * D2 * P ≤ g * D := by rw [Nat.mul_assoc]; exact Nat.mul_le_mul_left g hD
  rcases Nat.eq_zero_or_pos D with rfl | hp
  · omega
  · rw [Nat.div_lt_iff_lt_mul hp]; omega
/-- a guess that is not too great for the beginnings is at most one too great -/
theorem guess_near (P R3 D2 R D g : Nat) (hP : 0 < P) (hR : R3 * P ≤ R) (hD : D < (D2 + 1) * P) (hD0 : 0 < D) (hg : g ≤ D2) (h : g * D2 ≤ R3) : g ≤ R / D + 1 := by
  have hq : R < (R / D + 1) * D := by
    have := Nat.lt_mul_div_succ R hD0
    rwa [Nat.mul_comm] at this
  generalize R / D = q at hq ⊢
  refine Nat.le_of_not_lt (fun hlt => ?_)
  obtain ⟨k, rfl⟩ : ∃ k, g = k + 1 := ⟨g - 1, by omega⟩
  have h1 : (q + 1) * D ≤ k * D := Nat.mul_le_mul_right D (by omega)
  have h2 : k * D ≤ k * ((D2 + 1) * P) := Nat.mul_le_mul_left k (by omega)
  have h3 : (k + 1) * D2 * P ≤ R3 * P := Nat.mul_le_mul_right P h
  have h4 : (k + 1) * D2 * P < k * (D2 + 1) * P := by rw [Nat.mul_assoc k]; omega
  have h5 : (k + 1) * D2 < k * (D2 + 1) := Nat.lt_of_mul_lt_mul_right h4
  rw [Nat.add_mul, Nat.mul_add] at h5
  omega
/-- one place of what a multiple takes away -/
theorem take_step (B k new old dk g c b r y low hi d b2 : Nat) (h : new + g * dk = old + B ^ k * (c + b)) (hT : c + g * y = low + B * hi) (hd : d + low + b = r + B * b2) :
    (new + B ^ k * d) + g * (dk + B ^ k * y) = (old + B ^ k * r) + B ^ (k + 1) * (hi + b2) := by
  have h1 : B ^ k * (c + g * y) + B ^ k * (d + low + b) = B ^ k * (low + B * hi) + B ^ k * (r + B * b2) := by rw [hT, hd]
  rw [Nat.pow_succ, Nat.mul_add g, Nat.mul_left_comm g, Nat.mul_assoc (B ^ k) B]
  simp only [Nat.mul_add] at h1 h ⊢
  omega
/-- the guess was right: what is left stands there -/
theorem take_right (Bn D R r new old c b g : Nat) (hnew : new < Bn) (hD : D ≤ Bn) (h : new + g * D = old + Bn * (c + b)) (hR : R = old + Bn * r) (hg : g = R / D) (hD0 : 0 < D) : r = c + b ∧ new = R % D := by
  have h1 := Nat.div_add_mod R D
  have h2 := Nat.mod_lt R hD0
  rw [← hg, Nat.mul_comm] at h1
  have h3 : new + Bn * r = R % D + Bn * (c + b) := by omega
  have key : r = c + b := by
    rcases Nat.lt_trichotomy r (c + b) with hl | he | hl
    · have : Bn * (r + 1) ≤ Bn * (c + b) := Nat.mul_le_mul_left _ hl
      rw [Nat.mul_add, Nat.mul_one] at this
      omega
    · exact he
    · have : Bn * (c + b + 1) ≤ Bn * r := Nat.mul_le_mul_left _ hl
      rw [Nat.mul_add, Nat.mul_one] at this
      omega
  refine ⟨key, ?_⟩
  rw [key] at h3; omega
/-- the guess was one too great: the divisor once more makes what is left -/
theorem take_over (Bn D R r new old c b g : Nat) (hnew : new < Bn) (hD : D ≤ Bn) (h : new + g * D = old + Bn * (c + b)) (hR : R = old + Bn * r) (hg : g = R / D + 1) (hD0 : 0 < D) : r + 1 = c + b ∧ new + D = R % D + Bn := by
  have h1 := Nat.div_add_mod R D
  have h2 := Nat.mod_lt R hD0
  have h4 : g * D = D * (R / D) + D := by rw [hg, Nat.add_mul, Nat.one_mul, Nat.mul_comm]
  have h3 : new + D + Bn * r = R % D + Bn * (c + b) := by omega
  have key : r + 1 = c + b := by
    rcases Nat.lt_trichotomy (r + 1) (c + b) with hl | he | hl
    · have : Bn * (r + 1 + 1) ≤ Bn * (c + b) := Nat.mul_le_mul_left _ hl
      simp only [Nat.mul_add, Nat.mul_one] at this h3
      omega
    · exact he
    · have : Bn * (c + b) ≤ Bn * r := Nat.mul_le_mul_left _ (by omega)
      omega
  refine ⟨key, ?_⟩
  rw [← key, Nat.mul_add, Nat.mul_one] at h3; omega
/-- the divisor added: the carry out -/
theorem back_end (Bn D m new v c : Nat) (hv : v < Bn) (h : v + Bn * c = new + D) (he : new + D = m + Bn) (hm : m < D) (hD : D ≤ Bn) : c = 1 ∧ v = m := by
  have key : c = 1 := by
    rcases Nat.lt_trichotomy c 1 with hl | he2 | hl
    · obtain rfl : c = 0 := by omega
      omega
    · exact he2
    · have : Bn * 2 ≤ Bn * c := Nat.mul_le_mul_left _ hl
      omega
  subst key
  omega
/-- one digit more of the quotient -/
theorem quot_step (B k A D T W Q S : Nat) (hv : D * Q + (T + B ^ k * W) = A) (hS : S = W % D) : D * (Q + B ^ k * (W / D)) + (T + B ^ k * S) = A := by
  have h1 := Nat.div_add_mod W D
  have h2 : B ^ k * W = B ^ k * (D * (W / D)) + B ^ k * (W % D) := by rw [← Nat.mul_add, h1]
  rw [hS, Nat.mul_add, Nat.mul_left_comm D]
  omega
end Go.Proofs.YtigoofeodbbbhaaDoorM
/- Division of long numbers: shifting limbs up and down; the guess of one digit. Plain mathematics. -/
namespace Go.Proofs.YtigoofeodbbbhaaDoorM
set_option linter.unusedVariables false
set_option linter.unusedSimpArgs false
/-- a limb moved up: what stays in its place, or-ed with what came from below -/
theorem shl_or (n x t : Nat) (hn : n ≤ 32) (hx : x < 4294967296) (ht : t < 2 ^ n) : (x * 2 ^ n % 4294967296) ||| t = x * 2 ^ n % 4294967296 + t := by
  have e : x * 2 ^ n % 4294967296 = (x % 2 ^ (32 - n)) * 2 ^ n := by
    have h : (4294967296 : Nat) = 2 ^ (32 - n) * 2 ^ n := by rw [← Nat.pow_add, Nat.sub_add_cancel hn]
    rw [h, Nat.mul_mod_mul_right]
  rw [e, ← Nat.shiftLeft_eq, Nat.shiftLeft_add_eq_or_of_lt ht]
theorem shl_lt (n x t : Nat) (hn : n ≤ 32) (hx : x < 4294967296) (ht : t < 2 ^ n) : x * 2 ^ n % 4294967296 + t < 4294967296 ∧ x * 2 ^ n / 4294967296 < 2 ^ n := by
  have h : (4294967296 : Nat) = 2 ^ (32 - n) * 2 ^ n := by rw [← Nat.pow_add, Nat.sub_add_cancel hn]
  have hp : 0 < 2 ^ n := Nat.pow_pos (by omega)
  refine ⟨?_, ?_⟩
  · have e : x * 2 ^ n % 4294967296 = (x % 2 ^ (32 - n)) * 2 ^ n := by
      rw [h, Nat.mul_mod_mul_right]
    have h1 : x % 2 ^ (32 - n) < 2 ^ (32 - n) := Nat.mod_lt _ (Nat.pow_pos (by omega))
    have h2 : (x % 2 ^ (32 - n) + 1) * 2 ^ n ≤ 2 ^ (32 - n) * 2 ^ n := Nat.mul_le_mul_right _ h1
    rw [Nat.add_mul, Nat.one_mul, ← h] at h2
    rw [e]; omega
  · rw [Nat.div_lt_iff_lt_mul (by omega), Nat.mul_comm]
    exact Nat.mul_lt_mul_of_pos_left hx hp
theorem shl_step (n : Nat) (a S : List Nat) (k t : Nat) (hk : k < a.length) (hS : S.length = k) (h : valB 4294967296 (S ++ [t]) = valB 4294967296 (a.take k) * 2 ^ n) :
    valB 4294967296 ((S ++ [a[k] * 2 ^ n % 4294967296 + t]) ++ [a[k] * 2 ^ n / 4294967296]) = valB 4294967296 (a.take (k + 1)) * 2 ^ n := by
  have h1 := valB_take_succ 4294967296 a k
  rw [show a.getD k 0 = a[k] by simp [List.getD, List.getElem?_eq_getElem hk]] at h1
  rw [h1, Nat.add_mul, ← h, valB_snoc, valB_snoc, valB_snoc, List.length_append, hS, List.length_singleton, Nat.pow_succ]
  have h2 := Nat.mod_add_div (a[k] * 2 ^ n) 4294967296
  have h3 : 4294967296 ^ k * (a[k] * 2 ^ n % 4294967296 + 4294967296 * (a[k] * 2 ^ n / 4294967296)) = 4294967296 ^ k * (a[k] * 2 ^ n) := by rw [h2]
  rw [Nat.mul_add, ← Nat.mul_assoc] at h3
  rw [Nat.mul_add, Nat.mul_assoc (4294967296 ^ k) a[k]]
  omega
/-- one limb of a number that is moved down -/
theorem shr_digit (n : Nat) (a : List Nat) (k : Nat) (hn : n ≤ 32) (hl : ∀ x ∈ a, x < 4294967296) : valB 4294967296 a / 2 ^ n / 4294967296 ^ k % 4294967296 = ((a.getD k 0 + 4294967296 * a.getD (k + 1) 0) / 2 ^ n) % 4294967296 := by
  have hp : 0 < 2 ^ n := Nat.pow_pos (by omega)
  have h : (4294967296 : Nat) = 2 ^ (32 - n) * 2 ^ n := by rw [← Nat.pow_add, Nat.sub_add_cancel hn]
  rw [Nat.div_div_eq_div_mul, Nat.mul_comm (2 ^ n), ← Nat.div_div_eq_div_mul]
  have h0 : valB 4294967296 a / 4294967296 ^ k = valB 4294967296 (a.drop k) := by
    rw [valB_split 4294967296 a k, List.length_take]
    have hlt := valB_lt 4294967296 (by omega) (a.take k) (fun x hx => hl x (List.mem_of_mem_take hx))
    rw [List.length_take] at hlt
    rcases Nat.lt_or_ge k a.length with h1 | h1
    · rw [Nat.min_eq_left (by omega)] at hlt ⊢
      rw [Nat.add_mul_div_left _ _ (Nat.pow_pos (by omega)), Nat.div_eq_of_lt hlt, Nat.zero_add]
    · rw [List.drop_eq_nil_of_le h1, valB_nil, Nat.mul_zero, Nat.add_zero]
      refine Nat.div_eq_of_lt (Nat.lt_of_lt_of_le hlt (Nat.pow_le_pow_right (by omega) (Nat.min_le_left _ _)))
  have h1 : ∃ r, valB 4294967296 (a.drop k) = a.getD k 0 + 4294967296 * a.getD (k + 1) 0 + 4294967296 * 4294967296 * r := by
    have hd : ∀ j, valB 4294967296 (a.drop j) = a.getD j 0 + 4294967296 * valB 4294967296 (a.drop (j + 1)) := by
      intro j
      rcases Nat.lt_or_ge j a.length with h2 | h2
      · rw [drop_cons_of_lt a j h2, valB_cons, show a.getD j 0 = a[j] by simp [List.getD, List.getElem?_eq_getElem h2]]
      · rw [List.drop_eq_nil_of_le h2, List.drop_eq_nil_of_le (by omega), valB_nil, show a.getD j 0 = 0 by simp [List.getD, List.getElem?_eq_none h2]]
    have e1 := hd k
    have e2 := hd (k + 1)
    refine ⟨valB 4294967296 (a.drop (k + 1 + 1)), ?_⟩
    rw [e1, e2, Nat.mul_add, Nat.mul_assoc]
    omega
  obtain ⟨r, hr⟩ := h1
  rw [h0, hr]
  have h2 : 4294967296 * 4294967296 * r = 4294967296 * (2 ^ (32 - n) * r) * 2 ^ n := by
    conv => lhs; arg 1; arg 2; rw [h]
    rw [Nat.mul_assoc, Nat.mul_assoc, Nat.mul_assoc, Nat.mul_assoc, Nat.mul_comm (2 ^ n) r]
  rw [h2, Nat.add_mul_div_right _ _ hp, Nat.add_mul_mod_self_left]
theorem shr_step (n : Nat) (a S : List Nat) (k d : Nat) (hS : S.length = k) (h : valB 4294967296 S = valB 4294967296 a / 2 ^ n % 4294967296 ^ k) (hd : d = valB 4294967296 a / 2 ^ n / 4294967296 ^ k % 4294967296) :
    valB 4294967296 (S ++ [d]) = valB 4294967296 a / 2 ^ n % 4294967296 ^ (k + 1) := by
  rw [valB_snoc, hS, h, hd, Nat.pow_succ, Nat.mod_mul]
/-- the divisor, moved up until its highest binary digit stands at the top -/
theorem norm_top (b n : Nat) (m : Nat) (hb : bitN b = 32 * m + (32 - n)) (hn : n < 32) (h0 : 0 < b) : 2147483648 * 4294967296 ^ m ≤ b * 2 ^ n ∧ b * 2 ^ n < 4294967296 ^ (m + 1) := by
  have h1 := bitN_lt b
  have h2 := bitN_ge b h0
  rw [hb] at h1 h2
  have e1 : (4294967296 : Nat) ^ m = 2 ^ (32 * m) := by rw [Nat.pow_mul]
  have e2 : (4294967296 : Nat) ^ (m + 1) = 2 ^ (32 * m + (32 - n)) * 2 ^ n := by
    rw [← Nat.pow_add, show 32 * m + (32 - n) + n = 32 * (m + 1) by omega, Nat.pow_mul]
  have e3 : 2147483648 * (4294967296 : Nat) ^ m = 2 ^ (32 * m + (32 - n) - 1) * 2 ^ n := by
    rw [e1, show (2147483648 : Nat) = 2 ^ 31 from rfl, ← Nat.pow_add, ← Nat.pow_add]
    congr 1; omega
  have hp : 0 < 2 ^ n := Nat.pow_pos (by omega)
  refine ⟨?_, ?_⟩
  · rw [e3]; exact Nat.mul_le_mul_right _ h2
  · rw [e2]; exact Nat.mul_lt_mul_of_pos_right h1 hp
/-- a list by its last limbs -/
theorem val_last2 (B : Nat) (hB : 0 < B) (l : List Nat) (m : Nat) (hl : ∀ x ∈ l, x < B) (h : l.length = m + 2) :
    (l.getD (m + 1) 0 * B + l.getD m 0) * B ^ m ≤ valB B l ∧ valB B l < (l.getD (m + 1) 0 * B + l.getD m 0 + 1) * B ^ m := by
  have h1 := valB_take_succ B l m
  have h2 := valB_take_succ B l (m + 1)
  rw [List.take_of_length_le (i := m + 1 + 1) (by omega)] at h2
  have h3 := valB_lt B hB (l.take m) (fun x hx => hl x (List.mem_of_mem_take hx))
  rw [List.length_take, Nat.min_eq_left (by omega)] at h3
  generalize l.getD (m + 1) 0 = u at *
  generalize l.getD m 0 = v at *
  rw [Nat.pow_succ] at h2
  generalize B ^ m = P at *
  have e1 : (u * B + v) * P = P * v + P * B * u := by
    rw [Nat.add_mul, Nat.mul_comm v, Nat.mul_comm (u * B), Nat.mul_comm u, ← Nat.mul_assoc]; omega
  have e2 : (u * B + v + 1) * P = (u * B + v) * P + P := by rw [Nat.add_mul _ 1, Nat.one_mul]
  rw [e2, e1, h2, h1]
  omega
theorem val_last3 (B : Nat) (hB : 0 < B) (l : List Nat) (m : Nat) (hl : ∀ x ∈ l, x < B) (h : l.length = m + 3) :
    ((l.getD (m + 2) 0 * B + l.getD (m + 1) 0) * B + l.getD m 0) * B ^ m ≤ valB B l ∧ valB B l < ((l.getD (m + 2) 0 * B + l.getD (m + 1) 0) * B + l.getD m 0 + 1) * B ^ m := by
  have h0 := val_last2 B hB (l.take (m + 2)) m (fun x hx => hl x (List.mem_of_mem_take hx)) (by rw [List.length_take]; omega)
  have h2 := valB_take_succ B l (m + 2)
  rw [List.take_of_length_le (i := m + 2 + 1) (by omega)] at h2
  have g1 : (l.take (m + 2)).getD (m + 1) 0 = l.getD (m + 1) 0 := by simp [List.getD, List.getElem?_take]
  have g2 : (l.take (m + 2)).getD m 0 = l.getD m 0 := by simp [List.getD, List.getElem?_take]
  rw [g1, g2] at h0
  generalize l.getD (m + 2) 0 = u at *
  generalize l.getD (m + 1) 0 = v at *
  generalize l.getD m 0 = x at *
  rw [Nat.pow_succ, Nat.pow_succ] at h2
  generalize B ^ m = P at *
  have e1 : ((u * B + v) * B + x) * P = P * B * B * u + (v * B + x) * P := by
    have e3 : (u * B + v) * B + x = u * B * B + (v * B + x) := by rw [Nat.add_mul]; omega
    rw [e3, Nat.add_mul]
    congr 1
    rw [Nat.mul_comm, Nat.mul_comm (u * B) B, Nat.mul_comm u B, ← Nat.mul_assoc, ← Nat.mul_assoc]
  have e2 : ((u * B + v) * B + x + 1) * P = ((u * B + v) * B + x) * P + P := by rw [Nat.add_mul _ 1, Nat.one_mul]
  have e4 : (v * B + x + 1) * P = (v * B + x) * P + P := by rw [Nat.add_mul _ 1, Nat.one_mul]
  rw [e4] at h0
  rw [e2, e1, h2]
  omega
/-- the guess: what holds at the head of its loop (W: the window, D: the divisor) -/
structure Guess (B W D v1 v0 u2 u1 u0 g o : Nat) : Prop where
  top : g * v1 + o = u2 * B + u1
  ge : W / D ≤ g
  over : o < B
  small : g ≤ B + 1
  hi : B ≤ g → (g - B) * v1 + o < B
theorem guess_start (B W D v1 v0 u2 u1 u0 P : Nat) (hB : 2 < B) (hP : 0 < P) (hD : (v1 * B + v0) * P ≤ D) (hD2 : D < (v1 * B + v0 + 1) * P) (hW : ((u2 * B + u1) * B + u0) * P ≤ W) (hW2 : W < ((u2 * B + u1) * B + u0 + 1) * P) (hWD : W < B * D)
    (hv1 : B ≤ 2 * v1) (hv : v1 < B) (hv0 : v0 < B) (hu1 : u1 < B) (hu0 : u0 < B) :
    u2 ≤ v1 ∧ Guess B W D v1 v0 u2 u1 u0 ((u2 * B + u1) / v1) ((u2 * B + u1) % v1) := by
  have hu2 : u2 ≤ v1 := by
    refine Nat.le_of_not_lt (fun hlt => ?_)
    have h1 : (v1 + 1) * B * B * P ≤ ((u2 * B + u1) * B + u0) * P := by
      refine Nat.mul_le_mul_right P ?_
      have h5 : (v1 + 1) * B ≤ u2 * B + u1 := Nat.le_trans (Nat.mul_le_mul_right _ hlt) (Nat.le_add_right _ _)
      exact Nat.le_trans (Nat.mul_le_mul_right B h5) (Nat.le_add_right _ _)
    have h2 : B * D < B * ((v1 * B + v0 + 1) * P) := Nat.mul_lt_mul_of_pos_left hD2 (by omega)
    have h3 : B * ((v1 * B + v0 + 1) * P) ≤ (v1 + 1) * B * B * P := by
      rw [← Nat.mul_assoc]
      refine Nat.mul_le_mul_right P ?_
      rw [Nat.mul_comm ((v1 + 1) * B)]
      refine Nat.mul_le_mul_left _ ?_
      rw [Nat.add_mul]; omega
    omega
  have hd := Nat.div_add_mod (u2 * B + u1) v1
  have hm := Nat.mod_lt (u2 * B + u1) (show 0 < v1 by omega)
  generalize (u2 * B + u1) / v1 = g at *
  generalize (u2 * B + u1) % v1 = o at *
  rw [Nat.mul_comm v1] at hd
  have h9 : u2 * B ≤ v1 * B := Nat.mul_le_mul_right _ hu2
  have hgs : g ≤ B + 1 := by
    refine Nat.le_of_not_lt (fun hlt => ?_)
    have h1 : (B + 2) * v1 ≤ g * v1 := Nat.mul_le_mul_right v1 hlt
    rw [Nat.add_mul, Nat.mul_comm B v1] at h1
    omega
  refine ⟨hu2, hd, ?_, by omega, hgs, ?_⟩
  · have hD0 : 0 < D := Nat.lt_of_lt_of_le (Nat.mul_pos (Nat.add_pos_left (Nat.mul_pos (by omega) (by omega)) _) hP) hD
    refine Nat.le_of_not_lt (fun hlt => ?_)
    have h0 : (g + 1) * D ≤ W := by
      have := Nat.mul_le_mul_right D hlt
      exact Nat.le_trans this (Nat.div_mul_le_self W D)
    have h1 : (g + 1) * ((v1 * B + v0) * P) ≤ (g + 1) * D := Nat.mul_le_mul_left _ hD
    rw [← Nat.mul_assoc] at h1
    have h2 := Nat.lt_of_mul_lt_mul_right (Nat.lt_of_le_of_lt (Nat.le_trans h1 h0) hW2)
    have h3 : (g + 1) * (v1 * B + v0) = (g * v1 + v1) * B + (g + 1) * v0 := by
      rw [Nat.mul_add, ← Nat.mul_assoc, Nat.add_mul g 1 v1, Nat.one_mul]
    rw [h3] at h2
    have h4 : (g * v1 + o + 1) * B ≤ (g * v1 + v1) * B := Nat.mul_le_mul_right _ (by omega)
    rw [hd, Nat.add_mul _ 1] at h4
    omega
  · intro hg
    obtain ⟨e, rfl⟩ : ∃ e, g = B + e := ⟨g - B, by omega⟩
    rw [Nat.add_sub_cancel_left]
    rw [Nat.add_mul, Nat.mul_comm B v1] at hd
    omega
/-- it was too great -/
theorem guess_too (B W D v1 v0 u2 u1 u0 P g o : Nat) (hB : 2 < B) (hP : 0 < P) (hD : (v1 * B + v0) * P ≤ D) (hW2 : W < ((u2 * B + u1) * B + u0 + 1) * P) (hWD : W < B * D) (hv1 : B ≤ 2 * v1)
    (hG : Guess B W D v1 v0 u2 u1 u0 g o) (hc : B ≤ g ∨ o * B + u0 < g * v0) : W / D < g := by
  have hD0 : 0 < D := Nat.lt_of_lt_of_le (Nat.mul_pos (Nat.add_pos_left (Nat.mul_pos (by omega) (by omega)) _) hP) hD
  rcases hc with hc | hc
  · refine Nat.lt_of_lt_of_le ((Nat.div_lt_iff_lt_mul hD0).2 hWD) hc
  · refine guess_over P _ _ W D g hW2 hD ?_
    rw [← hG.top, Nat.add_mul, Nat.mul_add, ← Nat.mul_assoc]
    omega
/-- the step of its loop -/
theorem guess_next (B W D v1 v0 u2 u1 u0 g o : Nat) (hv1 : B ≤ 2 * v1) (hv : v1 < B) (hG : Guess B W D v1 v0 u2 u1 u0 g o) (hlt : W / D < g) :
    (g - 1) * v1 + (o + v1) = u2 * B + u1 ∧ W / D ≤ g - 1 ∧ (o + v1 < B → Guess B W D v1 v0 u2 u1 u0 (g - 1) (o + v1)) ∧ (B ≤ o + v1 → g - 1 < B) := by
  have h0 := hG.top
  obtain ⟨e, rfl⟩ : ∃ e, g = e + 1 := ⟨g - 1, by generalize W / D = q at hlt; omega⟩
  rw [Nat.add_sub_cancel]
  have h1 : e * v1 + (o + v1) = u2 * B + u1 := by rw [← h0, Nat.add_mul]; omega
  have h2 : B ≤ e → (e - B) * v1 + (o + v1) < B := fun he => by
    have := hG.hi (by omega)
    rw [show e + 1 - B = (e - B) + 1 by omega, Nat.add_mul] at this
    omega
  have h3 := hG.small
  have h4 : W / D ≤ e := Nat.le_of_lt_succ hlt
  refine ⟨h1, h4, fun h => ⟨h1, h4, h, by omega, h2⟩, fun h => ?_⟩
  refine Nat.lt_of_not_le (fun he => ?_)
  have := h2 he
  omega
/-- its end: right, or one too great -/
theorem guess_end (B W D v1 v0 u2 u1 u0 P g o : Nat) (hB : 2 < B) (hP : 0 < P) (hD : (v1 * B + v0) * P ≤ D) (hD2 : D < (v1 * B + v0 + 1) * P) (hW : ((u2 * B + u1) * B + u0) * P ≤ W) (hv1 : B ≤ 2 * v1) (hv0 : v0 < B)
    (ht : g * v1 + o = u2 * B + u1) (hge : W / D ≤ g) (hg : g < B) (hc : B ≤ o ∨ g * v0 ≤ o * B + u0) : g = W / D ∨ g = W / D + 1 := by
  have h5 : B * 1 ≤ v1 * B := by rw [Nat.mul_comm v1]; exact Nat.mul_le_mul_left _ (by omega)
  have hD0 : 0 < D := Nat.lt_of_lt_of_le (Nat.mul_pos (by omega) hP) hD
  have hc' : g * v0 ≤ o * B + u0 := by
    rcases hc with h | h
    · have h1 : g * v0 ≤ B * B := Nat.mul_le_mul (by omega) (by omega)
      have h2 : B * B ≤ o * B := Nat.mul_le_mul_right _ h
      omega
    · exact h
  have := guess_near P ((u2 * B + u1) * B + u0) (v1 * B + v0) W D g hP hW hD2 hD0 (by omega) (by
    rw [← ht, Nat.add_mul, Nat.mul_add, ← Nat.mul_assoc]
    omega)
  generalize W / D = q at *
  omega
end Go.Proofs.YtigoofeodbbbhaaDoorM
/- nat.left, nat.right: limbs moved up and down by fewer than 32 binary digits. -/
namespace Go.Proofs.YtigoofeodbbbhaaDoor
open Go.RowKit Go.Proofs.YtigoofeodbbbhaaDoorL Go.Proofs.YtigoofeodbbbhaaDoorM
set_option linter.unusedVariables false
set_option linter.unusedSimpArgs false
theorem fill_two (S : List Nat) (t v h k m : Nat) (hS : S.length = k) : (((S ++ [t]) ++ List.replicate (m + 1) 0).set k v).set (k + 1) h = ((S ++ [v]) ++ [h]) ++ List.replicate m 0 := by
  subst hS
  rw [List.replicate_succ]
  simp [List.set_append]
/-- a list in one block that is new -/
def NewL (base : Nat) (w : World) (v : Value) (n : Nat) (l : List Nat) : Prop := ∃ g, v = .slice (some ⟨g, 0, none⟩) n n ∧ base ≤ g ∧ Blk w g (l.map valU) 62 ∧ l.length = n ∧ (∀ x ∈ l, x < 4294967296)
set_option maxRecDepth 8000 in
set_option maxHeartbeats 1000000 in
theorem left_any (l : List Nat) (A : Option Addr) (c n m : Nat) (w : World) (hr : Rd encU 1 w A l) (hl : ∀ x ∈ l, x < 4294967296) (hn : n < 32) (hln : l.length = m) (hc : m ≤ c) (hm : m ≤ 4398046511104) :
    Calls Tryd.prog 78 #[.slice A m c, .int .i64 n] w (Gives w fun v w' => ∃ L, NewL w.heap.size w' v (m + 1) L ∧ valB 4294967296 L = valB 4294967296 l * 2 ^ n) := by
  have HL := As.mk hl
  have Hln := As.mk hln
  have hrd := As.mk hr
  clear hl hln
  go_enter Tryd.func78, Tryd.ntmps78
  go_wp2_with ((with_reducible refine g_dst 11 ?_); go_must (refine ev_make 11 rfl Tryd.underlying24 infoU rfl (n := m + 1) (by go_simp; rfl) (by go_simp; rfl) (by omega) (by omega) ?_); intro g w1 hb1 B1 hg)
  go_loopw [14, 6, 7] (fun v _ _ wr => ∃ (k t : Nat) (S : List Nat), k ≤ m ∧ v = .int .i64 (k : Int) ∧ As (S.length = k) ∧ t < 2 ^ n ∧ As (∀ x ∈ S, x < 4294967296) ∧ As (valB 4294967296 (S ++ [t]) = valB 4294967296 (l.take k) * 2 ^ n) ∧ Below w.heap.size w wr ∧ Blk wr g (((S ++ [t]) ++ List.replicate (m - k) 0).map valU) 62) (fun v _ _ _ => m - (intOf v).toNat)
  case atStart => exact ⟨0, 0, [], by omega, rfl, ⟨rfl⟩, Nat.pow_pos (by omega), ⟨fun x hx => (nomatch hx)⟩, ⟨by simp [valB]⟩, hb1, by simpa [valU, List.replicate_succ] using B1⟩
  case round =>
    clear B1 hb1
    obtain ⟨k, t, S, hk, rfl, hS, ht, hSl, hV, hb, B⟩ := hrel
    by_cases h : k < m
    · have hkl : k < l.length := by rw [Hln.out]; exact h
      obtain ⟨b, off, rfl⟩ := hrd.out.get (ne_nil_of_lt hkl)
      have hcell := Rd.u (hr.below hb) k hkl
      obtain ⟨x, hx⟩ : ∃ x, x = l[k] := ⟨_, rfl⟩
      have hx4 : x < 4294967296 := by rw [hx]; exact HL.out _ (List.getElem_mem _)
      have hst := shl_step n l S k t hkl hS.out hV.out
      rw [← hx] at hcell hst
      have hcells : wr.cell? ⟨g, k, none⟩ = some (.int .u32 (t : Nat)) := by
        rw [B.cells, List.getElem?_map]
        have hS' := hS.out
        rw [List.append_assoc, List.getElem?_append_right (by omega), hS', Nat.sub_self]; rfl
      have h2n : 2 ^ n ≤ 2147483648 := Nat.le_trans (Nat.pow_le_pow_right (by omega) (show n ≤ 31 by omega)) (by decide)
      obtain ⟨y, hy⟩ : ∃ y, y = x * 2 ^ n := ⟨_, rfl⟩
      have hyb : y < 9223372036854775808 := by
        rw [hy]
        exact Nat.lt_of_le_of_lt (Nat.mul_le_mul_left x h2n) (by omega)
      have ey : (x : Int) * 2 ^ n = (y : Int) := by rw [hy, Int.natCast_mul, Int.natCast_pow]; rfl
      have hsl := shl_lt n x t (by omega) hx4 ht
      have hso := shl_or n x t (by omega) hx4 ht
      rw [← hy] at hst hsl hso
      obtain ⟨lo, hlo⟩ : ∃ lo, lo = y % 4294967296 := ⟨_, rfl⟩
      obtain ⟨hi, hhi⟩ : ∃ hi, hi = y / 4294967296 := ⟨_, rfl⟩
      rw [← hlo, ← hhi] at hst hsl
      rw [← hlo] at hso
      obtain ⟨v, hv⟩ : ∃ v, v = lo + t := ⟨_, rfl⟩
      rw [← hv] at hst hsl hso
      have hlo4 : lo < 4294967296 := by omega
      have hhi4 : hi < 4294967296 := by omega
      have e1 : IntKind.u32.wrap (y : Int) = (lo : Int) := by rw [hlo]; simp [IntKind.wrap, IntKind.bits, IntKind.signed]
      have e2 : bits .or .u32 (t : Int) (lo : Int) = (v : Int) := by rw [u32_or_nat _ _ (by omega) hlo4, Nat.or_comm, hso]
      have e4 : ((y : Int) / 4294967296) = (hi : Int) := by rw [hhi]; rfl
      have hrep : m - k = (m - (k + 1)) + 1 := by omega
      rw [hrep] at B
      have Hfill := As.mk (fill_two S t v hi k (m - (k + 1)) hS.out)
      have Hst := As.mk hst
      have Hlen := As.mk (show k < ((S ++ [t]) ++ List.replicate (m - (k + 1) + 1) 0).length by simp only [List.length_set, List.length_append, List.length_cons, List.length_nil, List.length_replicate, hS.out]; omega)
      have Hlen2 := As.mk (show k + 1 < (((S ++ [t]) ++ List.replicate (m - (k + 1) + 1) 0).set k v).length by simp only [List.length_set, List.length_append, List.length_cons, List.length_nil, List.length_replicate, hS.out]; omega)
      have HS2 : As ((S ++ [v]).length = k + 1) := ⟨by simp [hS.out]⟩
      have hv4 : v < 4294967296 := hsl.1
      have HSl : As (∀ x ∈ S ++ [v], x < 4294967296) := ⟨snoc_lt hSl.out hv4⟩
      have hhn : hi < 2 ^ n := hsl.2
      have hkm : (k : Int) < (m : Int) + 1 := by omega
      have hkm' : k < m + 1 := by omega
      clear hx hy hsl hso hlo hhi hv hrep hst hV hS hSl hkl
      go_wp2
      go_still_tail 8, (by kernel_rfl)
      change wpList _ _ _ _ _ wr.drew
      replace hb := hb.drew
      replace B := B.drew
      clear hcells hcell
      generalize wr.drew = w2 at hb B ⊢
      go_wp2_with (first
        | ((with_reducible refine g_store 27 ?_); go_must (refine ev_set rfl (by go_simp) B (u := v) (by go_simp; rfl) infoU Hlen.out (by rfl) ?_); intro w3 ho3 B3)
        | ((with_reducible refine g_store 37 ?_); go_must (refine ev_set rfl (by go_simp) B3 (u := hi) (by go_simp; rfl) infoU Hlen2.out (by rfl) ?_); intro w4 ho4 B4; rw [Hfill.out] at B4))
      go_roundw
      case rel => exact ⟨k + 1, hi, S ++ [v], by omega, by go_num, HS2, hhn, HSl, Hst, (hb.trans (ho3.below hg)).trans (ho4.below hg), B4⟩
      case measure => simp [intOf]; omega
    · obtain rfl : k = m := by omega
      rw [Nat.sub_self, List.replicate_zero, List.append_nil] at B
      have hV' := hV.out
      rw [List.take_of_length_le (by rw [Hln.out]; exact Nat.le_refl _)] at hV'
      have ht4 : t < 4294967296 := by
        have : 2 ^ n ≤ 2147483648 := Nat.le_trans (Nat.pow_le_pow_right (by omega) (show n ≤ 31 by omega)) (by decide)
        omega
      have Hend : As ((S ++ [t]).length = k + 1 ∧ (∀ x ∈ S ++ [t], x < 4294967296) ∧ valB 4294967296 (S ++ [t]) = valB 4294967296 l * 2 ^ n) := ⟨by simp [hS.out], snoc_lt hSl.out ht4, hV'⟩
      clear hV' hV hS hSl
      go_wp2
      go_ret
      exact ⟨_, rfl, ⟨S ++ [t], ⟨g, rfl, hg, B, Hend.out.1, Hend.out.2.1⟩, Hend.out.2.2⟩, hb⟩
set_option maxHeartbeats 1000000 in
theorem right_any (l : List Nat) (A : Option Addr) (c n m : Nat) (w : World) (hr : Rd encU 1 w A l) (hl : ∀ x ∈ l, x < 4294967296) (hn : n < 32) (hln : l.length = m) (hc : m ≤ c) (hm : m ≤ 4398046511104) :
    Calls Tryd.prog 80 #[.slice A m c, .int .i64 n] w (Gives w fun v w' => ∃ L, NewL w.heap.size w' v m L ∧ valB 4294967296 L = valB 4294967296 l / 2 ^ n) := by
  have HL := As.mk hl
  have Hln := As.mk hln
  have hrd := As.mk hr
  clear hl hln
  go_enter Tryd.func80, Tryd.ntmps80
  go_wp2_with ((with_reducible refine g_dst 10 ?_); go_must (refine ev_make 10 rfl Tryd.underlying24 infoU rfl (n := m) (by go_simp; rfl) (by go_simp; rfl) (by omega) (by omega) ?_); intro g w1 hb1 B1 hg)
  go_loopw [13, 6, 7] (fun v _ _ wr => ∃ (k : Nat) (S : List Nat), k ≤ m ∧ v = .int .i64 (k : Int) ∧ As (S.length = k) ∧ As (∀ x ∈ S, x < 4294967296) ∧ As (valB 4294967296 S = valB 4294967296 l / 2 ^ n % 4294967296 ^ k) ∧ Below w.heap.size w wr ∧ Blk wr g ((S ++ List.replicate (m - k) 0).map valU) 62) (fun v _ _ _ => m - (intOf v).toNat)
  case atStart => exact ⟨0, [], by omega, rfl, ⟨rfl⟩, ⟨fun x hx => (nomatch hx)⟩, ⟨by simp [valB, Nat.mod_one]⟩, hb1, by simpa [valU] using B1⟩
  case round =>
    clear B1 hb1
    obtain ⟨k, S, hk, rfl, hS, hSl, hV, hb, B⟩ := hrel
    by_cases h : k < m
    · have hkl : k < l.length := by rw [Hln.out]; exact h
      obtain ⟨b, off, rfl⟩ := hrd.out.get (ne_nil_of_lt hkl)
      have hcell := Rd.u (hr.below hb) k hkl
      obtain ⟨x, hx⟩ : ∃ x, x = l[k] := ⟨_, rfl⟩
      have hx4 : x < 4294967296 := by rw [hx]; exact HL.out _ (List.getElem_mem _)
      have hgx : l.getD k 0 = x := by rw [hx]; exact getD_of_lt hkl
      obtain ⟨y, hy⟩ : ∃ y, y = l.getD (k + 1) 0 := ⟨_, rfl⟩
      have hy4 : y < 4294967296 := by rw [hy]; exact getD_lt 4294967296 (by omega) l HL.out (k + 1)
      obtain ⟨wd, hwd⟩ : ∃ wd, wd = x + 4294967296 * y := ⟨_, rfl⟩
      have hwd4 : wd < 18446744073709551616 := by omega
      obtain ⟨q, hq⟩ : ∃ q, q = wd / 2 ^ n := ⟨_, rfl⟩
      have hq4 : q < 18446744073709551616 := by rw [hq]; exact Nat.lt_of_le_of_lt (Nat.div_le_self _ _) hwd4
      obtain ⟨d, hd⟩ : ∃ d, d = q % 4294967296 := ⟨_, rfl⟩
      have hd4 : d < 4294967296 := by omega
      have hst := shr_step n l S k d hS.out hV.out (by rw [shr_digit n l k (by omega) HL.out, hgx, ← hy, ← hwd, ← hq, hd])
      have e1 : IntKind.u32.wrap (q : Int) = (d : Int) := by rw [hd]; simp [IntKind.wrap, IntKind.bits, IntKind.signed]
      have e2 : (wd : Int) / 2 ^ n = (q : Int) := by rw [hq, Int.natCast_ediv, Int.natCast_pow]; rfl
      have e3 : bits .or .u64 (x : Int) ((y : Int) * 4294967296) = (wd : Int) := by
        have := u64_shift_or y x hy4 hx4
        rw [show ((y : Int) * 4294967296) = ((y * 4294967296 : Nat) : Int) by rw [Int.natCast_mul]; rfl, u64_or_nat _ _ (by omega) (by omega)] at this ⊢
        rw [Nat.or_comm, hwd, Nat.add_comm, Nat.mul_comm 4294967296]
        exact this
      rw [← hx] at hcell
      have hrep : m - k = (m - (k + 1)) + 1 := by omega
      rw [hrep] at B
      have Hfill := As.mk (fill_up 0 d (m - (k + 1)) S k hS.out)
      have Hst := As.mk hst
      have Hlen := As.mk (show k < (S ++ List.replicate (m - (k + 1) + 1) 0).length by simp only [List.length_set, List.length_append, List.length_cons, List.length_nil, List.length_replicate, hS.out]; omega)
      have HS2 : As ((S ++ [d]).length = k + 1) := ⟨by simp [hS.out]⟩
      have HSl : As (∀ x ∈ S ++ [d], x < 4294967296) := ⟨snoc_lt hSl.out hd4⟩
      by_cases h2 : k + 1 < m
      · have hkl2 : k + 1 < l.length := by rw [Hln.out]; exact h2
        have hcell2 := Rd.u (hr.below hb) (k + 1) hkl2
        rw [← getD_of_lt hkl2, ← hy] at hcell2
        have hk1 : (k : Int) + 1 < (m : Int) := by omega
        have hkc : (k : Int) + 1 < (c : Int) := by omega
        clear hx hgx hy hwd hq hd hst hrep hV hS hSl hkl hkl2
        go_wp2_with ((with_reducible refine g_store 41 ?_); go_must (refine ev_set rfl (by go_simp) B (u := d) (by go_simp; rfl) infoU Hlen.out (by rfl) ?_); intro w2 ho2 B2; rw [Hfill.out] at B2)
        go_roundw
        case rel => exact ⟨k + 1, S ++ [d], by omega, by go_num, HS2, HSl, Hst, hb.trans (ho2.below hg), B2⟩
        case measure => simp [intOf]; omega
      · have hy0 : y = 0 := by rw [hy]; simp [List.getD, List.getElem?_eq_none (show l.length ≤ k + 1 by rw [Hln.out]; omega)]
        have hwx : wd = x := by rw [hwd, hy0]; omega
        subst hwx
        have hk1 : ¬ (k : Int) + 1 < (m : Int) := by omega
        clear hx hgx hy hy0 hwd hq hd hst hrep hV hS hSl hkl e3
        go_wp2_with ((with_reducible refine g_store 41 ?_); go_must (refine ev_set rfl (by go_simp) B (u := d) (by go_simp; rfl) infoU Hlen.out (by rfl) ?_); intro w2 ho2 B2; rw [Hfill.out] at B2)
        go_roundw
        case rel => exact ⟨k + 1, S ++ [d], by omega, by go_num, HS2, HSl, Hst, hb.trans (ho2.below hg), B2⟩
        case measure => simp [intOf]; omega
    · obtain rfl : k = m := by omega
      rw [Nat.sub_self, List.replicate_zero, List.append_nil] at B
      have hV' := hV.out
      have hlt := valB_lt 4294967296 (by omega) l HL.out
      rw [Hln.out] at hlt
      rw [Nat.mod_eq_of_lt (Nat.lt_of_le_of_lt (Nat.div_le_self _ _) hlt)] at hV'
      have Hend : As (S.length = k ∧ (∀ x ∈ S, x < 4294967296) ∧ valB 4294967296 S = valB 4294967296 l / 2 ^ n) := ⟨hS.out, hSl.out, hV'⟩
      clear hV' hV hS hSl hlt
      go_wp2
      go_ret
      exact ⟨_, rfl, ⟨S, ⟨g, rfl, hg, B, Hend.out.1, Hend.out.2.1⟩, Hend.out.2.2⟩, hb⟩
end Go.Proofs.YtigoofeodbbbhaaDoor
/- nat.digit: one limb of a quotient; it is taken away from the rest. -/
namespace Go.Proofs.YtigoofeodbbbhaaDoor
open Go.RowKit Go.Proofs.YtigoofeodbbbhaaDoorL Go.Proofs.YtigoofeodbbbhaaDoorM
set_option linter.unusedVariables false
set_option linter.unusedSimpArgs false
theorem only_refl (g : Nat) (w : World) : Only g w w := ⟨rfl, rfl, rfl, rfl, fun _ _ => rfl⟩
theorem only_drewN {g : Nat} {w W : World} (h : Only g w W) (n : Nat) : Only g w (W.drewN n) := ⟨h.os, h.tape, h.output, h.size, h.block⟩
theorem blk_drewN {w : World} {g : Nat} {cs : List Value} {t : TypeId} (f : Blk w g cs t) (n : Nat) : Blk (w.drewN n) g cs t := ⟨f.h⟩
theorem mid_at (X S Z : List Nat) (a i k : Nat) (hX : X.length = i) (hS : S.length = k) : (X ++ (S ++ a :: Z))[i + k]? = some a := by
  subst hX hS
  rw [List.getElem?_append_right (by omega), Nat.add_sub_cancel_left, List.getElem?_append_right (Nat.le_refl _), Nat.sub_self]; rfl
theorem mid_set (X S Z : List Nat) (a v i k : Nat) (hX : X.length = i) (hS : S.length = k) : (X ++ (S ++ a :: Z)).set (i + k) v = X ++ ((S ++ [v]) ++ Z) := by
  subst hX hS
  rw [List.set_append_right _ _ (by omega), Nat.add_sub_cancel_left, List.set_append_right _ _ (Nat.le_refl _), Nat.sub_self]
  simp
theorem mid_lt (X S Z : List Nat) (a i k : Nat) (hX : X.length = i) (hS : S.length = k) : i + k < (X ++ (S ++ a :: Z)).length := by
  subst hX hS
  simp only [List.length_append, List.length_cons]; omega
theorem Blk.mid {w : World} {g : Nat} {X S Z : List Nat} {a i k : Nat} {e : TypeId} (B : Blk w g ((X ++ (S ++ a :: Z)).map valU) e) (hX : X.length = i) (hS : S.length = k) : w.cell? ⟨g, i + k, none⟩ = some (.int .u32 (a : Nat)) := by
  rw [B.cells, List.getElem?_map, mid_at X S Z a i k hX hS]; rfl
/-- a difference of two limbs and a borrow, in 64 bits -/
theorem borrow_step (r low br : Nat) (hr : r < 4294967296) (hl : low < 4294967296) (hb : br ≤ 1) : ∃ D1 D d b2 : Nat, IntKind.u64.wrap ((r : Int) - (low : Int)) = (D1 : Int) ∧ IntKind.u64.wrap ((D1 : Int) - (br : Int)) = (D : Int) ∧ D1 < 18446744073709551616 ∧ D < 18446744073709551616 ∧
    IntKind.u32.wrap (D : Int) = (d : Int) ∧ (D : Int) / 9223372036854775808 = (b2 : Int) ∧ d + low + br = r + 4294967296 * b2 ∧ d < 4294967296 ∧ b2 ≤ 1 := by
  have key : ∀ x : Int, IntKind.u64.wrap x = x % 18446744073709551616 := fun x => by simp [IntKind.wrap, IntKind.bits, IntKind.signed]
  have key2 : ∀ x : Int, IntKind.u32.wrap x = x % 4294967296 := fun x => by simp [IntKind.wrap, IntKind.bits, IntKind.signed]
  by_cases h1 : low ≤ r
  · by_cases h2 : low + br ≤ r
    · refine ⟨r - low, r - low - br, r - low - br, 0, ?_, ?_, by omega, by omega, ?_, ?_, by omega, by omega, by omega⟩
      · rw [key]; omega
      · rw [key]; omega
      · rw [key2]; omega
      · omega
    · refine ⟨r - low, 18446744073709551615, 4294967295, 1, ?_, ?_, by omega, by omega, ?_, ?_, by omega, by omega, by omega⟩
      · rw [key]; omega
      · rw [key]; omega
      · rw [key2]; omega
      · omega
  · refine ⟨r + 18446744073709551616 - low, r + 18446744073709551616 - low - br, r + 4294967296 - low - br, 1, ?_, ?_, by omega, by omega, ?_, ?_, by omega, by omega, by omega⟩
    · rw [key]; omega
    · rw [key]; omega
    · rw [key2]; omega
    · omega
theorem and_low (T : Nat) (h : T < 18446744073709551616) : bits .and .u64 (T : Int) 4294967295 = ((T % 4294967296 : Nat) : Int) := by
  have := u64_and_nat T 4294967295 h (by omega)
  rw [show ((4294967295 : Nat) : Int) = 4294967295 from rfl] at this
  rw [this]
  congr 1
  exact Nat.and_two_pow_sub_one_eq_mod T 32
set_option maxRecDepth 4000 in
set_option maxHeartbeats 4000000 in
theorem digit_any (X R0 Y M : List Nat) (i p g : Nat) (A2 : Option Addr) (cw c2 : Nat) (w : World) (B : Blk w g ((X ++ (R0 ++ Y)).map valU) 62) (hX : X.length = i) (hR : R0.length = p + 3) (hRl : ∀ x ∈ R0, x < 4294967296)
    (hr2 : Rd encU 1 w A2 M) (hM : M.length = p + 2) (hMl : ∀ x ∈ M, x < 4294967296) (hne : ∀ b ∈ addrBlock A2, b ≠ g) (hc2 : p + 2 ≤ c2) (hcw : p + 3 ≤ cw) (hp : p ≤ 4398046511104) (hn : 4294967296 ≤ 2 * M.getD (p + 1) 0) (hWD : valB 4294967296 R0 < 4294967296 * valB 4294967296 M) :
    Calls Tryd.prog 79 #[.slice (some ⟨g, i, none⟩) (p + 3) cw, .slice A2 (p + 2) c2] w fun e w' => e = .returned (.int .u32 ((valB 4294967296 R0 / valB 4294967296 M : Nat) : Int)) ∧ Only g w w' ∧
      ∃ R : List Nat, R.length = p + 3 ∧ (∀ x ∈ R, x < 4294967296) ∧ valB 4294967296 R = valB 4294967296 R0 % valB 4294967296 M ∧ Blk w' g ((X ++ (R ++ Y)).map valU) 62 := by
  have hrB : ∀ W, Only g w W → Rd encU 1 W A2 M := fun W ho => Rd.keep hr2 (fun _ b hb => ho.block b (hne b hb))
  obtain ⟨b2, off2, rfl⟩ := hr2.get (ne_nil_of_lt (i := 0) (by omega))
  have hlM := val_last2 4294967296 (by omega) M p hMl hM
  have hlR := val_last3 4294967296 (by omega) R0 p hRl hR
  have hv1 := getD_lt 4294967296 (by omega) M hMl (p + 1)
  have hv0 := getD_lt 4294967296 (by omega) M hMl p
  have hu2 := getD_lt 4294967296 (by omega) R0 hRl (p + 2)
  have hu1 := getD_lt 4294967296 (by omega) R0 hRl (p + 1)
  have hu0 := getD_lt 4294967296 (by omega) R0 hRl p
  have cM : ∀ W, Only g w W → ∀ j (hj : j < M.length), W.cell? ⟨b2, off2 + j, none⟩ = some (.int .u32 (M.getD j 0 : Nat)) := fun W ho j hj => by rw [getD_of_lt hj]; exact Rd.u (hrB W ho) j hj
  have cR : ∀ W, Blk W g ((X ++ (R0 ++ Y)).map valU) 62 → ∀ j (hj : j < R0.length), W.cell? ⟨g, i + j, none⟩ = some (.int .u32 (R0.getD j 0 : Nat)) := fun W B j hj => by
    rw [B.cells, List.getElem?_map, ← hX, List.getElem?_append_right (by omega), Nat.add_sub_cancel_left, List.getElem?_append_left hj, List.getElem?_eq_getElem hj, getD_of_lt hj]; rfl
  obtain ⟨v1, hv1e⟩ : ∃ v, v = M.getD (p + 1) 0 := ⟨_, rfl⟩
  obtain ⟨v0, hv0e⟩ : ∃ v, v = M.getD p 0 := ⟨_, rfl⟩
  obtain ⟨u2, hu2e⟩ : ∃ v, v = R0.getD (p + 2) 0 := ⟨_, rfl⟩
  obtain ⟨u1, hu1e⟩ : ∃ v, v = R0.getD (p + 1) 0 := ⟨_, rfl⟩
  obtain ⟨u0, hu0e⟩ : ∃ v, v = R0.getD p 0 := ⟨_, rfl⟩
  have k1 : ∀ W, Only g w W → W.cell? ⟨b2, off2 + (p + 1), none⟩ = some (.int .u32 (v1 : Nat)) := fun W ho => by rw [hv1e]; exact cM W ho (p + 1) (by omega)
  have k0 : ∀ W, Only g w W → W.cell? ⟨b2, off2 + p, none⟩ = some (.int .u32 (v0 : Nat)) := fun W ho => by rw [hv0e]; exact cM W ho p (by omega)
  have r2 : ∀ W, Blk W g ((X ++ (R0 ++ Y)).map valU) 62 → W.cell? ⟨g, i + (p + 2), none⟩ = some (.int .u32 (u2 : Nat)) := fun W B => by rw [hu2e]; exact cR W B (p + 2) (by omega)
  have r1 : ∀ W, Blk W g ((X ++ (R0 ++ Y)).map valU) 62 → W.cell? ⟨g, i + (p + 1), none⟩ = some (.int .u32 (u1 : Nat)) := fun W B => by rw [hu1e]; exact cR W B (p + 1) (by omega)
  have r0 : ∀ W, Blk W g ((X ++ (R0 ++ Y)).map valU) 62 → W.cell? ⟨g, i + p, none⟩ = some (.int .u32 (u0 : Nat)) := fun W B => by rw [hu0e]; exact cR W B p (by omega)
  obtain ⟨Wv, hWv⟩ : ∃ v, v = valB 4294967296 R0 := ⟨_, rfl⟩
  obtain ⟨D, hD⟩ : ∃ v, v = valB 4294967296 M := ⟨_, rfl⟩
  obtain ⟨P, hP⟩ : ∃ v, v = 4294967296 ^ p := ⟨_, rfl⟩
  have hP0 : 0 < P := by rw [hP]; exact Nat.pow_pos (by omega)
  rw [← hv1e, ← hv0e, ← hD, ← hP] at hlM
  rw [← hu2e, ← hu1e, ← hu0e, ← hWv, ← hP] at hlR
  rw [← hv1e] at hv1 hn
  rw [← hv0e] at hv0
  rw [← hu2e] at hu2
  rw [← hu1e] at hu1
  rw [← hu0e] at hu0
  rw [← hWv, ← hD] at hWD ⊢
  have hgs := guess_start 4294967296 Wv D v1 v0 u2 u1 u0 P (by omega) hP0 hlM.1 hlM.2 hlR.1 hlR.2 hWD hn hv1 hv0 hu1 hu0
  obtain ⟨top, htop⟩ : ∃ v, v = u2 * 4294967296 + u1 := ⟨_, rfl⟩
  obtain ⟨g0, hg0⟩ : ∃ v, v = top / v1 := ⟨_, rfl⟩
  obtain ⟨o0, ho0⟩ : ∃ v, v = top % v1 := ⟨_, rfl⟩
  rw [← htop, ← hg0, ← ho0] at hgs
  have etop := u64_shift_or u2 u1 hu2 hu1
  rw [← htop] at etop
  have eq0 : ((top : Int).tdiv (v1 : Int)) = (g0 : Int) := by rw [hg0, Int.tdiv_eq_ediv_of_nonneg (by omega)]; rfl
  have eo0 : ((top : Int).tmod (v1 : Int)) = (o0 : Int) := by rw [ho0, Int.tmod_eq_emod_of_nonneg (by omega)]; rfl
  have hv1p : 0 < v1 := by omega
  have hg0b : g0 ≤ 4294967297 := hgs.2.small
  have ho0b : o0 < 4294967296 := hgs.2.over
  have htb : top < 18446744073709551616 := by omega
  have HG0 := As.mk hgs.2
  have HlM := As.mk hlM
  have HlR := As.mk hlR
  have HWD := As.mk hWD
  have Hn := As.mk hn
  have K1 := As.mk k1
  have K0 := As.mk k0
  have R2 := As.mk r2
  have R1 := As.mk r1
  have R00 := As.mk r0
  have CM := As.mk cM
  have HP0 := As.mk hP0
  have Hdef := As.mk (And.intro hWv (And.intro hD (And.intro hP (And.intro hu2e (And.intro hRl (And.intro hMl (And.intro hX (And.intro hR hM))))))))
  have HR0 : As (∀ k, k < p + 3 → R0.drop k = R0.getD k 0 :: R0.drop (k + 1)) := ⟨fun k hk => by rw [drop_cons_of_lt R0 k (by omega), getD_of_lt (show k < R0.length by omega)]⟩
  have HD0 : As (0 < D) := ⟨by
    rcases Nat.eq_zero_or_pos D with h | h
    · rw [h, Nat.mul_zero] at hWD; omega
    · exact h⟩
  have ez1 : ((p : Int) + 2 - 1) = (p : Int) + 1 := by omega
  have ez2 : ((p : Int) + 2 - 2) = (p : Int) := by omega
  have c1 := k1 w (only_refl g w)
  have c2' := r2 w B
  have c3 := r1 w B
  clear hlM hlR hWD hn hgs hg0 ho0 htop hv1e hv0e hu2e hu1e hu0e hWv hD hP hX hR hM hRl hMl k1 k0 r2 r1 r0 cM cR hrB hP0 hr2 hne
  go_enter Tryd.func79, Tryd.ntmps79
  go_wp2
  go_quiet (fail)
  go_wp2
  go_quiet (fail)
  clear c1 c2' c3 eq0 eo0 etop
  go_upto_block 0 with (fail)
  go_cut [7] (fun v wx => ∃ gs : Nat, v = .int .u64 (gs : Int) ∧ As (gs < 4294967296) ∧ As (gs = Wv / D ∨ gs = Wv / D + 1) ∧ Only g w wx ∧ Blk wx g ((X ++ (R0 ++ Y)).map valU) 62)
  case first =>
    go_wp2
    go_loopw [7, 8] (fun v u wr => ∃ gs o : Nat, v = .int .u64 (gs : Int) ∧ u = .int .u64 (o : Int) ∧ o < 4294967296 ∧ gs ≤ 4294967297 ∧ As (Guess 4294967296 Wv D v1 v0 u2 u1 u0 gs o) ∧ Only g w wr ∧ Blk wr g ((X ++ (R0 ++ Y)).map valU) 62) (fun v _ _ => (intOf v).toNat)
    case atStart => exact ⟨g0, o0, rfl, rfl, ho0b, hg0b, HG0, only_drewN (only_drewN (only_refl g w) _) _, blk_drewN (blk_drewN B _) _⟩
    case round =>
      clear B HG0 hg0b ho0b
      obtain ⟨gs, o, rfl, rfl, hob, hgb, HG, ho, B⟩ := hrel
      have d1 := K1.out _ ho
      have d0 := K0.out _ ho
      have f0 := R00.out _ B
      obtain ⟨r, hr⟩ : ∃ r, r = o * 4294967296 + u0 := ⟨_, rfl⟩
      have er := u64_shift_or o u0 hob hu0
      rw [← hr] at er
      have hrb : r < 18446744073709551616 := by omega
      obtain ⟨q, hq⟩ : ∃ q, q = gs * v0 := ⟨_, rfl⟩
      have hqb : q ≤ 4294967297 * 4294967295 := by rw [hq]; exact Nat.mul_le_mul hgb (by omega)
      by_cases hc : 4294967296 ≤ gs ∨ r < q
      · have hlt := guess_too 4294967296 Wv D v1 v0 u2 u1 u0 P gs o (by omega) HP0.out HlM.out.1 HlR.out.2 HWD.out Hn.out HG.out (by rw [← hr, ← hq]; exact hc)
        have hnx := guess_next 4294967296 Wv D v1 v0 u2 u1 u0 gs o Hn.out hv1 HG.out hlt
        obtain ⟨e, he⟩ : ∃ e, gs = e + 1 := ⟨gs - 1, by generalize Wv / D = z at hlt; omega⟩
        subst he
        rw [Nat.add_sub_cancel] at hnx
        have eq1 : ((e : Int) + 1) * (v0 : Int) = (q : Int) := by rw [hq, Int.natCast_mul]; rfl
        have HN := As.mk hnx
        have Hq := As.mk hq
        have Hr := As.mk hr
        have hc2x : (4294967296 : Int) ≤ (e : Int) + 1 ∨ ((e : Int) + 1 < 4294967296 ∧ r < q) := by
          rcases hc with h | h
          · exact .inl (by omega)
          · by_cases h5 : 4294967296 ≤ e + 1
            · exact .inl (by omega)
            · exact .inr ⟨by omega, h⟩
        clear hlt hnx hq hr hc
        by_cases ho2 : o + v1 < 4294967296
        · have ho3 : (o : Int) + (v1 : Int) < 4294967296 := by omega
          have z3 : decide ((4294967296 : Int) ≤ (o : Int) + (v1 : Int)) = false := by simp; omega
          rcases hc2x with h5 | ⟨h5, h6⟩
          · have z1 : decide ((4294967296 : Int) ≤ (e : Int) + 1) = true := by simp; omega
            go_wp2
            go_quiet (fail)
            go_wp2
            go_roundw
            case rel => exact ⟨e, o + v1, by go_num, by go_num, ho2, by omega, ⟨HN.out.2.2.1 ho2⟩, only_drewN ho _, blk_drewN B _⟩
            case measure => simp [intOf]
          · have z1 : decide ((4294967296 : Int) ≤ (e : Int) + 1) = false := by simp; omega
            have z2 : decide ((r : Int) < (q : Int)) = true := by simp; omega
            go_wp2
            go_quiet (fail)
            go_wp2
            go_roundw
            case rel => exact ⟨e, o + v1, by go_num, by go_num, ho2, by omega, ⟨HN.out.2.2.1 ho2⟩, only_drewN ho _, blk_drewN B _⟩
            case measure => simp [intOf]
        · have ho3 : (4294967296 : Int) ≤ (o : Int) + (v1 : Int) := by omega
          have z3 : decide ((4294967296 : Int) ≤ (o : Int) + (v1 : Int)) = true := by simp; omega
          have HE : As (e < 4294967296 ∧ (e = Wv / D ∨ e = Wv / D + 1)) := ⟨HN.out.2.2.2 (by omega), guess_end 4294967296 Wv D v1 v0 u2 u1 u0 P e (o + v1) (by omega) HP0.out HlM.out.1 HlM.out.2 HlR.out.1 Hn.out hv0 HN.out.1 HN.out.2.1 (HN.out.2.2.2 (by omega)) (.inl (by omega))⟩
          rcases hc2x with h5 | ⟨h5, h6⟩
          · have z1 : decide ((4294967296 : Int) ≤ (e : Int) + 1) = true := by simp; omega
            go_wp2
            go_quiet (fail)
            go_wp2
            go_meet
            exact ⟨e, by go_num, ⟨HE.out.1⟩, ⟨HE.out.2⟩, only_drewN ho _, blk_drewN B _⟩
          · have z1 : decide ((4294967296 : Int) ≤ (e : Int) + 1) = false := by simp; omega
            have z2 : decide ((r : Int) < (q : Int)) = true := by simp; omega
            go_wp2
            go_quiet (fail)
            go_wp2
            go_meet
            exact ⟨e, by go_num, ⟨HE.out.1⟩, ⟨HE.out.2⟩, only_drewN ho _, blk_drewN B _⟩
      · have hg5 : gs < 4294967296 := by omega
        have HE : As (gs = Wv / D ∨ gs = Wv / D + 1) := ⟨guess_end 4294967296 Wv D v1 v0 u2 u1 u0 P gs o (by omega) HP0.out HlM.out.1 HlM.out.2 HlR.out.1 Hn.out hv0 HG.out.top HG.out.ge hg5 (.inr (by rw [← hr, ← hq]; omega))⟩
        have eq1 : (gs : Int) * (v0 : Int) = (q : Int) := by rw [hq, Int.natCast_mul]
        have z1 : decide ((4294967296 : Int) ≤ (gs : Int)) = false := by simp; omega
        have z1' : decide (4294967296 ≤ gs) = false := by simp; omega
        have z2 : decide ((r : Int) < (q : Int)) = false := by simp; omega
        have z2' : decide (r < q) = false := by simp; omega
        have Hq := As.mk hq
        have Hr := As.mk hr
        clear hq hr hc
        go_wp2
        go_quiet (fail)
        go_wp2
        go_meet
        exact ⟨gs, rfl, ⟨hg5⟩, HE, only_drewN ho _, blk_drewN B _⟩
  case rest =>
    clear B HG0 hg0b ho0b K1 K0 R2 R1 R00 HlM HlR HWD Hn HP0 hv1 hv0 hu1 hu0 hv1p htb ez1 ez2
    obtain ⟨gs, rfl, hgB, hgs, ho, B⟩ := hcut
    have hgb : gs < 4294967296 := hgB.out
    go_wp2
    go_loopw [84, 11, 12, 10, 9, 13] (fun v _ _ u y _ wr => ∃ (k cy br : Nat) (S : List Nat), k ≤ p + 2 ∧ cy < 4294967296 ∧ br ≤ 1 ∧ v = .int .i64 (k : Int) ∧ u = .int .u64 (cy : Int) ∧ y = .int .u64 (br : Int) ∧ As (S.length = k) ∧ As (∀ x ∈ S, x < 4294967296) ∧ As (valB 4294967296 S + gs * valB 4294967296 (M.take k) = valB 4294967296 (R0.take k) + 4294967296 ^ k * (cy + br)) ∧ Only g w wr ∧ Blk wr g ((X ++ (S ++ (R0.drop k ++ Y))).map valU) 62) (fun v _ _ _ _ _ _ => p + 2 - (intOf v).toNat)
    case atStart => exact ⟨0, 0, 0, [], by omega, by omega, by omega, rfl, rfl, rfl, ⟨rfl⟩, ⟨fun x hx => (nomatch hx)⟩, ⟨by simp [valB]⟩, ho, by simpa using B⟩
    case round =>
      clear B ho
      obtain ⟨k, cy, br, S, hk, hcy, hbr, rfl, rfl, rfl, hS, hSl, hV, ho, B⟩ := hrel
      obtain ⟨hWv, hD, hP, hu2e, hRl, hMl, hX, hR, hM⟩ := Hdef.out
      obtain ⟨r, hre⟩ : ∃ r, r = R0.getD k 0 := ⟨_, rfl⟩
      rw [HR0.out k (by omega), ← hre, List.cons_append] at B
      have hr4 : r < 4294967296 := by rw [hre]; exact getD_lt 4294967296 (by omega) R0 hRl k
      have hcellR := Blk.mid B hX hS.out
      have Hset := As.mk (fun v => mid_set X S (R0.drop (k + 1) ++ Y) r v i k hX hS.out)
      have Hlt := As.mk (mid_lt X S (R0.drop (k + 1) ++ Y) r i k hX hS.out)
      have htr := valB_take_succ 4294967296 R0 k
      rw [← hre] at htr
      by_cases h : k < p + 2
      · have hMk : k < M.length := by rw [hM]; exact h
        have hcellM := CM.out _ ho k hMk
        have htm := valB_take_succ 4294967296 M k
        have hy4 : M.getD k 0 < 4294967296 := getD_lt 4294967296 (by omega) M hMl k
        obtain ⟨y, hye⟩ : ∃ y, y = M.getD k 0 := ⟨_, rfl⟩
        rw [← hye] at hcellM htm hy4
        obtain ⟨q, hq⟩ : ∃ q, q = gs * y := ⟨_, rfl⟩
        have hqb : q ≤ 4294967295 * 4294967295 := by rw [hq]; exact Nat.mul_le_mul (by omega) (by omega)
        have eq1 : (gs : Int) * (y : Int) = (q : Int) := by rw [hq, Int.natCast_mul]
        obtain ⟨T, hT⟩ : ∃ T, T = cy + q := ⟨_, rfl⟩
        have e0 : (cy : Int) + (q : Int) = (T : Int) := by omega
        have hTb : T < 18446744073709551616 := by omega
        have ea := and_low T hTb
        obtain ⟨low, hlow⟩ : ∃ low, low = T % 4294967296 := ⟨_, rfl⟩
        obtain ⟨hi, hhi⟩ : ∃ hi, hi = T / 4294967296 := ⟨_, rfl⟩
        rw [← hlow] at ea
        have hl4 : low < 4294967296 := by omega
        have hh4 : hi < 4294967296 := by omega
        have eh : (T : Int) / 4294967296 = (hi : Int) := by rw [hhi]; rfl
        obtain ⟨D1, Dd, d, bb, b1, b3, b4, b5, b6, b7, b8, b9, b10⟩ := borrow_step r low br hr4 hl4 hbr
        have hst := take_step 4294967296 k (valB 4294967296 S) (valB 4294967296 (R0.take k)) (valB 4294967296 (M.take k)) gs cy br r y low hi d bb hV.out (by rw [← hq, ← hT, hlow, hhi, Nat.mod_add_div]) b8
        rw [← htm, ← htr] at hst
        have Hst : As (valB 4294967296 (S ++ [d]) + gs * valB 4294967296 (M.take (k + 1)) = valB 4294967296 (R0.take (k + 1)) + 4294967296 ^ (k + 1) * (hi + bb)) := ⟨by rw [valB_snoc, hS.out]; exact hst⟩
        have HS2 : As ((S ++ [d]).length = k + 1) := ⟨by simp [hS.out]⟩
        have HSl : As (∀ x ∈ S ++ [d], x < 4294967296) := ⟨snoc_lt hSl.out b9⟩
        have hkc : k < c2 := by omega
        have hkw : k < cw := by omega
        have hk3 : k < p + 3 := by omega
        have hki : (k : Int) < (p : Int) + 2 := by omega
        have hki3 : (k : Int) < (p : Int) + 3 := by omega
        have H8 := As.mk b8
        clear hre hye hq hT hlow hhi hst htm htr hMk hWv hD hP hu2e hRl hMl hX hR hM hV hS hSl b8
        go_wp2_with ((with_reducible refine g_store 109 ?_); go_must (refine ev_set rfl (by go_simp) B (u := d) (by go_simp; rfl) infoU Hlt.out (by rfl) ?_); intro w2 ho2 B2; rw [Hset.out] at B2)
        go_roundw
        case rel => exact ⟨k + 1, hi, bb, S ++ [d], by omega, hh4, b10, by go_num, by go_num, by go_num, HS2, HSl, Hst, ho.trans ho2, B2⟩
        case measure => simp [intOf]; omega
      · obtain rfl : k = p + 2 := by omega
        have hru : r = u2 := by rw [hre, hu2e]
        subst hru
        have hv := hV.out
        rw [List.take_of_length_le (by rw [hM]; exact Nat.le_refl _), ← hD] at hv
        rw [List.take_of_length_le (i := p + 2 + 1) (by rw [hR]; exact Nat.le_refl _), ← hWv] at htr
        have hnew := valB_lt 4294967296 (by omega) S hSl.out
        rw [hS.out] at hnew
        have hDle := valB_lt 4294967296 (by omega) M hMl
        rw [hM, ← hD] at hDle
        have hdrop : R0.drop (p + 2 + 1) = [] := List.drop_eq_nil_of_le (by rw [hR]; exact Nat.le_refl _)
        rw [hdrop, List.nil_append] at B
        simp only [hdrop, List.nil_append] at Hset Hlt
        obtain ⟨D1, Dd, d, bb, b1, b3, b4, b5, b6, b7, b8, b9, b10⟩ := borrow_step r cy br hr4 hcy hbr
        have hpw : p + 2 < cw := by omega
        rcases hgs.out with hg | hg
        · have hend := take_right (4294967296 ^ (p + 2)) D Wv r (valB 4294967296 S) (valB 4294967296 (R0.take (p + 2))) cy br gs hnew (by omega) hv htr hg HD0.out
          obtain rfl : bb = 0 := by omega
          obtain rfl : d = 0 := by omega
          have Hend : As ((S ++ [0]).length = p + 3 ∧ (∀ x ∈ S ++ [0], x < 4294967296) ∧ valB 4294967296 (S ++ [0]) = Wv % D) := ⟨by simp [hS.out], snoc_lt hSl.out (by omega), by rw [valB_snoc, Nat.mul_zero, Nat.add_zero]; exact hend.2⟩
          have Hg := As.mk hg
          have H8 := As.mk b8
          clear hre hv htr hnew hDle hdrop hg hend hWv hD hP hu2e hRl hMl hX hR hM hV hS hSl b8 hgs
          go_wp2_with ((with_reducible refine g_store 128 ?_); go_must (refine ev_set rfl (by go_simp) B (u := 0) (by go_simp; rfl) infoU Hlt.out (by rfl) ?_); intro w2 ho2 B2; rw [Hset.out] at B2)
          go_ret
          exact ⟨by rw [← Hg.out]; rfl, ho.trans ho2, S ++ [0], Hend.out.1, Hend.out.2.1, Hend.out.2.2, B2⟩
        · have hend := take_over (4294967296 ^ (p + 2)) D Wv r (valB 4294967296 S) (valB 4294967296 (R0.take (p + 2))) cy br gs hnew (by omega) hv htr hg HD0.out
          obtain rfl : bb = 1 := by omega
          have Hd1 : As (d = 4294967295) := ⟨by omega⟩
          obtain ⟨e, hee⟩ : ∃ e, e = Wv / D := ⟨_, rfl⟩
          rw [← hee] at hg
          subst hg
          have He := As.mk hee
          have Hend := As.mk hend.2
          have Hmod := As.mk (Nat.mod_lt Wv HD0.out)
          have HDle := As.mk (Nat.le_of_lt hDle)
          have Hdef2 := As.mk (And.intro hD (And.intro hMl (And.intro hX (And.intro hM (And.intro hS.out hSl.out)))))
          have H8 := As.mk b8
          clear hre hv htr hnew hDle hdrop hend hWv hD hP hu2e hRl hMl hX hR hM hV hS hSl b8 hgs hee
          go_wp2_with ((with_reducible refine g_store 128 ?_); go_must (refine ev_set rfl (by go_simp) B (u := d) (by go_simp; rfl) infoU Hlt.out (by rfl) ?_); intro w2 ho2 B2; rw [Hset.out] at B2)
          replace ho := ho.trans ho2
          clear B ho2 hcellR
          go_loopw [136, 15, 16, 10] (fun v _ _ u wr => ∃ (k cy : Nat) (S2 : List Nat), k ≤ p + 2 ∧ cy ≤ 1 ∧ v = .int .i64 (k : Int) ∧ u = .int .u64 (cy : Int) ∧ As (S2.length = k) ∧ As (∀ x ∈ S2, x < 4294967296) ∧ As (valB 4294967296 S2 + 4294967296 ^ k * cy = valB 4294967296 (M.take k) + valB 4294967296 (S.take k)) ∧ Only g w wr ∧ Blk wr g ((X ++ (S2 ++ (S.drop k ++ (d :: Y)))).map valU) 62) (fun v _ _ _ _ => p + 2 - (intOf v).toNat)
          case atStart => exact ⟨0, 0, [], by omega, by omega, rfl, rfl, ⟨rfl⟩, ⟨fun x hx => (nomatch hx)⟩, ⟨by simp [valB]⟩, ho, by simpa using B2⟩
          case round =>
            clear B2 ho
            obtain ⟨k, cy, S2, hk, hcy, rfl, rfl, hS2, hSl2, hV2, ho, B⟩ := hrel
            obtain ⟨hD, hMl, hX, hM, hS, hSl⟩ := Hdef2.out
            by_cases h : k < p + 2
            · have hMk : k < M.length := by rw [hM]; exact h
              have hSk : k < S.length := by rw [hS]; exact h
              have hcellM := CM.out _ ho k hMk
              have hy4 : M.getD k 0 < 4294967296 := getD_lt 4294967296 (by omega) M hMl k
              have ha4 : S.getD k 0 < 4294967296 := getD_lt 4294967296 (by omega) S hSl k
              have hst := add_step 4294967296 (by omega) M S S2 k cy hS2.out hV2.out
              obtain ⟨y, hye⟩ : ∃ y, y = M.getD k 0 := ⟨_, rfl⟩
              obtain ⟨a, hae⟩ : ∃ a, a = S.getD k 0 := ⟨_, rfl⟩
              rw [← hye] at hcellM hy4
              rw [← hae] at ha4
              rw [← hye, ← hae] at hst
              rw [drop_cons_of_lt S k hSk, ← getD_of_lt hSk, ← hae, List.cons_append] at B
              have hcellR := Blk.mid B hX hS2.out
              have Hset := As.mk (fun v => mid_set X S2 (S.drop (k + 1) ++ (d :: Y)) a v i k hX hS2.out)
              have Hlt := As.mk (mid_lt X S2 (S.drop (k + 1) ++ (d :: Y)) a i k hX hS2.out)
              obtain ⟨T, hT⟩ : ∃ T, T = y + a + cy := ⟨_, rfl⟩
              rw [← hT] at hst
              have e0 : (cy : Int) + ((a : Int) + (y : Int)) = (T : Int) := by omega
              have hTb : T < 8589934592 := by omega
              obtain ⟨low, hlow⟩ : ∃ low, low = T % 4294967296 := ⟨_, rfl⟩
              obtain ⟨hi, hhi⟩ : ∃ hi, hi = T / 4294967296 := ⟨_, rfl⟩
              rw [← hlow, ← hhi] at hst
              have hl4 : low < 4294967296 := by omega
              have hh4 : hi ≤ 1 := by omega
              have e1 : IntKind.u32.wrap (T : Int) = (low : Int) := by rw [hlow]; simp [IntKind.wrap, IntKind.bits, IntKind.signed]
              have eh : (T : Int) / 4294967296 = (hi : Int) := by rw [hhi]; rfl
              have Hst := As.mk hst
              have HS2 : As ((S2 ++ [low]).length = k + 1) := ⟨by simp [hS2.out]⟩
              have HSl2 : As (∀ x ∈ S2 ++ [low], x < 4294967296) := ⟨snoc_lt hSl2.out hl4⟩
              have hkc : k < c2 := by omega
              have hkw : k < cw := by omega
              have hk3 : k < p + 3 := by omega
              have hki : (k : Int) < (p : Int) + 2 := by omega
              have hki3 : (k : Int) < (p : Int) + 3 := by omega
              clear hye hae hT hlow hhi hst hMk hSk hD hMl hX hM hS hSl hS2 hSl2 hV2
              go_wp2_with ((with_reducible refine g_store 155 ?_); go_must (refine ev_set rfl (by go_simp) B (u := low) (by go_simp; rfl) infoU Hlt.out (by rfl) ?_); intro w4 ho4 B4; rw [Hset.out] at B4)
              go_roundw
              case rel => exact ⟨k + 1, hi, S2 ++ [low], by omega, hh4, by go_num, by go_num, HS2, HSl2, Hst, ho.trans ho4, B4⟩
              case measure => simp [intOf]; omega
            · obtain rfl : k = p + 2 := by omega
              have hv := hV2.out
              rw [List.take_of_length_le (by rw [hM]; exact Nat.le_refl _), List.take_of_length_le (by rw [hS]; exact Nat.le_refl _), ← hD, Nat.add_comm D] at hv
              have hlt2 := valB_lt 4294967296 (by omega) S2 hSl2.out
              rw [hS2.out] at hlt2
              have hbe := back_end (4294967296 ^ (p + 2)) D (Wv % D) (valB 4294967296 S) (valB 4294967296 S2) cy hlt2 hv Hend.out Hmod.out HDle.out
              obtain rfl : cy = 1 := hbe.1
              rw [List.drop_eq_nil_of_le (by rw [hS]; exact Nat.le_refl _), List.nil_append] at B
              have hcellR := Blk.mid B hX hS2.out
              have Hset := As.mk (fun v => mid_set X S2 Y d v i (p + 2) hX hS2.out)
              have Hlt := As.mk (mid_lt X S2 Y d i (p + 2) hX hS2.out)
              have Hfin : As ((S2 ++ [0]).length = p + 3 ∧ (∀ x ∈ S2 ++ [0], x < 4294967296) ∧ valB 4294967296 (S2 ++ [0]) = Wv % D) := ⟨by simp [hS2.out], snoc_lt hSl2.out (by omega), by rw [valB_snoc, Nat.mul_zero, Nat.add_zero]; exact hbe.2⟩
              have ew : IntKind.u32.wrap ((d : Int) + 1) = 0 := by rw [Hd1.out]; decide
              clear hv hlt2 hbe hD hMl hX hM hS hSl hS2 hSl2 hV2
              go_wp2_with ((with_reducible refine g_store 166 ?_); go_must (refine ev_set rfl (by go_simp) B (u := 0) (by go_simp; rfl) infoU Hlt.out (by rfl) ?_); intro w4 ho4 B4; rw [Hset.out] at B4)
              go_ret
              exact ⟨by rw [← He.out]; rfl, ho.trans ho4, S2 ++ [0], Hfin.out.1, Hfin.out.2.1, Hfin.out.2.2, B4⟩
end Go.Proofs.YtigoofeodbbbhaaDoor
/- nat.Div: of any numbers. -/
namespace Go.Proofs.YtigoofeodbbbhaaDoor
open Go.RowKit Go.Proofs.YtigoofeodbbbhaaDoorL Go.Proofs.YtigoofeodbbbhaaDoorM
set_option linter.unusedVariables false
set_option linter.unusedSimpArgs false
/-- one round of the long division, told in numbers -/
theorem div_round (N qs : List Nat) (i p nq D A : Nat) (hN : N.length = p + 2 + nq) (hNl : ∀ x ∈ N, x < 4294967296) (hi : i < nq) (hD : D < 4294967296 ^ (p + 2)) (hlt : valB 4294967296 (N.drop (i + 1)) < D) (hv : D * valB 4294967296 (List.replicate (i + 1) 0 ++ qs) + valB 4294967296 N = A) :
    ∃ X R0 Y : List Nat, N = X ++ (R0 ++ Y) ∧ X.length = i ∧ R0.length = p + 3 ∧ (∀ x ∈ R0, x < 4294967296) ∧ valB 4294967296 R0 < 4294967296 * D ∧ valB 4294967296 R0 / D < 4294967296 ∧
      ∀ R : List Nat, R.length = p + 3 → (∀ x ∈ R, x < 4294967296) → valB 4294967296 R = valB 4294967296 R0 % D →
        (X ++ (R ++ Y)).length = p + 2 + nq ∧ (∀ x ∈ X ++ (R ++ Y), x < 4294967296) ∧ valB 4294967296 ((X ++ (R ++ Y)).drop i) < D ∧ D * valB 4294967296 (List.replicate i 0 ++ (valB 4294967296 R0 / D :: qs)) + valB 4294967296 (X ++ (R ++ Y)) = A := by
  have hD0 : 0 < D := by omega
  refine ⟨N.take i, (N.drop i).take (p + 3), (N.drop i).drop (p + 3), by rw [List.take_append_drop, List.take_append_drop], by rw [List.length_take]; omega, by rw [List.length_take, List.length_drop]; omega, fun x hx => hNl x (List.mem_of_mem_drop (List.mem_of_mem_take hx)), ?_⟩
  have hX : (N.take i).length = i := by rw [List.length_take]; omega
  have hR : ((N.drop i).take (p + 3)).length = p + 3 := by rw [List.length_take, List.length_drop]; omega
  have hYn : ((N.drop i).drop (p + 3)).length = p + 2 + nq - (i + (p + 3)) := by rw [List.length_drop, List.length_drop]; omega
  have hYl : ∀ x ∈ (N.drop i).drop (p + 3), x < 4294967296 := fun x hx => hNl x (List.mem_of_mem_drop (List.mem_of_mem_drop hx))
  have hXl : ∀ x ∈ N.take i, x < 4294967296 := fun x hx => hNl x (List.mem_of_mem_take hx)
  have hsplit : valB 4294967296 (N.drop i) = valB 4294967296 ((N.drop i).take (p + 3)) + 4294967296 ^ (p + 3) * valB 4294967296 ((N.drop i).drop (p + 3)) := by
    have := valB_split 4294967296 (N.drop i) (p + 3)
    rwa [hR] at this
  obtain ⟨x, hx⟩ : ∃ x, x = N.getD i 0 := ⟨_, rfl⟩
  have hcons : valB 4294967296 (N.drop i) = x + 4294967296 * valB 4294967296 (N.drop (i + 1)) := by
    rw [hx, getD_of_lt (show i < N.length by omega), drop_cons_of_lt N i (by omega), valB_cons]
  have hNi : x < 4294967296 := by rw [hx]; exact getD_lt 4294967296 (by omega) N hNl i
  clear hx
  have hN0 : valB 4294967296 N = valB 4294967296 (N.take i) + 4294967296 ^ i * valB 4294967296 (N.drop i) := by
    have := valB_split 4294967296 N i
    rwa [hX] at this
  have hrep : ∀ k (l : List Nat), valB 4294967296 (List.replicate k 0 ++ l) = 4294967296 ^ k * valB 4294967296 l := fun k l => by
    rw [valB_append, valB_zeros, List.length_replicate, Nat.zero_add]
  rw [hrep] at hv
  generalize N.take i = X at *
  generalize (N.drop i).take (p + 3) = R0 at *
  generalize (N.drop i).drop (p + 3) = Y at *
  generalize valB 4294967296 (N.drop i) = W at *
  generalize valB 4294967296 (N.drop (i + 1)) = W1 at *
  have hW : W < 4294967296 * D := by
    have : 4294967296 * (W1 + 1) ≤ 4294967296 * D := Nat.mul_le_mul_left _ hlt
    omega
  have hY0 : valB 4294967296 Y = 0 := by
    rcases Nat.eq_zero_or_pos (valB 4294967296 Y) with h | h
    · exact h
    · exfalso
      have h1 : 4294967296 ^ (p + 3) * 1 ≤ 4294967296 ^ (p + 3) * valB 4294967296 Y := Nat.mul_le_mul_left _ h
      have h2 : 4294967296 * D < 4294967296 * 4294967296 ^ (p + 2) := Nat.mul_lt_mul_of_pos_left hD (by omega)
      have h3 : (4294967296 : Nat) ^ (p + 3) = 4294967296 * 4294967296 ^ (p + 2) := by rw [Nat.pow_succ, Nat.mul_comm]
      omega
  rw [hY0, Nat.mul_zero, Nat.add_zero] at hsplit
  rw [← hsplit]
  refine ⟨hW, (Nat.div_lt_iff_lt_mul hD0).2 hW, fun R hRl hRd hRv => ?_⟩
  have hRY : valB 4294967296 (R ++ Y) = W % D := by rw [valB_append, hY0, Nat.mul_zero, Nat.add_zero, hRv]
  refine ⟨?_, ?_, ?_, ?_⟩
  · simp only [List.length_append]; omega
  · intro y hy
    rcases List.mem_append.1 hy with h | h
    · exact hXl y h
    · rcases List.mem_append.1 h with h | h
      · exact hRd y h
      · exact hYl y h
  · rw [← hX, List.drop_left, hRY]; exact Nat.mod_lt _ hD0
  · rw [hrep, valB_cons, valB_append, hX, hRY]
    have h1 := quot_step 4294967296 i A D (valB 4294967296 X) W (4294967296 ^ (i + 1) * valB 4294967296 qs) (W % D) (by rw [← hN0]; exact hv) rfl
    rw [← h1]
    congr 2
    rw [Nat.mul_add, Nat.pow_succ, ← Nat.mul_assoc]; omega
theorem top_ge (M : List Nat) (p D : Nat) (hM : M.length = p + 2) (hMl : ∀ x ∈ M, x < 4294967296) (hv : valB 4294967296 M = D) (h : 2147483648 * 4294967296 ^ (p + 1) ≤ D) : 4294967296 ≤ 2 * M.getD (p + 1) 0 := by
  have h2 := valB_take_succ 4294967296 M (p + 1)
  rw [List.take_of_length_le (by omega), hv] at h2
  have h3 := valB_lt 4294967296 (by omega) (M.take (p + 1)) (fun x hx => hMl x (List.mem_of_mem_take hx))
  rw [List.length_take, Nat.min_eq_left (by omega)] at h3
  have h4 : 4294967296 ^ (p + 1) * 2147483648 < 4294967296 ^ (p + 1) * (M.getD (p + 1) 0 + 1) := by
    rw [Nat.mul_comm _ 2147483648, Nat.mul_add, Nat.mul_one]; omega
  have := Nat.lt_of_mul_lt_mul_left h4
  omega
theorem digitF (N : List Nat) (M : List Nat) (i p nq g : Nat) (A2 : Option Addr) (cw c2 D A : Nat) (qs : List Nat) (w : World) (B : Blk w g (N.map valU) 62) (hN : N.length = p + 2 + nq) (hNl : ∀ x ∈ N, x < 4294967296) (hi : i < nq)
    (hr2 : Rd encU 1 w A2 M) (hM : M.length = p + 2) (hMl : ∀ x ∈ M, x < 4294967296) (hMv : valB 4294967296 M = D) (hne : ∀ b ∈ addrBlock A2, b ≠ g) (hc2 : p + 2 ≤ c2) (hcw : p + 3 ≤ cw) (hp : p ≤ 4398046511104) (hn : 2147483648 * 4294967296 ^ (p + 1) ≤ D) (hD : D < 4294967296 ^ (p + 2))
    (hlt : valB 4294967296 (N.drop (i + 1)) < D) (hv : D * valB 4294967296 (List.replicate (i + 1) 0 ++ qs) + valB 4294967296 N = A) :
    Calls Tryd.prog 79 #[.slice (some ⟨g, i, none⟩) (p + 3) cw, .slice A2 (p + 2) c2] w fun e w' => ∃ (dq : Nat) (N2 : List Nat), e = .returned (.int .u32 (dq : Int)) ∧ dq < 4294967296 ∧ Only g w w' ∧ Blk w' g (N2.map valU) 62 ∧ N2.length = p + 2 + nq ∧ (∀ x ∈ N2, x < 4294967296) ∧ valB 4294967296 (N2.drop i) < D ∧ D * valB 4294967296 (List.replicate i 0 ++ (dq :: qs)) + valB 4294967296 N2 = A := by
  obtain ⟨X, R0, Y, rfl, hX, hR, hRl, hW, hq, hstep⟩ := div_round N qs i p nq D A hN hNl hi hD hlt hv
  refine (digit_any X R0 Y M i p g A2 cw c2 w B hX hR hRl hr2 hM hMl hne hc2 hcw hp (top_ge M p D hM hMl hMv hn) (by rw [hMv]; exact hW)).mono ?_
  rintro e w' ⟨rfl, ho, R, h1, h2, h3, hB⟩
  rw [hMv] at h3 ⊢
  obtain ⟨k1, k2, k3, k4⟩ := hstep R h1 h2 h3
  exact ⟨_, _, rfl, hq, ho, hB, k1, k2, k3, k4⟩
set_option maxRecDepth 8000 in
set_option maxHeartbeats 4000000 in
theorem natDivG_any (l m : List Nat) (A A2 : Option Addr) (c c2 : Nat) (w : World) (h : Lim w A c l) (h2 : Lim w A2 c2 m) (hle : valB 4294967296 m ≤ valB 4294967296 l) (h1 : 4294967296 ≤ valB 4294967296 m) :
    Calls Tryd.prog 50 #[.slice A l.length c, .slice A2 m.length c2] w (Gives w fun v w' => DivTo w.heap.size w' v (valB 4294967296 l) (valB 4294967296 m)) := by
  obtain ⟨V, hV⟩ : ∃ V, V = valB 4294967296 l := ⟨_, rfl⟩
  obtain ⟨U, hU⟩ : ∃ U, U = valB 4294967296 m := ⟨_, rfl⟩
  rw [← hU] at h1
  rw [← hV, ← hU] at hle ⊢
  obtain ⟨L, hL⟩ : ∃ L, L = digB 4294967296 V := ⟨_, rfl⟩
  obtain ⟨M, hM⟩ : ∃ M, M = digB 4294967296 U := ⟨_, rfl⟩
  have htl : trimL l = L := by rw [hL, hV]; exact trimL_dig 4294967296 (by omega) l h.lt
  have htm : trimL m = M := by rw [hM, hU]; exact trimL_dig 4294967296 (by omega) m h2.lt
  have hLle : L.length ≤ l.length := by rw [← htl]; exact trimL_le l
  have hMle : M.length ≤ m.length := by rw [← htm]; exact trimL_le m
  have hlm := h.max
  have hmm := h2.max
  have hlc := h.cap
  have hmc := h2.cap
  have hrL : Rd encU 1 w A L := by have := Rd.trim h.rd; rwa [htl] at this
  have hrM : Rd encU 1 w A2 M := by have := Rd.trim h2.rd; rwa [htm] at this
  have hVL : valB 4294967296 L = V := by rw [hL]; exact digB_val _ (by omega) V
  have hUM : valB 4294967296 M = U := by rw [hM]; exact digB_val _ (by omega) U
  have hLl : ∀ x ∈ L, x < 4294967296 := by rw [hL]; exact digB_lt _ (by omega) V
  have hMl : ∀ x ∈ M, x < 4294967296 := by rw [hM]; exact digB_lt _ (by omega) U
  have hM2 : 2 ≤ M.length := by rw [hM]; exact digB_len_ge 4294967296 (by omega) 1 U (by simpa using h1)
  have hML : M.length ≤ L.length := by rw [hL, hM]; exact digB_mono8 4294967296 (by omega) hle
  obtain ⟨p, hp⟩ : ∃ p, M.length = p + 2 := ⟨M.length - 2, by omega⟩
  obtain ⟨nq, hnq⟩ : ∃ nq, L.length + 1 = p + 2 + nq := ⟨L.length + 1 - (p + 2), by omega⟩
  obtain ⟨La, hLa⟩ : ∃ La, La = L.length := ⟨_, rfl⟩
  -- the top limb and its leading zeros
  have hMne : M ≠ [] := fun e => by rw [e] at hM2; simp at hM2
  obtain ⟨x, hx⟩ : ∃ x, x = M[p + 1]'(by omega) := ⟨_, rfl⟩
  have hx4 : x < 4294967296 := by rw [hx]; exact hMl _ (List.getElem_mem _)
  have hbits : bitN U = 32 * (p + 1) + bitN x := by
    have hk := bitN_limbs 32 U (by omega) (by rw [show (2 : Nat) ^ 32 = 4294967296 from rfl, ← hM]; exact hMne)
    simp only [show (2 : Nat) ^ 32 = 4294967296 from rfl, ← hM] at hk
    rw [hk, hp, show p + 2 - 1 = p + 1 by omega, List.getLast_eq_getElem, hx]
    simp only [hp, show p + 2 - 1 = p + 1 by omega]
  have hxb : bitN x ≤ 32 := digB_len_lt 2 (by omega) 32 x (by omega)
  have hx0 : x ≠ 0 := by
    have := digB_canon 4294967296 (by omega) U
    rw [← hM] at this
    exact this x (by rw [List.getLast?_eq_getElem?, hp, show p + 2 - 1 = p + 1 by omega, List.getElem?_eq_getElem (show p + 1 < M.length by omega), hx])
  have hxb1 : bitN x ≠ 0 := by rw [Ne, bitN_eq_zero]; exact hx0
  obtain ⟨n, hn⟩ : ∃ n, n = 32 - bitN x := ⟨_, rfl⟩
  have hn32 : n < 32 := by omega
  have hnorm := norm_top U n (p + 1) (by rw [hbits]; omega) hn32 (by omega)
  obtain ⟨D, hD⟩ : ∃ D, D = U * 2 ^ n := ⟨_, rfl⟩
  obtain ⟨AA, hAA⟩ : ∃ AA, AA = V * 2 ^ n := ⟨_, rfl⟩
  rw [← hD] at hnorm
  have hpn : 0 < 2 ^ n := Nat.pow_pos (by omega)
  have Hdiv : As (AA / D = V / U ∧ AA % D / 2 ^ n = V % U) := ⟨by rw [hAA, hD]; exact Nat.mul_div_mul_right _ _ hpn, by rw [hAA, hD, Nat.mul_mod_mul_right]; exact Nat.mul_div_cancel _ hpn⟩
  have Hlz : As (∀ w1, Calls Tryd.prog 77 #[.int .u32 x] w1 fun e w' => e = .returned (.int .i64 (n : Int)) ∧ w' = w1) := ⟨fun w1 => by
    have := Tryd.bits_LeadingZeros32 (x : Int) w1 (by omega) (by omega)
    rw [Int.toNat_natCast, bitLen_bitN x (by omega), show ((32 : Int) - (bitN x : Int)) = (n : Int) by omega] at this
    exact this⟩
  have T1 := As.mk (trimN_any l L A c w htl h.rd h.cap (by omega))
  have T2 := As.mk (trimN_any m M A2 c2 w htm h2.rd h2.cap (by omega))
  have hcmp := natCmp_any L M A A2 c c2 w hrL hrM ⟨hLl, hMl⟩ (by omega) (by omega) (by omega) (by omega)
  rw [hVL, hUM] at hcmp
  have hge := cmpN_nonneg hle
  have hcr := cmpN_range V U
  obtain ⟨cv, hcv⟩ : ∃ cv, cv = cmpN V U := ⟨_, rfl⟩
  rw [← hcv] at hcmp hge hcr
  have HL := As.mk (fun w1 (hb : Below w.heap.size w w1) => left_any L A c n La w1 (hrL.below hb) hLl hn32 hLa.symm (by omega) (by omega))
  have HM := As.mk (fun w1 (hb : Below w.heap.size w w1) => left_any M A2 c2 n (p + 2) w1 (hrM.below hb) hMl hn32 hp (by omega) (by omega))
  rw [hVL, ← hAA] at HL
  rw [hUM, ← hD] at HM
  obtain ⟨b, off, rfl⟩ := h2.rd.get (ne_nil_of_lt (i := 0) (by omega))
  have Hcl : As (∀ w1, Below w.heap.size w w1 → w1.cell? ⟨b, off + (p + 1), none⟩ = some (.int .u32 (x : Nat))) := ⟨fun w1 hb => by rw [hx]; exact Rd.u (hrM.below hb) (p + 1) (by omega)⟩
  have hlenM : (digB 4294967296 D).length = p + 2 := by
    have a1 := digB_len_lt 4294967296 (by omega) (p + 1 + 1) D hnorm.2
    have a2 := digB_len_ge 4294967296 (by omega) (p + 1) D (by have := hnorm.1; generalize 4294967296 ^ (p + 1) = P at *; omega)
    omega
  obtain ⟨M2, hM2e⟩ : ∃ M2, M2 = digB 4294967296 D := ⟨_, rfl⟩
  have HM2 : As (M2 = digB 4294967296 D ∧ M2.length = p + 2 ∧ (∀ x ∈ M2, x < 4294967296) ∧ valB 4294967296 M2 = D) := ⟨hM2e, by rw [hM2e]; exact hlenM, by rw [hM2e]; exact digB_lt _ (by omega) D, by rw [hM2e]; exact digB_val _ (by omega) D⟩
  rw [hp] at T2 hcmp
  rw [← hLa] at T1 hcmp hnq hLle hML
  have HC := As.mk hcmp
  have Hnq := As.mk hnq
  have Hnorm := As.mk hnorm
  have HAA : As (AA < 4294967296 ^ La * 2147483648) := ⟨by
    have hlt := valB_lt 4294967296 (by omega) L hLl
    rw [hVL, ← hLa] at hlt
    have h5 : 2 ^ n ≤ 2147483648 := Nat.le_trans (Nat.pow_le_pow_right (by omega) (show n ≤ 31 by omega)) (by decide)
    rw [hAA]
    exact Nat.mul_lt_mul_of_lt_of_le hlt h5 (by omega)⟩
  have en : ((La : Int) + 1 - ((p : Int) + 2)) = (nq : Int) := by omega
  have hnqb : nq ≤ 4398046511104 := by omega
  have hpb : p ≤ 4398046511104 := by omega
  have hLab : La ≤ 274877906944 := by omega
  have hpc : p + 1 < c2 := by omega
  have hM0 : ((p : Int) + 2 == 0) = false := by simp; omega
  have hM1 : ((p : Int) + 2 == 1) = false := by simp; omega
  have ez1 : ((p : Int) + 2 - 1) = (p : Int) + 1 := by omega
  have hnq1 : 1 ≤ nq := by omega
  clear htl htm hV hU hL hM hcmp hle hVL hUM hLl hMl hcv hLa hp hx hbits hnorm hD hAA hn hM2e hlenM hnq hpn hML hMle hlm hmm hlc hmc h h2 hxb hxb1 hx0 hMne hM2 h1 hrL hrM hLle
  go_enter Tryd.func50, Tryd.ntmps50
  go_wp2_with (first
    | (go_at_call 73; (with_reducible refine T1.out.mono ?_); rintro e w1 ⟨rfl, rfl⟩)
    | (go_at_call 73; (with_reducible refine T2.out.mono ?_); rintro e w1 ⟨rfl, rfl⟩)
    | (go_at_call 74; (with_reducible refine HC.out.mono ?_); rintro e w1 ⟨v1, rfl, rfl, hb1⟩; have hcell := Hcl.out _ hb1)
    | (go_at_call 77; (with_reducible refine (Hlz.out _).mono ?_); rintro e w2 ⟨rfl, rfl⟩)
    | (go_at_call 78; (with_reducible refine (HL.out _ hb1).mono ?_); rintro e w3 ⟨v3, rfl, ⟨N0, ⟨g1, rfl, hg1, B1, hN1, hN2⟩, hNv⟩, hb3⟩; replace hg1 := Nat.le_trans hb1.size hg1; replace hb3 := bthen hb1 hb3; clear hcell; have Hn0 := As.mk (And.intro hN1 (And.intro hN2 hNv)); clear hN1 hN2 hNv)
    | (go_at_call 78; (with_reducible refine (HM.out _ hb3).mono ?_); rintro e w4 ⟨v4, rfl, ⟨LB, ⟨g2, rfl, hg2, B2, hK1, hK2⟩, hKv⟩, hb4⟩; have hne12 : g1 ≠ g2 := Nat.ne_of_lt (Nat.lt_of_lt_of_le B1.lt hg2); replace B1 := B1.below hb4; replace hg2 := Nat.le_trans hb3.size hg2; replace hb4 := bthen hb3 hb4; have T3 := As.mk (trimN_any LB M2 (some ⟨g2, 0, none⟩) (p + 2 + 1) w4 (by rw [trimL_dig 4294967296 (by omega) LB hK2, hKv, HM2.out.1]) (B2.rdm encU_one) (by rw [hK1]; exact Nat.le_refl _) (by rw [hK1]; omega)); have HrB : Rd encU 1 w4 (some ⟨g2, 0, none⟩) M2 := (by have := Rd.trim (B2.rdm encU_one); rwa [trimL_dig 4294967296 (by omega) LB hK2, hKv, ← HM2.out.1] at this); rw [hK1, HM2.out.2.1] at T3; clear hK1 hK2 hKv)
    | (go_at_call 73; (with_reducible refine T3.out.mono ?_); rintro e w5 ⟨rfl, rfl⟩)
    | ((with_reducible refine g_dst 63 ?_); go_must (refine ev_make 63 rfl Tryd.underlying24 infoU rfl (n := nq) rfl rfl (by omega) (by omega) ?_); intro g3 w6 hb6 B3 hg3))
  have hne13 : g1 ≠ g3 := Nat.ne_of_lt (Nat.lt_of_lt_of_le B1.lt hg3)
  have hne23 : g2 ≠ g3 := Nat.ne_of_lt (Nat.lt_of_lt_of_le B2.lt hg3)
  replace B1 := B1.below hb6
  replace HrB := HrB.below hb6
  replace hg3 := Nat.le_trans hb4.size hg3
  replace hb6 := bthen hb4 hb6
  have Hstart : As (N0.length = p + 2 + nq ∧ valB 4294967296 (N0.drop nq) < D) := ⟨by rw [Hn0.out.1]; exact Hnq.out, by
    have h1 := valB_split 4294967296 N0 nq
    have h2 : (N0.take nq).length = nq := by rw [List.length_take, Hn0.out.1]; have := Hnq.out; omega
    rw [h2, Hn0.out.2.2] at h1
    have h3 : 4294967296 ^ nq * valB 4294967296 (N0.drop nq) < 4294967296 ^ nq * (2147483648 * 4294967296 ^ (p + 1)) := by
      have h4 := HAA.out
      rw [show La = nq + (p + 1) by have := Hnq.out; omega, Nat.pow_add, Nat.mul_assoc, Nat.mul_comm _ 2147483648] at h4
      omega
    exact Nat.lt_of_lt_of_le (Nat.lt_of_mul_lt_mul_left h3) Hnorm.out.1⟩
  have hnqi : p + 2 + nq ≤ La + 1 := by have := Hnq.out; omega
  clear hM0 hM1 hge hcr ez1 hb1 hb3 hb4 B2
  go_loopw [12] (fun v wr => ∃ (k : Nat) (N qs : List Nat), k ≤ nq ∧ v = .int .i64 ((k : Int) - 1) ∧ As (N.length = p + 2 + nq) ∧ As (∀ x ∈ N, x < 4294967296) ∧ As (qs.length = nq - k) ∧ As (∀ x ∈ qs, x < 4294967296) ∧ As (valB 4294967296 (N.drop k) < D) ∧ As (D * valB 4294967296 (List.replicate k 0 ++ qs) + valB 4294967296 N = AA) ∧ Below w.heap.size w wr ∧ Blk wr g1 (N.map valU) 62 ∧ Rd encU 1 wr (some ⟨g2, 0, none⟩) M2 ∧ Blk wr g3 ((List.replicate k 0 ++ qs).map valU) 62) (fun v _ => (intOf v + 1).toNat)
  case atStart => exact ⟨nq, N0, [], Nat.le_refl _, by go_num, ⟨Hstart.out.1⟩, ⟨Hn0.out.2.1⟩, ⟨by simp⟩, ⟨fun x hx => (nomatch hx)⟩, ⟨Hstart.out.2⟩, ⟨by rw [List.append_nil, valB_zeros, Nat.mul_zero, Nat.zero_add]; exact Hn0.out.2.2⟩, hb6, B1, HrB, by simpa [valU] using B3⟩
  case round =>
    clear B1 HrB B3 hb6 Hstart
    obtain ⟨k, N, qs, hk, rfl, hN, hNl, hql, hqd, hlt, hv, hb, B1, HrB, B3⟩ := hrel
    cases k with
    | zero =>
      rw [List.replicate_zero, List.nil_append] at B3
      have hv' := hv.out
      rw [List.replicate_zero, List.nil_append] at hv'
      have hlt' := hlt.out
      rw [List.drop_zero] at hlt'
      have hmod : valB 4294967296 N = AA % D := by
        rw [← hv', Nat.mul_add_mod, Nat.mod_eq_of_lt hlt']
      have hdv : valB 4294967296 qs = AA / D := by
        rw [← hv', Nat.mul_add_div (by omega), Nat.div_eq_of_lt hlt', Nat.add_zero]
      have hqn : qs.length = nq := by have := hql.out; omega
      have hrq := B3.rdm encU_one
      have T5 := As.mk (trim_n qs nq hqn (some ⟨g3, 0, none⟩) nq wr hrq (Nat.le_refl _) (by omega))
      have hQ : As (trimL qs = digB 4294967296 (V / U)) := ⟨by rw [trimL_dig 4294967296 (by omega) qs hqd.out, hdv, Hdiv.out.1]⟩
      have HR := As.mk (right_any N (some ⟨g1, 0, none⟩) (La + 1) n (La + 1) wr (B1.rdm encU_one) hNl.out hn32 (by rw [hN.out]; exact Hnq.out.symm) (Nat.le_refl _) (by omega))
      rw [hmod, Hdiv.out.2] at HR
      have HO := As.mk (B3.ow (base := w.heap.size) encU_one hg3 (by rw [hqn]; simp only [maxLen]; omega) (trimL qs).length (trimL_le _))
      rw [← trimL_take, hQ.out, hqn] at HO
      rw [hQ.out] at T5
      clear hv' hlt' hmod hdv hqn hrq
      go_wp2_with (first
        | (go_at_call 73; (with_reducible refine T5.out.mono ?_); rintro e w7 ⟨rfl, rfl⟩)
        | (go_at_call 80; (with_reducible refine HR.out.mono ?_); rintro e w8 ⟨v8, rfl, ⟨LR, ⟨g8, rfl, hg8, B8, h81, h82⟩, h83⟩, hb8⟩; have T6 := As.mk (trim_n LR (La + 1) h81 (some ⟨g8, 0, none⟩) (La + 1) w8 (B8.rdm encU_one) (Nat.le_refl _) (by omega)); have HO2 := As.mk (B8.ow (base := w.heap.size) encU_one (Nat.le_trans hb.size hg8) (by rw [h81]; simp only [maxLen]; omega) (trimL LR).length (trimL_le _)); rw [← trimL_take, trimL_dig 4294967296 (by omega) LR h82, h83, h81] at HO2; rw [trimL_dig 4294967296 (by omega) LR h82, h83] at T6; clear h81 h82 h83)
        | (go_at_call 73; (with_reducible refine T6.out.mono ?_); rintro e w9 ⟨rfl, rfl⟩))
      go_ret3
      exact ⟨_, rfl, ⟨_, _, rfl, HO.out.below hb8, HO2.out⟩, bthen hb hb8⟩
    | succ i =>
      have Hdig : As (∀ (cw ln : Nat) (hln : ln = p + 3) (hcw : p + 3 ≤ cw), Calls Tryd.prog 79 #[.slice (some ⟨g1, i, none⟩) ln cw, .slice (some ⟨g2, 0, none⟩) (p + 2) (p + 2 + 1)] wr fun e w' => ∃ (dq : Nat) (N2 : List Nat), e = .returned (.int .u32 (dq : Int)) ∧ dq < 4294967296 ∧ Only g1 wr w' ∧ Blk w' g1 (N2.map valU) 62 ∧ N2.length = p + 2 + nq ∧ (∀ x ∈ N2, x < 4294967296) ∧ valB 4294967296 (N2.drop i) < D ∧ D * valB 4294967296 (List.replicate i 0 ++ (dq :: qs)) + valB 4294967296 N2 = AA) := ⟨fun cw ln hln hcw => by
        subst hln
        exact digitF N M2 i p nq g1 (some ⟨g2, 0, none⟩) cw (p + 2 + 1) D AA qs wr B1 hN.out hNl.out (by omega) HrB HM2.out.2.1 HM2.out.2.2.1 HM2.out.2.2.2 (fun b hb => by simp only [addrBlock, List.mem_singleton] at hb; subst hb; exact Ne.symm hne12) (by omega) hcw hpb Hnorm.out.1 Hnorm.out.2 hlt.out hv.out⟩
      have hsl : (i : Int) + ((p : Int) + 2) + 1 ≤ (La : Int) + 1 := by omega
      have hinq : i < nq := by omega
      have Hlen := As.mk (show i < (List.replicate (i + 1) 0 ++ qs).length by simp only [List.length_append, List.length_replicate]; omega)
      go_wp2_with (first
        | (go_at_call 79; (with_reducible refine (Hdig.out _ _ (by omega) (by omega)).mono ?_); rintro e w7 ⟨dq, N2, rfl, hdq, ho, B1', h71, h72, h73, h74⟩; have H7 := As.mk (And.intro h71 (And.intro h72 (And.intro h73 h74))); clear h71 h72 h73 h74; replace B3 := B3.only ho (Ne.symm hne13))
        | ((with_reducible refine g_store 83 ?_); go_must (refine ev_set rfl (by go_simp) B3 (u := dq) (by go_simp; rfl) infoU Hlen.out (by rfl) ?_); intro w8 ho8 B38; rw [fill_down] at B38; replace B1' := B1'.only ho8 hne13))
      go_roundw
      case rel => exact ⟨i, N2, dq :: qs, by omega, by go_num, ⟨H7.out.1⟩, ⟨H7.out.2.1⟩, ⟨by rw [List.length_cons, hql.out]; omega⟩, ⟨fun x hx => by
        rcases List.mem_cons.1 hx with rfl | hx
        · exact hdq
        · exact hqd.out x hx⟩, ⟨H7.out.2.2.1⟩, ⟨H7.out.2.2.2⟩, (hb.trans (ho.below hg1)).trans (ho8.below hg3), B1', Rd.keep HrB (fun _ b hb => by
          simp only [addrBlock, List.mem_singleton] at hb
          subst hb
          rw [ho8.block _ hne23, ho.block _ (Ne.symm hne12)]), B38⟩
      case measure => simp [intOf]
end Go.Proofs.YtigoofeodbbbhaaDoor
