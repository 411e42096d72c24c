/- Division of long numbers: shifting limbs up and down; the guess of one digit. Plain mathematics. -/
import Derived.Test.YtbdcjlikjpdhfaaDoorMath10
import Derived.Test.YtbdcjlikjpdhfaaDoorMath7
namespace Go.Proofs.YtbdcjlikjpdhfaaDoorM
set_option linter.unusedVariables false
set_option linter.unusedSimpArgs false
/-- a limb moved up: what stays in its place, or-ed with what came from below -/
theorem shl_or (n x t : Nat) (hn : n ≤ 32) (hx : x < 4294967296) (ht : t < 2 ^ n) : (x * 2 ^ n % 4294967296) ||| t = x * 2 ^ n % 4294967296 + t := by
  have e : x * 2 ^ n % 4294967296 = (x % 2 ^ (32 - n)) * 2 ^ n := by
    have h : (4294967296 : Nat) = 2 ^ (32 - n) * 2 ^ n := by rw [← Nat.pow_add, Nat.sub_add_cancel hn]
    rw [h, Nat.mul_mod_mul_right]
  rw [e, ← Nat.shiftLeft_eq, Nat.shiftLeft_add_eq_or_of_lt ht]
theorem shl_lt (n x t : Nat) (hn : n ≤ 32) (hx : x < 4294967296) (ht : t < 2 ^ n) : x * 2 ^ n % 4294967296 + t < 4294967296 ∧ x * 2 ^ n / 4294967296 < 2 ^ n := by
  have h : (4294967296 : Nat) = 2 ^ (32 - n) * 2 ^ n := by rw [← Nat.pow_add, Nat.sub_add_cancel hn]
  have hp : 0 < 2 ^ n := Nat.pow_pos (by omega)
  refine ⟨?_, ?_⟩
  · have e : x * 2 ^ n % 4294967296 = (x % 2 ^ (32 - n)) * 2 ^ n := by
      rw [h, Nat.mul_mod_mul_right]
    have h1 : x % 2 ^ (32 - n) < 2 ^ (32 - n) := Nat.mod_lt _ (Nat.pow_pos (by omega))
    have h2 : (x % 2 ^ (32 - n) + 1) * 2 ^ n ≤ 2 ^ (32 - n) * 2 ^ n := Nat.mul_le_mul_right _ h1
    rw [Nat.add_mul, Nat.one_mul, ← h] at h2
    rw [e]; omega
  · rw [Nat.div_lt_iff_lt_mul (by omega), Nat.mul_comm]
    exact Nat.mul_lt_mul_of_pos_left hx hp
theorem shl_step (n : Nat) (a S : List Nat) (k t : Nat) (hk : k < a.length) (hS : S.length = k) (h : valB 4294967296 (S ++ [t]) = valB 4294967296 (a.take k) * 2 ^ n) :
    valB 4294967296 ((S ++ [a[k] * 2 ^ n % 4294967296 + t]) ++ [a[k] * 2 ^ n / 4294967296]) = valB 4294967296 (a.take (k + 1)) * 2 ^ n := by
  have h1 := valB_take_succ 4294967296 a k
  rw [show a.getD k 0 = a[k] by simp [List.getD, List.getElem?_eq_getElem hk]] at h1
  rw [h1, Nat.add_mul, ← h, valB_snoc, valB_snoc, valB_snoc, List.length_append, hS, List.length_singleton, Nat.pow_succ]
  have h2 := Nat.mod_add_div (a[k] * 2 ^ n) 4294967296
  have h3 : 4294967296 ^ k * (a[k] * 2 ^ n % 4294967296 + 4294967296 * (a[k] * 2 ^ n / 4294967296)) = 4294967296 ^ k * (a[k] * 2 ^ n) := by rw [h2]
  rw [Nat.mul_add, ← Nat.mul_assoc] at h3
  rw [Nat.mul_add, Nat.mul_assoc (4294967296 ^ k) a[k]]
  omega
/-- one limb of a number that is moved down -/
theorem shr_digit (n : Nat) (a : List Nat) (k : Nat) (hn : n ≤ 32) (hl : ∀ x ∈ a, x < 4294967296) : valB 4294967296 a / 2 ^ n / 4294967296 ^ k % 4294967296 = ((a.getD k 0 + 4294967296 * a.getD (k + 1) 0) / 2 ^ n) % 4294967296 := by
  have hp : 0 < 2 ^ n := Nat.pow_pos (by omega)
  have h : (4294967296 : Nat) = 2 ^ (32 - n) * 2 ^ n := by rw [← Nat.pow_add, Nat.sub_add_cancel hn]
  rw [Nat.div_div_eq_div_mul, Nat.mul_comm (2 ^ n), ← Nat.div_div_eq_div_mul]
  have h0 : valB 4294967296 a / 4294967296 ^ k = valB 4294967296 (a.drop k) := by
    rw [valB_split 4294967296 a k, List.length_take]
    have hlt := valB_lt 4294967296 (by omega) (a.take k) (fun x hx => hl x (List.mem_of_mem_take hx))
    rw [List.length_take] at hlt
    rcases Nat.lt_or_ge k a.length with h1 | h1
    · rw [Nat.min_eq_left (by omega)] at hlt ⊢
      rw [Nat.add_mul_div_left _ _ (Nat.pow_pos (by omega)), Nat.div_eq_of_lt hlt, Nat.zero_add]
    · rw [List.drop_eq_nil_of_le h1, valB_nil, Nat.mul_zero, Nat.add_zero]
      refine Nat.div_eq_of_lt (Nat.lt_of_lt_of_le hlt (Nat.pow_le_pow_right (by omega) (Nat.min_le_left _ _)))
  have h1 : ∃ r, valB 4294967296 (a.drop k) = a.getD k 0 + 4294967296 * a.getD (k + 1) 0 + 4294967296 * 4294967296 * r := by
    have hd : ∀ j, valB 4294967296 (a.drop j) = a.getD j 0 + 4294967296 * valB 4294967296 (a.drop (j + 1)) := by
      intro j
      rcases Nat.lt_or_ge j a.length with h2 | h2
      · rw [drop_cons_of_lt a j h2, valB_cons, show a.getD j 0 = a[j] by simp [List.getD, List.getElem?_eq_getElem h2]]
      · rw [List.drop_eq_nil_of_le h2, List.drop_eq_nil_of_le (by omega), valB_nil, show a.getD j 0 = 0 by simp [List.getD, List.getElem?_eq_none h2]]
    have e1 := hd k
    have e2 := hd (k + 1)
    refine ⟨valB 4294967296 (a.drop (k + 1 + 1)), ?_⟩
    rw [e1, e2, Nat.mul_add, Nat.mul_assoc]
    omega
  obtain ⟨r, hr⟩ := h1
  rw [h0, hr]
  have h2 : 4294967296 * 4294967296 * r = 4294967296 * (2 ^ (32 - n) * r) * 2 ^ n := by
    conv => lhs; arg 1; arg 2; rw [h]
    rw [Nat.mul_assoc, Nat.mul_assoc, Nat.mul_assoc, Nat.mul_assoc, Nat.mul_comm (2 ^ n) r]
  rw [h2, Nat.add_mul_div_right _ _ hp, Nat.add_mul_mod_self_left]
theorem shr_step (n : Nat) (a S : List Nat) (k d : Nat) (hS : S.length = k) (h : valB 4294967296 S = valB 4294967296 a / 2 ^ n % 4294967296 ^ k) (hd : d = valB 4294967296 a / 2 ^ n / 4294967296 ^ k % 4294967296) :
    valB 4294967296 (S ++ [d]) = valB 4294967296 a / 2 ^ n % 4294967296 ^ (k + 1) := by
  rw [valB_snoc, hS, h, hd, Nat.pow_succ, Nat.mod_mul]
/-- the divisor, moved up until its highest binary digit stands at the top -/
theorem norm_top (b n : Nat) (m : Nat) (hb : bitN b = 32 * m + (32 - n)) (hn : n < 32) (h0 : 0 < b) : 2147483648 * 4294967296 ^ m ≤ b * 2 ^ n ∧ b * 2 ^ n < 4294967296 ^ (m + 1) := by
  have h1 := bitN_lt b
  have h2 := bitN_ge b h0
  rw [hb] at h1 h2
  have e1 : (4294967296 : Nat) ^ m = 2 ^ (32 * m) := by rw [Nat.pow_mul]
  have e2 : (4294967296 : Nat) ^ (m + 1) = 2 ^ (32 * m + (32 - n)) * 2 ^ n := by
    rw [← Nat.pow_add, show 32 * m + (32 - n) + n = 32 * (m + 1) by omega, Nat.pow_mul]
  have e3 : 2147483648 * (4294967296 : Nat) ^ m = 2 ^ (32 * m + (32 - n) - 1) * 2 ^ n := by
    rw [e1, show (2147483648 : Nat) = 2 ^ 31 from rfl, ← Nat.pow_add, ← Nat.pow_add]
    congr 1; omega
  have hp : 0 < 2 ^ n := Nat.pow_pos (by omega)
  refine ⟨?_, ?_⟩
  · rw [e3]; exact Nat.mul_le_mul_right _ h2
  · rw [e2]; exact Nat.mul_lt_mul_of_pos_right h1 hp
/-- a list by its last limbs -/
theorem val_last2 (B : Nat) (hB : 0 < B) (l : List Nat) (m : Nat) (hl : ∀ x ∈ l, x < B) (h : l.length = m + 2) :
    (l.getD (m + 1) 0 * B + l.getD m 0) * B ^ m ≤ valB B l ∧ valB B l < (l.getD (m + 1) 0 * B + l.getD m 0 + 1) * B ^ m := by
  have h1 := valB_take_succ B l m
  have h2 := valB_take_succ B l (m + 1)
  rw [List.take_of_length_le (i := m + 1 + 1) (by omega)] at h2
  have h3 := valB_lt B hB (l.take m) (fun x hx => hl x (List.mem_of_mem_take hx))
  rw [List.length_take, Nat.min_eq_left (by omega)] at h3
  generalize l.getD (m + 1) 0 = u at *
  generalize l.getD m 0 = v at *
  rw [Nat.pow_succ] at h2
  generalize B ^ m = P at *
  have e1 : (u * B + v) * P = P * v + P * B * u := by
    rw [Nat.add_mul, Nat.mul_comm v, Nat.mul_comm (u * B), Nat.mul_comm u, ← Nat.mul_assoc]; omega
  have e2 : (u * B + v + 1) * P = (u * B + v) * P + P := by rw [Nat.add_mul _ 1, Nat.one_mul]
  rw [e2, e1, h2, h1]
  omega
theorem val_last3 (B : Nat) (hB : 0 < B) (l : List Nat) (m : Nat) (hl : ∀ x ∈ l, x < B) (h : l.length = m + 3) :
    ((l.getD (m + 2) 0 * B + l.getD (m + 1) 0) * B + l.getD m 0) * B ^ m ≤ valB B l ∧ valB B l < ((l.getD (m + 2) 0 * B + l.getD (m + 1) 0) * B + l.getD m 0 + 1) * B ^ m := by
  have h0 := val_last2 B hB (l.take (m + 2)) m (fun x hx => hl x (List.mem_of_mem_take hx)) (by rw [List.length_take]; omega)
  have h2 := valB_take_succ B l (m + 2)
  rw [List.take_of_length_le (i := m + 2 + 1) (by omega)] at h2
  have g1 : (l.take (m + 2)).getD (m + 1) 0 = l.getD (m + 1) 0 := by simp [List.getD, List.getElem?_take]
  have g2 : (l.take (m + 2)).getD m 0 = l.getD m 0 := by simp [List.getD, List.getElem?_take]
  rw [g1, g2] at h0
  generalize l.getD (m + 2) 0 = u at *
  generalize l.getD (m + 1) 0 = v at *
  generalize l.getD m 0 = x at *
  rw [Nat.pow_succ, Nat.pow_succ] at h2
  generalize B ^ m = P at *
  have e1 : ((u * B + v) * B + x) * P = P * B * B * u + (v * B + x) * P := by
    have e3 : (u * B + v) * B + x = u * B * B + (v * B + x) := by rw [Nat.add_mul]; omega
    rw [e3, Nat.add_mul]
    congr 1
    rw [Nat.mul_comm, Nat.mul_comm (u * B) B, Nat.mul_comm u B, ← Nat.mul_assoc, ← Nat.mul_assoc]
  have e2 : ((u * B + v) * B + x + 1) * P = ((u * B + v) * B + x) * P + P := by rw [Nat.add_mul _ 1, Nat.one_mul]
  have e4 : (v * B + x + 1) * P = (v * B + x) * P + P := by rw [Nat.add_mul _ 1, Nat.one_mul]
  rw [e4] at h0
  rw [e2, e1, h2]
  omega
/-- the guess: what holds at the head of its loop (W: the window, D: the divisor) -/
structure Guess (B W D v1 v0 u2 u1 u0 g o : Nat) : Prop where
  top : g * v1 + o = u2 * B + u1
  ge : W / D ≤ g
  over : o < B
  small : g ≤ B + 1
  hi : B ≤ g → (g - B) * v1 + o < B
theorem guess_start (B W D v1 v0 u2 u1 u0 P : Nat) (hB : 2 < B) (hP : 0 < P) (hD : (v1 * B + v0) * P ≤ D) (hD2 : D < (v1 * B + v0 + 1) * P) (hW : ((u2 * B + u1) * B + u0) * P ≤ W) (hW2 : W < ((u2 * B + u1) * B + u0 + 1) * P) (hWD : W < B * D)
    (hv1 : B ≤ 2 * v1) (hv : v1 < B) (hv0 : v0 < B) (hu1 : u1 < B) (hu0 : u0 < B) :
    u2 ≤ v1 ∧ Guess B W D v1 v0 u2 u1 u0 ((u2 * B + u1) / v1) ((u2 * B + u1) % v1) := by
  have hu2 : u2 ≤ v1 := by
    refine Nat.le_of_not_lt (fun hlt => ?_)
    have h1 : (v1 + 1) * B * B * P ≤ ((u2 * B + u1) * B + u0) * P := by
      refine Nat.mul_le_mul_right P ?_
      have h5 : (v1 + 1) * B ≤ u2 * B + u1 := Nat.le_trans (Nat.mul_le_mul_right _ hlt) (Nat.le_add_right _ _)
      exact Nat.le_trans (Nat.mul_le_mul_right B h5) (Nat.le_add_right _ _)
    have h2 : B * D < B * ((v1 * B + v0 + 1) * P) := Nat.mul_lt_mul_of_pos_left hD2 (by omega)
    have h3 : B * ((v1 * B + v0 + 1) * P) ≤ (v1 + 1) * B * B * P := by
      rw [← Nat.mul_assoc]
      refine Nat.mul_le_mul_right P ?_
      rw [Nat.mul_comm ((v1 + 1) * B)]
      refine Nat.mul_le_mul_left _ ?_
      rw [Nat.add_mul]; omega
    omega
  have hd := Nat.div_add_mod (u2 * B + u1) v1
  have hm := Nat.mod_lt (u2 * B + u1) (show 0 < v1 by omega)
  generalize (u2 * B + u1) / v1 = g at *
  generalize (u2 * B + u1) % v1 = o at *
  rw [Nat.mul_comm v1] at hd
  have h9 : u2 * B ≤ v1 * B := Nat.mul_le_mul_right _ hu2
  have hgs : g ≤ B + 1 := by
    refine Nat.le_of_not_lt (fun hlt => ?_)
    have h1 : (B + 2) * v1 ≤ g * v1 := Nat.mul_le_mul_right v1 hlt
    rw [Nat.add_mul, Nat.mul_comm B v1] at h1
    omega
  refine ⟨hu2, hd, ?_, by omega, hgs, ?_⟩
  · have hD0 : 0 < D := Nat.lt_of_lt_of_le (Nat.mul_pos (Nat.add_pos_left (Nat.mul_pos (by omega) (by omega)) _) hP) hD
    refine Nat.le_of_not_lt (fun hlt => ?_)
    have h0 : (g + 1) * D ≤ W := by
      have := Nat.mul_le_mul_right D hlt
      exact Nat.le_trans this (Nat.div_mul_le_self W D)
    have h1 : (g + 1) * ((v1 * B + v0) * P) ≤ (g + 1) * D := Nat.mul_le_mul_left _ hD
    rw [← Nat.mul_assoc] at h1
    have h2 := Nat.lt_of_mul_lt_mul_right (Nat.lt_of_le_of_lt (Nat.le_trans h1 h0) hW2)
    have h3 : (g + 1) * (v1 * B + v0) = (g * v1 + v1) * B + (g + 1) * v0 := by
      rw [Nat.mul_add, ← Nat.mul_assoc, Nat.add_mul g 1 v1, Nat.one_mul]
    rw [h3] at h2
    have h4 : (g * v1 + o + 1) * B ≤ (g * v1 + v1) * B := Nat.mul_le_mul_right _ (by omega)
    rw [hd, Nat.add_mul _ 1] at h4
    omega
  · intro hg
    obtain ⟨e, rfl⟩ : ∃ e, g = B + e := ⟨g - B, by omega⟩
    rw [Nat.add_sub_cancel_left]
    rw [Nat.add_mul, Nat.mul_comm B v1] at hd
    omega
/-- it was too great -/
theorem guess_too (B W D v1 v0 u2 u1 u0 P g o : Nat) (hB : 2 < B) (hP : 0 < P) (hD : (v1 * B + v0) * P ≤ D) (hW2 : W < ((u2 * B + u1) * B + u0 + 1) * P) (hWD : W < B * D) (hv1 : B ≤ 2 * v1)
    (hG : Guess B W D v1 v0 u2 u1 u0 g o) (hc : B ≤ g ∨ o * B + u0 < g * v0) : W / D < g := by
  have hD0 : 0 < D := Nat.lt_of_lt_of_le (Nat.mul_pos (Nat.add_pos_left (Nat.mul_pos (by omega) (by omega)) _) hP) hD
  rcases hc with hc | hc
  · refine Nat.lt_of_lt_of_le ((Nat.div_lt_iff_lt_mul hD0).2 hWD) hc
  · refine guess_over P _ _ W D g hW2 hD ?_
    rw [← hG.top, Nat.add_mul, Nat.mul_add, ← Nat.mul_assoc]
    omega
/-- the step of its loop -/
theorem guess_next (B W D v1 v0 u2 u1 u0 g o : Nat) (hv1 : B ≤ 2 * v1) (hv : v1 < B) (hG : Guess B W D v1 v0 u2 u1 u0 g o) (hlt : W / D < g) :
    (g - 1) * v1 + (o + v1) = u2 * B + u1 ∧ W / D ≤ g - 1 ∧ (o + v1 < B → Guess B W D v1 v0 u2 u1 u0 (g - 1) (o + v1)) ∧ (B ≤ o + v1 → g - 1 < B) := by
  have h0 := hG.top
  obtain ⟨e, rfl⟩ : ∃ e, g = e + 1 := ⟨g - 1, by generalize W / D = q at hlt; omega⟩
  rw [Nat.add_sub_cancel]
  have h1 : e * v1 + (o + v1) = u2 * B + u1 := by rw [← h0, Nat.add_mul]; omega
  have h2 : B ≤ e → (e - B) * v1 + (o + v1) < B := fun he => by
    have := hG.hi (by omega)
    rw [show e + 1 - B = (e - B) + 1 by omega, Nat.add_mul] at this
    omega
  have h3 := hG.small
  have h4 : W / D ≤ e := Nat.le_of_lt_succ hlt
  refine ⟨h1, h4, fun h => ⟨h1, h4, h, by omega, h2⟩, fun h => ?_⟩
  refine Nat.lt_of_not_le (fun he => ?_)
  have := h2 he
  omega
/-- its end: right, or one too great -/
theorem guess_end (B W D v1 v0 u2 u1 u0 P g o : Nat) (hB : 2 < B) (hP : 0 < P) (hD : (v1 * B + v0) * P ≤ D) (hD2 : D < (v1 * B + v0 + 1) * P) (hW : ((u2 * B + u1) * B + u0) * P ≤ W) (hv1 : B ≤ 2 * v1) (hv0 : v0 < B)
    (ht : g * v1 + o = u2 * B + u1) (hge : W / D ≤ g) (hg : g < B) (hc : B ≤ o ∨ g * v0 ≤ o * B + u0) : g = W / D ∨ g = W / D + 1 := by
  have h5 : B * 1 ≤ v1 * B := by rw [Nat.mul_comm v1]; exact Nat.mul_le_mul_left _ (by omega)
  have hD0 : 0 < D := Nat.lt_of_lt_of_le (Nat.mul_pos (by omega) hP) hD
  have hc' : g * v0 ≤ o * B + u0 := by
    rcases hc with h | h
    · have h1 : g * v0 ≤ B * B := Nat.mul_le_mul (by omega) (by omega)
      have h2 : B * B ≤ o * B := Nat.mul_le_mul_right _ h
      omega
    · exact h
  have := guess_near P ((u2 * B + u1) * B + u0) (v1 * B + v0) W D g hP hW hD2 hD0 (by omega) (by
    rw [← ht, Nat.add_mul, Nat.mul_add, ← Nat.mul_assoc]
    omega)
  generalize W / D = q at *
  omega
end Go.Proofs.YtbdcjlikjpdhfaaDoorM
