/- Digits in a base B, the lowest first: their value; lists without zeros at the end; such a list is told by its value. Plain mathematics. -/
namespace Go.Proofs.YtigoofeodbbbhaaDoorM
set_option linter.unusedVariables false
set_option linter.unusedSimpArgs false
/-- the value of digits -/
def valB (B : Nat) : List Nat → Nat
  | [] => 0
  | x :: l => x + B * valB B l
theorem valB_nil (B : Nat) : valB B [] = 0 := rfl
theorem valB_cons (B x : Nat) (l : List Nat) : valB B (x :: l) = x + B * valB B l := rfl
theorem valB_append (B : Nat) : ∀ l m : List Nat, valB B (l ++ m) = valB B l + B ^ l.length * valB B m
  | [], m => by simp [valB]
  | x :: l, m => by
    simp only [List.cons_append, valB, valB_append B l m, List.length_cons, Nat.pow_succ]
    rw [Nat.mul_add, Nat.add_assoc, ← Nat.mul_assoc, Nat.mul_comm (B ^ l.length) B]
theorem valB_snoc (B : Nat) (l : List Nat) (x : Nat) : valB B (l ++ [x]) = valB B l + B ^ l.length * x := by
  rw [valB_append]; simp [valB]
theorem valB_lt (B : Nat) (hB : 0 < B) : ∀ l : List Nat, (∀ x ∈ l, x < B) → valB B l < B ^ l.length
  | [], _ => by simp [valB]
  | x :: l, h => by
    have h1 := valB_lt B hB l (fun y hy => h y (List.mem_cons_of_mem _ hy))
    have h2 := h x (List.mem_cons_self ..)
    have h3 : B * valB B l + B ≤ B * B ^ l.length := by
      have : B * (valB B l + 1) ≤ B * B ^ l.length := Nat.mul_le_mul_left B h1
      rwa [Nat.mul_add, Nat.mul_one] at this
    simp only [valB, List.length_cons, Nat.pow_succ, Nat.mul_comm (B ^ l.length) B]
    omega
theorem valB_zeros (B n : Nat) : valB B (List.replicate n 0) = 0 := by
  induction n with
  | zero => rfl
  | succ n ih => simp [List.replicate_succ, valB, ih]
/-- no zero at the end -/
def Canon (l : List Nat) : Prop := ∀ x, l.getLast? = some x → x ≠ 0
theorem Canon.nil : Canon [] := fun x h => by simp at h
theorem Canon.tail {x : Nat} {l : List Nat} (h : Canon (x :: l)) : Canon l := by
  intro y hy
  cases l with
  | nil => simp at hy
  | cons z l => exact h y (by rw [List.getLast?_cons_cons]; exact hy)
theorem canon_zero (B : Nat) (hB : 0 < B) : ∀ l : List Nat, Canon l → valB B l = 0 → l = []
  | [], _, _ => rfl
  | x :: l, h, e => by
    simp only [valB] at e
    have e1 : x = 0 := by omega
    have e2 : valB B l = 0 := by
      have : B * valB B l = 0 := by omega
      rcases Nat.mul_eq_zero.1 this with h0 | h0
      · omega
      · exact h0
    have e3 := canon_zero B hB l h.tail e2
    subst e3
    exact absurd e1 (h x (by simp))
/-- TOLD BY THE VALUE -/
theorem canon_inj (B : Nat) (hB : 0 < B) : ∀ l m : List Nat, (∀ x ∈ l, x < B) → (∀ x ∈ m, x < B) → Canon l → Canon m → valB B l = valB B m → l = m
  | [], m, _, _, _, hm, e => (canon_zero B hB m hm (by rw [← e]; rfl)).symm
  | x :: l, [], _, _, hl, _, e => canon_zero B hB _ hl (by rw [e]; rfl)
  | x :: l, y :: m, h1, h2, hl, hm, e => by
    simp only [valB] at e
    have hx := h1 x (List.mem_cons_self ..)
    have hy := h2 y (List.mem_cons_self ..)
    have exy : x = y := by
      have a1 : (x + B * valB B l) % B = x := by rw [Nat.add_mul_mod_self_left]; exact Nat.mod_eq_of_lt hx
      have a2 : (y + B * valB B m) % B = y := by rw [Nat.add_mul_mod_self_left]; exact Nat.mod_eq_of_lt hy
      rw [← a1, ← a2, e]
    subst exy
    have e2 : valB B l = valB B m := Nat.eq_of_mul_eq_mul_left hB (by omega)
    rw [canon_inj B hB l m (fun z hz => h1 z (List.mem_cons_of_mem _ hz)) (fun z hz => h2 z (List.mem_cons_of_mem _ hz)) hl.tail hm.tail e2]
/-- without the zeros at the end -/
def trimL : List Nat → List Nat
  | [] => []
  | x :: l => if x = 0 ∧ trimL l = [] then [] else x :: trimL l
theorem trimL_canon : ∀ l : List Nat, Canon (trimL l)
  | [] => Canon.nil
  | x :: l => by
    unfold trimL
    split
    · exact Canon.nil
    · rename_i h
      intro y hy
      cases ht : trimL l with
      | nil =>
        rw [ht] at hy h
        simp at hy h
        omega
      | cons z m =>
        rw [ht, List.getLast?_cons_cons] at hy
        exact trimL_canon l y (by rw [ht]; exact hy)
theorem trimL_val (B : Nat) : ∀ l : List Nat, valB B (trimL l) = valB B l
  | [] => rfl
  | x :: l => by
    unfold trimL
    split
    · rename_i h
      rw [valB_cons, ← trimL_val B l, h.1, h.2]; simp [valB]
    · rw [valB_cons, valB_cons, trimL_val B l]
theorem trimL_of_canon : ∀ l : List Nat, Canon l → trimL l = l
  | [], _ => rfl
  | x :: l, h => by
    unfold trimL
    rw [trimL_of_canon l h.tail]
    split
    · rename_i h0
      obtain ⟨rfl, rfl⟩ := h0
      exact absurd rfl (h 0 (by simp))
    · rfl
theorem trimL_mem : ∀ (l : List Nat) (x : Nat), x ∈ trimL l → x ∈ l
  | [], x, h => h
  | y :: l, x, h => by
    unfold trimL at h
    split at h
    · simp at h
    · rcases List.mem_cons.1 h with e | e
      · exact e ▸ List.mem_cons_self ..
      · exact List.mem_cons_of_mem _ (trimL_mem l x e)
/-- how many are left: the beginning of the list -/
theorem trimL_take : ∀ l : List Nat, trimL l = l.take (trimL l).length
  | [] => rfl
  | x :: l => by
    unfold trimL
    split
    · rfl
    · rw [List.length_cons, List.take_succ_cons, ← trimL_take l]
theorem trimL_le (l : List Nat) : (trimL l).length ≤ l.length := by
  have := congrArg List.length (trimL_take l)
  rw [List.length_take] at this
  omega
theorem trimL_snoc_zero (l : List Nat) : trimL (l ++ [0]) = trimL l := by
  induction l with
  | nil => simp [trimL]
  | cons x l ih => simp only [List.cons_append, trimL, ih]
theorem trimL_snoc (l : List Nat) (x : Nat) (h : x ≠ 0) : trimL (l ++ [x]) = l ++ [x] := by
  apply trimL_of_canon
  intro y hy
  simp at hy
  omega
/-- the digits of a number -/
def digB (B n : Nat) : List Nat :=
  if h : 1 < B ∧ 0 < n then n % B :: digB B (n / B) else []
termination_by n
decreasing_by exact Nat.div_lt_self h.2 h.1
theorem digB_zero (B : Nat) : digB B 0 = [] := by unfold digB; simp
theorem digB_pos (B n : Nat) (hB : 1 < B) (hn : 0 < n) : digB B n = n % B :: digB B (n / B) := by
  rw [digB, dif_pos ⟨hB, hn⟩]
theorem digB_val (B : Nat) (hB : 1 < B) (n : Nat) : valB B (digB B n) = n := by
  induction n using Nat.strongRecOn with
  | ind n ih =>
    rcases Nat.eq_zero_or_pos n with rfl | hn
    · rw [digB_zero]; rfl
    · rw [digB_pos B n hB hn, valB_cons, ih (n / B) (Nat.div_lt_self hn hB)]
      exact Nat.mod_add_div n B
theorem digB_lt (B : Nat) (hB : 1 < B) (n : Nat) : ∀ x ∈ digB B n, x < B := by
  induction n using Nat.strongRecOn with
  | ind n ih =>
    rcases Nat.eq_zero_or_pos n with rfl | hn
    · rw [digB_zero]; intro x h; simp at h
    · rw [digB_pos B n hB hn]
      intro x h
      rcases List.mem_cons.1 h with e | e
      · rw [e]; exact Nat.mod_lt _ (by omega)
      · exact ih (n / B) (Nat.div_lt_self hn hB) x e
theorem digB_canon (B : Nat) (hB : 1 < B) (n : Nat) : Canon (digB B n) := by
  induction n using Nat.strongRecOn with
  | ind n ih =>
    rcases Nat.eq_zero_or_pos n with rfl | hn
    · rw [digB_zero]; exact Canon.nil
    · rw [digB_pos B n hB hn]
      intro x h
      rcases Nat.eq_zero_or_pos (n / B) with h0 | h0
      · rw [h0, digB_zero] at h
        simp at h
        have := Nat.mod_add_div n B
        rw [h0] at this
        omega
      · rw [digB_pos B _ hB h0, List.getLast?_cons_cons] at h
        exact ih (n / B) (Nat.div_lt_self hn hB) x (by rw [digB_pos B _ hB h0]; exact h)
theorem trimL_dig (B : Nat) (hB : 1 < B) (l : List Nat) (h : ∀ x ∈ l, x < B) : trimL l = digB B (valB B l) :=
  canon_inj B (by omega) _ _ (fun x hx => h x (trimL_mem l x hx)) (digB_lt B hB _) (trimL_canon l) (digB_canon B hB _) (by rw [trimL_val, digB_val B hB])
theorem dig_of_canon (B : Nat) (hB : 1 < B) (l : List Nat) (h : ∀ x ∈ l, x < B) (hc : Canon l) : l = digB B (valB B l) := by
  rw [← trimL_dig B hB l h, trimL_of_canon l hc]
theorem digB_eq_nil (B n : Nat) (hB : 1 < B) : digB B n = [] ↔ n = 0 := by
  constructor
  · intro h
    have := digB_val B hB n
    rw [h] at this
    exact this.symm
  · rintro rfl; exact digB_zero B
/-- the length is at most that of any digits -/
theorem digB_len_le (B : Nat) (hB : 1 < B) (l : List Nat) (h : ∀ x ∈ l, x < B) : (digB B (valB B l)).length ≤ l.length := by
  rw [← trimL_dig B hB l h]; exact trimL_le l
theorem digB_len_lt (B : Nat) (hB : 1 < B) : ∀ (k n : Nat), n < B ^ k → (digB B n).length ≤ k
  | 0, n, h => by
    have : n = 0 := by simpa using h
    rw [this, digB_zero]; exact Nat.le_refl _
  | k + 1, n, h => by
    rcases Nat.eq_zero_or_pos n with rfl | hn
    · rw [digB_zero]; exact Nat.zero_le _
    · rw [digB_pos B n hB hn, List.length_cons]
      exact Nat.succ_le_succ (digB_len_lt B hB k (n / B) (Nat.div_lt_of_lt_mul (by rw [Nat.pow_succ, Nat.mul_comm] at h; exact h)))
theorem digB_len_ge (B : Nat) (hB : 1 < B) : ∀ (k n : Nat), B ^ k ≤ n → k < (digB B n).length
  | 0, n, h => by
    have hn : 0 < n := Nat.lt_of_lt_of_le (by simp) h
    rw [digB_pos B n hB hn, List.length_cons]; omega
  | k + 1, n, h => by
    have hp : 0 < B ^ (k + 1) := Nat.pow_pos (by omega)
    rw [digB_pos B n hB (by omega), List.length_cons]
    refine Nat.succ_lt_succ (digB_len_ge B hB k (n / B) ?_)
    rw [Nat.le_div_iff_mul_le (by omega)]
    rwa [Nat.pow_succ] at h
end Go.Proofs.YtigoofeodbbbhaaDoorM
