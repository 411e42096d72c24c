/- Division of digits by a small number, from the top. Plain mathematics. -/
import Derived.Test.YtigoofeodbbbhaaDoorMath
namespace Go.Proofs.YtigoofeodbbbhaaDoorM
set_option linter.unusedVariables false
set_option linter.unusedSimpArgs false
/-- the digits of the quotient by d -/
def qL (B d : Nat) : List Nat → List Nat
  | [] => []
  | x :: l => ((valB B l % d) * B + x) / d :: qL B d l
theorem qL_len (B d : Nat) : ∀ l, (qL B d l).length = l.length
  | [] => rfl
  | x :: l => by simp [qL, qL_len B d l]
theorem rem_cons (B d x : Nat) (l : List Nat) : valB B (x :: l) % d = ((valB B l % d) * B + x) % d := by
  rw [valB_cons, Nat.add_comm, Nat.mul_comm B, Nat.add_mod, Nat.mul_mod]
  conv => rhs; rw [Nat.add_mod, Nat.mul_mod]
  simp
theorem qL_val (B d : Nat) (hd : 0 < d) : ∀ l, valB B (qL B d l) = valB B l / d
  | [] => by simp [qL, valB]
  | x :: l => by
    rw [qL, valB_cons, valB_cons, qL_val B d hd l]
    have e : x + B * valB B l = (valB B l % d) * B + x + d * (B * (valB B l / d)) := by
      have := Nat.div_add_mod (valB B l) d
      have h2 : B * valB B l = B * (d * (valB B l / d)) + B * (valB B l % d) := by rw [← Nat.mul_add, this]
      rw [h2, Nat.mul_left_comm, Nat.mul_comm (valB B l % d) B]
      omega
    rw [e, Nat.add_mul_div_left _ _ hd]
theorem qL_lt (B d : Nat) (hd : 0 < d) : ∀ l, (∀ x ∈ l, x < B) → ∀ y ∈ qL B d l, y < B
  | [], _, y, h => by simp [qL] at h
  | x :: l, hl, y, h => by
    rcases List.mem_cons.1 h with e | e
    · rw [e]
      have h1 := Nat.mod_lt (valB B l) hd
      have h2 := hl x (List.mem_cons_self ..)
      rw [Nat.div_lt_iff_lt_mul hd]
      have : (valB B l % d) * B + B ≤ d * B := by
        have := Nat.mul_le_mul_right B (Nat.succ_le_of_lt h1)
        rwa [Nat.succ_mul] at this
      rw [Nat.mul_comm B d]
      omega
    · exact qL_lt B d hd l (fun z hz => hl z (List.mem_cons_of_mem _ hz)) y e
theorem trim_qL (B d : Nat) (hB : 1 < B) (hd : 0 < d) (l : List Nat) (hl : ∀ x ∈ l, x < B) : trimL (qL B d l) = digB B (valB B l / d) := by
  rw [trimL_dig B hB _ (qL_lt B d hd l hl), qL_val B d hd]
theorem drop_cons_of_lt {α : Type} (l : List α) (m : Nat) (hm : m < l.length) : l.drop m = l[m] :: l.drop (m + 1) := (List.getElem_cons_drop hm).symm
/-- one more place of a list that is filled from its end -/
theorem fill_down {α : Type} (z v : α) (m : Nat) (q : List α) : (List.replicate (m + 1) z ++ q).set m v = List.replicate m z ++ v :: q := by
  rw [List.replicate_succ', List.append_assoc, List.set_append]
  simp
end Go.Proofs.YtigoofeodbbbhaaDoorM
