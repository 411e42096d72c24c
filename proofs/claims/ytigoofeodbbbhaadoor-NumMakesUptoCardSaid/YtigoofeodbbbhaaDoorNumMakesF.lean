/- NumMakes. -/
import Derived.Test.YtigoofeodbbbhaaDoorNumT
import Derived.Test.YtigoofeodbbbhaaDoorNum10
import Derived.Test.YtigoofeodbbbhaaDoorDrawn
namespace Go.Proofs.YtigoofeodbbbhaaDoor
open Go.RowKit Go.Proofs.YtigoofeodbbbhaaDoorL Go.Proofs.YtigoofeodbbbhaaDoorM
set_option linter.unusedVariables false
set_option linter.unusedSimpArgs false
/-- what the laws of quotients give -/
theorem makes_facts (y z q r p s : Int) (h0 : z ≠ 0) (hq : q = y.tdiv z) (hr : r = y.tmod z) (hp : p = floQ y z) (hs : s = floR y z) :
    q * z + r = y ∧ p * z + s = y ∧ r.natAbs < z.natAbs ∧ s.natAbs < z.natAbs ∧ (r < 0 → y < 0) ∧ (0 < r → 0 < y) ∧ (s < 0 → z < 0) ∧ (0 < s → 0 < z) := by
  have h1 : z * y.tdiv z + y.tmod z = y := Int.mul_tdiv_add_tmod y z
  have h2 : (y.tmod z).natAbs < z.natAbs := by
    rw [Int.natAbs_tmod]; exact Nat.mod_lt _ (by omega)
  have h3 : y.tmod z < 0 → y < 0 := fun h => by
    rcases (show y < 0 ∨ 0 ≤ y by omega) with h5 | h5
    · exact h5
    · have := Int.tmod_nonneg z h5; omega
  have h4 : 0 < y.tmod z → 0 < y := fun h => by
    rcases (show 0 < y ∨ y ≤ 0 by omega) with h5 | h5
    · exact h5
    · have := Int.tmod_nonneg z (show 0 ≤ -y by omega)
      rw [Int.neg_tmod] at this; omega
  unfold floQ at hp
  unfold floR at hs
  rw [← hq, ← hr] at h1
  rw [← hr] at h2 h3 h4
  have hf : flo y z = (!decide (r = 0) && (decide (r < 0) != decide (z < 0))) := by rw [flo, ← hr]
  rw [hf, ← hq] at hp
  rw [hf, ← hr] at hs
  have hzq : q * z + r = y := by rw [Int.mul_comm]; exact h1
  by_cases hr0 : r = 0
  · rw [if_neg (by simp [hr0])] at hp hs
    subst hp hs
    exact ⟨hzq, hzq, h2, h2, h3, h4, fun h => by omega, fun h => by omega⟩
  · rcases Int.lt_or_gt_of_ne hr0 with a | a <;> rcases Int.lt_or_gt_of_ne h0 with c | c
    · rw [if_neg (by simp [a, c])] at hp hs
      subst hp hs
      exact ⟨hzq, hzq, h2, h2, h3, h4, fun _ => c, fun h => by omega⟩
    · rw [if_pos (by simp [a, hr0, show ¬ z < 0 by omega])] at hp hs
      subst hp hs
      exact ⟨hzq, by rw [Int.sub_mul]; omega, h2, by omega, h3, h4, fun h => by omega, fun _ => c⟩
    · rw [if_pos (by simp [c, hr0, show ¬ r < 0 by omega])] at hp hs
      subst hp hs
      exact ⟨hzq, by rw [Int.sub_mul]; omega, h2, by omega, h3, h4, fun _ => c, fun h => by omega⟩
    · rw [if_neg (by simp [show ¬ r < 0 by omega, show ¬ z < 0 by omega])] at hp hs
      subst hp hs
      exact ⟨hzq, hzq, h2, h2, h3, h4, fun h => by omega, fun _ => c⟩
end Go.Proofs.YtigoofeodbbbhaaDoor
