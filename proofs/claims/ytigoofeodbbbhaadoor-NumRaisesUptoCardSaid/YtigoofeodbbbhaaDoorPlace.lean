/- tandemlaw00.Place. -/
import Derived.Test.YtigoofeodbbbhaaDoorLib3
import Derived.Test.YtigoofeodbbbhaaDoorNat1
import Derived.IntWalk
namespace Go.Proofs.YtigoofeodbbbhaaDoor
open Go.RowKit Go.Proofs.YtigoofeodbbbhaaDoorL Go.Proofs.YtigoofeodbbbhaaDoorM
set_option linter.unusedVariables false
set_option linter.unusedSimpArgs false
theorem tmod_fix (z m : Int) (hm : 0 < m) : (if z.tmod m < 0 then z.tmod m + m else z.tmod m) = z % m := by
  have h1 := Int.tmod_eq_emod (a := z) (b := m)
  have h2 := Int.emod_nonneg z (show m ≠ 0 by omega)
  have h3 := Int.emod_lt_of_pos z hm
  rw [h1]
  split <;> split <;> omega
theorem place_any (z m : Int) (w : World) (hz : -9223372036854775808 ≤ z ∧ z ≤ 9223372036854775807) (hm : 0 < m ∧ m ≤ 9223372036854775807) (k : Nat) (hk : z % m = (k : Int)) :
    Calls Tryd.prog 40 #[.int .i64 z, .int .i64 m] w (fun e w' => e = .returned (.int .i64 (k : Int)) ∧ w = w') := by
  obtain ⟨r, hr⟩ : ∃ r, z.tmod m = r := ⟨_, rfl⟩
  have h1 := tmod_fix z m hm.1
  have h3 := Int.emod_lt_of_pos z hm.1
  have h2 := Int.emod_nonneg z (show m ≠ 0 by omega)
  have hlt : -m ≤ r ∧ r < m := by
    have h5 := Int.tmod_eq_emod (a := z) (b := m)
    rw [hr] at h5
    split at h5 <;> omega
  rw [hr] at h1
  have hm0 : (m == 0) = false := by simp; omega
  by_cases hn : r < 0
  · rw [if_pos hn] at h1
    have ew : IntKind.i64.wrap r = r := IntWalk.i64_in _ (by omega)
    have ew2 : IntKind.i64.wrap (k : Int) = (k : Int) := IntWalk.i64_in _ (by omega)
    rw [hk] at h1
    clear hk h3
    go_enter Tryd.func40, Tryd.ntmps40
    go_wp2
    go_ret
    exact ⟨by simp [h1], rfl⟩
  · rw [if_neg hn] at h1
    have ew : IntKind.i64.wrap r = r := IntWalk.i64_in _ (by omega)
    rw [hk] at h1
    clear hk h3
    go_enter Tryd.func40, Tryd.ntmps40
    go_wp2
    go_ret
    exact ⟨by simp [h1], rfl⟩
end Go.Proofs.YtigoofeodbbbhaaDoor
