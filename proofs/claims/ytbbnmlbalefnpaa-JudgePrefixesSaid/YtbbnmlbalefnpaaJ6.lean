/- tandemlaw00.Place answers the remainder of v by n, from 0 to below n, for n above 0. -/
import Derived.Test.YtbbnmlbalefnpaaJ4
import Derived.StillTailTactics
namespace Go.Proofs.Ytbbnmlbalefnpaa
open Go.RowKit Go.Proofs.YtbbnmlbalefnpaaL
theorem tmod_lt_zero (v n : Int) (h1 : 0 < n) (h : v.tmod n < 0) : v.tmod n + n = v % n := by
  have h2 := Int.tmod_eq_emod (a := v) (b := n)
  have h5 := Int.emod_nonneg v (show n ≠ 0 by omega)
  have h6 : (n.natAbs : Int) = n := Int.natAbs_of_nonneg (by omega)
  split at h2 <;> omega
theorem tmod_nonneg (v n : Int) (h1 : 0 < n) (h : ¬ v.tmod n < 0) : v.tmod n = v % n := by
  have h2 := Int.tmod_eq_emod (a := v) (b := n)
  have h5 := Int.emod_lt_of_pos v h1
  have h6 : (n.natAbs : Int) = n := Int.natAbs_of_nonneg (by omega)
  split at h2 <;> omega
theorem tmod_bd (v n : Int) (h1 : 0 < n) : -n < v.tmod n ∧ v.tmod n < n := by
  have h2 := Int.tmod_eq_emod (a := v) (b := n)
  have h4 := Int.emod_nonneg v (show n ≠ 0 by omega)
  have h5 := Int.emod_lt_of_pos v h1
  have h6 : (n.natAbs : Int) = n := Int.natAbs_of_nonneg (by omega)
  split at h2 <;> omega
theorem place12 (v n : Int) (w : World) (h1 : 0 < n) (h2 : n ≤ 9223372036854775807) (h3 : -9223372036854775808 ≤ v) (h4 : v ≤ 9223372036854775807) :
    Calls Try.prog 12 #[.int .i64 v, .int .i64 n] w fun e w' => e = .returned (.int .i64 (v % n)) ∧ w = w' := by
  obtain ⟨h5, h6⟩ := tmod_bd v n h1
  by_cases hneg : v.tmod n < 0
  · have hv := tmod_lt_zero v n h1 hneg
    go_enter Try.func12, Try.ntmps12
    go_wp2
    go_ret
    exact ⟨rfl, rfl⟩
  · have hv := tmod_nonneg v n h1 hneg
    have hb := tmod_bd v n h1
    have h7 := Int.emod_nonneg v (show n ≠ 0 by omega)
    rw [hv] at hneg
    go_enter Try.func12, Try.ntmps12
    go_wp2
    go_ret
    exact ⟨rfl, rfl⟩
end Go.Proofs.Ytbbnmlbalefnpaa
