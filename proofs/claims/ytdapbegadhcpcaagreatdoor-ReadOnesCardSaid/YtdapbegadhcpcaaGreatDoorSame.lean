/- A part of the proof. -/
import Derived.Test.YtdapbegadhcpcaaGreatDoorMK
set_option linter.unusedVariables false
set_option linter.unusedSimpArgs false
namespace Go.Proofs.YtdapbegadhcpcaaGreatDoor
open Go.RowKit Go.Proofs.YtdapbegadhcpcaaGreatDoorL Go.Proofs.YtdapbegadhcpcaaGreatDoorM
set_option maxHeartbeats 1000000 in
theorem sameLimbs_any (l : List Nat) (n n2 : Nat) (hn : l.length = n) (hn2 : n = n2) (A A2 : Option Addr) (c c2 : Nat) (w : World) (hr : Rd encU 1 w A l) (hr2 : Rd encU 1 w A2 l) (hc : n ≤ c) (hc2 : n ≤ c2) (hm : n ≤ 4398046511104) :
 Calls Tryz.prog 37 #[.slice A n c, .slice A2 n2 c2] w (Gives w fun v w' => v = .bool true) := by
 subst hn hn2
 have z0 : ((l.length : Int) != (l.length : Int)) = false := by simp
 go_enter Tryz.func37, Tryz.ntmps37
 go_wp2
 go_loopw [5] (fun v wr => ∃ k : Nat, k ≤ l.length ∧ v = .int .i64 (k : Int) ∧ Below w.heap.size w wr) (fun v _ => l.length - (intOf v).toNat)
 case atStart => exact ⟨0, by omega, rfl, Below.refl _ _⟩
 case round =>
  obtain ⟨k, hk, rfl, hb⟩ := hrel
  by_cases h : k < l.length
  · obtain ⟨b, off, rfl⟩ := hr.get (ne_nil_of_lt h)
    obtain ⟨b2, off2, rfl⟩ := hr2.get (ne_nil_of_lt h)
    have hcell := Rd.u (hr.below hb) k h
    have hcell2 := Rd.u (hr2.below hb) k h
    obtain ⟨x, hx⟩ : ∃ x, x = l[k] := ⟨_, rfl⟩
    rw [← hx] at hcell hcell2
    have z1 : ((x : Int) != (x : Int)) = false := by simp
    clear hx
    go_wp2
    go_quiet (fail)
    go_wp2
    go_roundw
    case rel => exact ⟨k + 1, by omega, by go_num, drew_below hb _⟩
    case measure => simp [intOf]; omega
  · go_wp2
    go_ret
    exact ⟨_, rfl, rfl, hb⟩
end Go.Proofs.YtdapbegadhcpcaaGreatDoor
