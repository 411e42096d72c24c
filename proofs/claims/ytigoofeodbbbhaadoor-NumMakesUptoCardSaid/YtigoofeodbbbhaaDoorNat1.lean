/- nat.trim, nat.own, tandemlaw00.CopyLimbs: a list of limbs without the zeros at its end; in new memory. -/
import Derived.Test.YtigoofeodbbbhaaDoorProg
import Derived.Test.YtigoofeodbbbhaaDoorLib
import Derived.Test.YtigoofeodbbbhaaDoorMath
import Derived.Outline
namespace Go.Proofs.YtigoofeodbbbhaaDoor
open Go.RowKit Go.Proofs.YtigoofeodbbbhaaDoorL Go.Proofs.YtigoofeodbbbhaaDoorM
set_option linter.unusedVariables false
set_option linter.unusedSimpArgs false
theorem infoU : (Tryd.prog.info? 62).map (fun i => (i.zero, i.size, i.bytes)) = some (some (.int .u32 0), 1, 4) := by kernel_rfl
def encU (x : Nat) : List Value := [.int .u32 x]
theorem lenU : ∀ x, (encU x).length = 1 := fun _ => rfl
theorem oneU : ∀ x, ∀ u ∈ encU x, u.oneCell' = true := fun x => by simp [encU, Value.oneCell']
theorem Rd.u {w : World} {b off : Nat} {l : List Nat} (f : Rd encU 1 w (some ⟨b, off, none⟩) l) (i : Nat) (hi : i < l.length) : w.cell? ⟨b, off + i, none⟩ = some (.int .u32 (l[i] : Nat)) := by
  have := f.cell i hi 0 _ rfl
  simpa using this
theorem ne_nil_of_lt {α : Type} {l : List α} {i : Nat} (h : i < l.length) : l ≠ [] := fun e => by rw [e] at h; simp at h
theorem trimL_step_zero (l : List Nat) (m : Nat) (hm : m < l.length) (h0 : l[m] = 0) : trimL (l.take (m + 1)) = trimL (l.take m) := by
  rw [List.take_succ_eq_append_getElem hm, h0, trimL_snoc_zero]
theorem trimL_step_end (l : List Nat) (m : Nat) (hm : m < l.length) (h0 : l[m] ≠ 0) : (trimL (l.take (m + 1))).length = m + 1 := by
  rw [List.take_succ_eq_append_getElem hm, trimL_snoc _ _ h0]
  simp; omega
set_option maxHeartbeats 1000000 in
theorem trim_any (l : List Nat) (A : Option Addr) (c : Nat) (w : World) (hr : Rd encU 1 w A l) (hc : l.length ≤ c) (hm : l.length ≤ 9223372036854775807) :
    Calls Tryd.prog 73 #[.slice A l.length c] w fun e w' => e = .returned (.slice A (trimL l).length c) ∧ w = w' := by
  go_enter Tryd.func73, Tryd.ntmps73
  go_wp2
  go_loop [3] (fun v => ∃ n : Nat, n ≤ l.length ∧ v = .int .i64 n ∧ As (trimL (l.take n) = trimL l)) (fun v => (intOf v).toNat)
  case atStart => exact ⟨l.length, Nat.le_refl _, rfl, ⟨by rw [List.take_length]⟩⟩
  case round =>
    obtain ⟨n, hn, rfl, ht⟩ := hrel
    cases n with
    | zero =>
      go_wp2
      go_ret
      refine ⟨?_, rfl⟩
      rw [← ht.out]; simp [trimL]
    | succ m =>
      obtain ⟨b, off, rfl⟩ := hr.get (ne_nil_of_lt (i := m) (by omega))
      have hcell := Rd.u hr m (by omega)
      have hp : (0 : Int) < (m : Int) + 1 := by omega
      by_cases h0 : l[m] = 0
      · rw [h0] at hcell
        go_wp2
        go_round
        case rel => exact ⟨m, by omega, by go_num, ⟨by rw [← ht.out, trimL_step_zero l m (by omega) h0]⟩⟩
        case measure => simp [intOf]
      · have hb : ((l[m] : Int) == 0) = false := by simp; omega
        have hk := As.mk (trimL_step_end l m (by omega) h0)
        clear h0
        go_wp2
        go_ret
        refine ⟨?_, rfl⟩
        rw [← ht.out, hk.out]; rfl
theorem Rd.trim {w : World} {A : Option Addr} {l : List Nat} (f : Rd encU 1 w A l) : Rd encU 1 w A (trimL l) := by
  rw [trimL_take]; exact f.take _
set_option maxHeartbeats 1000000 in
theorem own_any (l : List Nat) (A : Option Addr) (c : Nat) (w : World) (hr : Rd encU 1 w A l) (hc : l.length ≤ c) (hA : A = none → c = 0) (hm : l.length * 4 ≤ 140737488355328) :
    Calls Tryd.prog 75 #[.slice A l.length c] w (Gives w fun v w' => Ow encU 1 62 w.heap.size w' v (trimL l)) := by
  have HA := As.mk hA
  clear hA
  have hle := trimL_le l
  have HB1 := As.mk (show (([] : List Nat).length + (trimL l).length) * 4 ≤ 140737488355328 from by rw [List.length_nil]; omega)
  have HM1 := As.mk (show ([] : List Nat).length + (trimL l).length ≤ maxLen from by rw [List.length_nil]; simp only [maxLen]; omega)
  go_enter Tryd.func75, Tryd.ntmps75
  go_wp2_with (first
    | (go_at_call 73; (with_reducible refine (trim_any l _ _ _ hr hc (by omega)).mono ?_); rintro e w1 ⟨rfl, rfl⟩)
    | ((with_reducible refine g_dst 5 ?_); go_must (refine ev_append 5 rfl Tryd.underlying24 infoU rfl (by decide) rfl (Ow.nil encU 1 62 w.heap.size w) rfl rfl (Rd.trim hr) lenU oneU HA.out HB1.out HM1.out (Nat.le_refl _) ?_); intro v' w1 ho hg; have hb1 := below_grown hg (Nat.le_refl _) (fun k hk => by cases hk)))
  go_ret
  exact ⟨_, rfl, by simpa using ho, hb1⟩
set_option maxHeartbeats 1000000 in
theorem copy_any (l : List Nat) (A : Option Addr) (c : Nat) (w : World) (hr : Rd encU 1 w A l) (hA : A = none → c = 0) (hm : l.length * 4 ≤ 140737488355328) :
    Calls Tryd.prog 51 #[.slice A l.length c] w (Gives w fun v w' => Ow encU 1 62 w.heap.size w' v l) := by
  have HA := As.mk hA
  clear hA
  have HB1 := As.mk (show (([] : List Nat).length + l.length) * 4 ≤ 140737488355328 from by rw [List.length_nil]; omega)
  have HM1 := As.mk (show ([] : List Nat).length + l.length ≤ maxLen from by rw [List.length_nil]; simp only [maxLen]; omega)
  go_enter Tryd.func51, Tryd.ntmps51
  go_wp2_with ((with_reducible refine g_dst 4 ?_); go_must (refine ev_append 4 rfl Tryd.underlying24 infoU rfl (by decide) rfl (Ow.nil encU 1 62 w.heap.size w) rfl rfl hr lenU oneU HA.out HB1.out HM1.out (Nat.le_refl _) ?_); intro v' w1 ho hg; have hb1 := below_grown hg (Nat.le_refl _) (fun k hk => by cases hk))
  go_ret
  exact ⟨_, rfl, by simpa using ho, hb1⟩
end Go.Proofs.YtigoofeodbbbhaaDoor
