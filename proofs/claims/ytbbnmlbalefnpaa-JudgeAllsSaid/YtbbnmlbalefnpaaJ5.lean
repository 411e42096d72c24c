/- The body of JudgeAlls answers true of any slice of outcomes. -/
import Derived.Test.YtbbnmlbalefnpaaJ4
namespace Go.Proofs.Ytbbnmlbalefnpaa
open Go.RowKit Go.Proofs.YtbbnmlbalefnpaaL
/-- agreement of the i-th with the first k -/
def rowB (l : List Out) (i k : Nat) : Bool := (List.range k).all fun j => agreeB (l.getD i ⟨0, ⟨#[]⟩, ⟨#[]⟩, 0, 0⟩) (l.getD j ⟨0, ⟨#[]⟩, ⟨#[]⟩, 0, 0⟩)
def uptoB (l : List Out) (i : Nat) : Bool := (List.range i).all fun j => rowB l j j
theorem uptoB_all (l : List Out) : uptoB l l.length = allB l := rfl
theorem rowB_succ (l : List Out) (i k : Nat) : rowB l i (k + 1) = (rowB l i k && agreeB (l.getD i ⟨0, ⟨#[]⟩, ⟨#[]⟩, 0, 0⟩) (l.getD k ⟨0, ⟨#[]⟩, ⟨#[]⟩, 0, 0⟩)) := by
  unfold rowB; rw [List.range_succ, List.all_append]; simp
theorem uptoB_succ (l : List Out) (i : Nat) : uptoB l (i + 1) = (uptoB l i && rowB l i i) := by
  unfold uptoB; rw [List.range_succ, List.all_append]; simp
theorem one_encO : ∀ x, ∀ u ∈ encO x, u.oneCell' = true := fun x => by simp [encO, Value.oneCell']
/-- what the inner region reads stays -/
def Ten (w : World) (b off : Nat) (l : List Out) (x y : Out) (i k : Nat) (w' : World) : Prop :=
  Below w.heap.size w w' ∧ As (Rd encO 5 w' (some ⟨b, off, none⟩) l) ∧ w'.cell? ⟨b, off + i * 5, none⟩ = some (.int .i64 x.how) ∧ w'.cell? ⟨b, off + i * 5 + 1, none⟩ = some (.string x.out) ∧ w'.cell? ⟨b, off + i * 5 + 2, none⟩ = some (.string x.text) ∧ w'.cell? ⟨b, off + i * 5 + 3, none⟩ = some (.int .i64 x.err) ∧ w'.cell? ⟨b, off + i * 5 + 4, none⟩ = some (.int .i64 x.at_) ∧ w'.cell? ⟨b, off + k * 5, none⟩ = some (.int .i64 y.how) ∧ w'.cell? ⟨b, off + k * 5 + 1, none⟩ = some (.string y.out) ∧ w'.cell? ⟨b, off + k * 5 + 2, none⟩ = some (.string y.text) ∧ w'.cell? ⟨b, off + k * 5 + 3, none⟩ = some (.int .i64 y.err) ∧ w'.cell? ⟨b, off + k * 5 + 4, none⟩ = some (.int .i64 y.at_)
theorem kc {W w1 : World} (hb : Below W.heap.size W w1) {p : Addr} {v : Value} (h : W.cell? p = some v) : w1.cell? p = some v := (hb.cell (World.block_lt_of_cell? W p h)).trans h
theorem Ten.next {w W w1 : World} {b off : Nat} {l : List Out} {x y : Out} {i k : Nat} (h : Ten w b off l x y i k W) (hb : Below W.heap.size W w1) : Ten w b off l x y i k w1 := by
  obtain ⟨h1, h2, a0, a1, a2, a3, a4, b0, b1, b2, b3, b4⟩ := h
  exact ⟨bthen h1 hb, ⟨h2.out.below hb⟩, kc hb a0, kc hb a1, kc hb a2, kc hb a3, kc hb a4, kc hb b0, kc hb b1, kc hb b2, kc hb b3, kc hb b4⟩
theorem Ten.fin {w W : World} {b off : Nat} {l : List Out} {x y : Out} {i k : Nat} (h : Ten w b off l x y i k W) : Below w.heap.size w W ∧ Rd encO 5 W (some ⟨b, off, none⟩) l := ⟨h.1, h.2.1.out⟩
theorem all11nil (w : World) : Calls Try.prog 11 #[.slice none 0 0] w fun e w' => e = .returned (.bool true) ∧ Below w.heap.size w w' :=
  all11 [] none 0 w (Rd.nil _ _ _ _) (Nat.zero_le _) (Nat.le_refl _)
set_option maxHeartbeats 8000000 in
theorem law4 (l : List Out) (A : Option Addr) (c : Nat) (w : World) (hr : Rd encO 5 w A l) (hm : l.length ≤ c) (hA : A = none → c = 0) (hb : l.length * 56 ≤ 140737488355328) :
    Calls Try.prog 4 #[.slice A l.length c] w fun e w' => e = .returned (.bool true) ∧ Below w.heap.size w w' := by
  have HA := As.mk hA
  clear hA
  go_enter Try.func4, Try.ntmps4
  go_wp2
  go_loopw [3, 4] (fun want v wr => ∃ i : Nat, i ≤ l.length ∧ v = .int .i64 i ∧ want = .bool (uptoB l i) ∧ Below w.heap.size w wr) (fun _ v _ => l.length - (intOf v).toNat)
  case atStart => exact ⟨0, Nat.zero_le _, rfl, rfl, Below.refl _ _⟩
  case round =>
    obtain ⟨i, hi, rfl, rfl, HB⟩ := hrel
    have hrw := hr.below HB
    by_cases hlt : i < l.length
    · go_wp2
      obtain ⟨wo, rfl⟩ : ∃ wo : World, wo = wr := ⟨_, rfl⟩
      go_loopw [3, 5] (fun want v wr => ∃ k : Nat, k ≤ i ∧ v = .int .i64 k ∧ want = .bool (uptoB l i && rowB l i k) ∧ Below w.heap.size w wr ∧ Rd encO 5 wr A l) (fun _ v _ => l.length - (intOf v).toNat)
      case atStart => exact ⟨0, Nat.zero_le _, rfl, by simp [rowB], HB, hrw⟩
      case round =>
        clear HB hrw
        obtain ⟨k, hk, rfl, rfl, HB, hrw⟩ := hrel
        by_cases hlt2 : k < i
        · have hs := rowB_succ l i k
          rw [getD_at l i hlt, getD_at l k (by omega)] at hs
          have hs' := As.mk hs
          clear hs
          cases hwant : (uptoB l i && rowB l i k)
          · have hw0 := As.mk hwant
            clear hwant
            go_wp2
            go_quiet (fail)
            go_wp2
            go_roundw
            case rel => exact ⟨k + 1, by omega, by go_num, by rw [hs'.out, ← Bool.and_assoc, hw0.out]; rfl, bthen HB ⟨rfl, rfl, rfl, Nat.le_refl _, fun _ _ => rfl⟩, hrw.below ⟨rfl, rfl, rfl, Nat.le_refl _, fun _ _ => rfl⟩⟩
            case measure => simp [intOf]; omega
          · obtain ⟨b, off, rfl⟩ := hrw.get (by intro h; rw [h] at hlt; simp at hlt)
            have hi2 := hrw.cell i hlt
            have hk2 := hrw.cell k (by omega)
            have hT : Ten w b off l l[i] l[k] i k wr := ⟨HB, ⟨hrw⟩, hi2 0 _ rfl, hi2 1 _ rfl, hi2 2 _ rfl, hi2 3 _ rfl, hi2 4 _ rfl, hk2 0 _ rfl, hk2 1 _ rfl, hk2 2 _ rfl, hk2 3 _ rfl, hk2 4 _ rfl⟩
            have hT1 := hT.next (drew1 wr)
            clear hi2 hk2 HB hrw hT
            unfold Ten at hT1
            have q1 : (0 : Int) ≤ (k : Int) := by omega
            have q2 : (k : Int) < (l.length : Int) := by omega
            have q3 : (0 : Int) ≤ (i : Int) := by omega
            have q4 : (i : Int) < (l.length : Int) := by omega
            go_wp2
            go_region_held3 (fun w' => Below w.heap.size w w' ∧ As (Rd encO 5 w' (some ⟨b, off, none⟩) l) ∧ w'.cell? ⟨b, off + i * 5, none⟩ = some (.int .i64 l[i].how) ∧ w'.cell? ⟨b, off + i * 5 + 1, none⟩ = some (.string l[i].out) ∧ w'.cell? ⟨b, off + i * 5 + 2, none⟩ = some (.string l[i].text) ∧ w'.cell? ⟨b, off + i * 5 + 3, none⟩ = some (.int .i64 l[i].err) ∧ w'.cell? ⟨b, off + i * 5 + 4, none⟩ = some (.int .i64 l[i].at_) ∧ w'.cell? ⟨b, off + k * 5, none⟩ = some (.int .i64 l[k].how) ∧ w'.cell? ⟨b, off + k * 5 + 1, none⟩ = some (.string l[k].out) ∧ w'.cell? ⟨b, off + k * 5 + 2, none⟩ = some (.string l[k].text) ∧ w'.cell? ⟨b, off + k * 5 + 3, none⟩ = some (.int .i64 l[k].err) ∧ w'.cell? ⟨b, off + k * 5 + 4, none⟩ = some (.int .i64 l[k].at_))
              (first | assumption | (refine Ten.next ?_ hb0; assumption))
              (first
                | (go_at_call 7; (with_reducible refine (agree7 l[i] l[k] _).mono ?_); rintro e w1 ⟨rfl, hb0⟩))
            rename_i w2 _ hT2
            obtain ⟨HB, hrw⟩ := Ten.fin (x := l[i]) (y := l[k]) hT2
            clear hT1 hT2
            go_wp2
            go_roundw
            case rel => exact ⟨k + 1, by omega, by go_num, by rw [hs'.out, ← Bool.and_assoc, hwant, Bool.true_and], HB, hrw⟩
            case measure => simp [intOf]; omega
        · have hki : k = i := by omega
          subst hki
          have hs := As.mk (uptoB_succ l k)
          go_wp2
          refine ⟨⟨k + 1, by omega, by go_num, by rw [hs.out], HB⟩, by simp [intOf]; omega⟩
    · have hil : i = l.length := by omega
      subst hil
      have HB1 := As.mk (show (([] : List Out).length + l.length) * 56 ≤ 140737488355328 from by rw [List.length_nil]; omega)
      have HM1 := As.mk (show ([] : List Out).length + l.length ≤ maxLen from by rw [List.length_nil]; simp only [maxLen]; omega)
      have HM2 := As.mk (show l.length ≤ 9223372036854775807 from by omega)
      go_wp2_with (first
        | ((with_reducible refine g_dst 30 ?_); go_must (refine ev_append 30 rfl Try.underlying28 info24 rfl (by decide) rfl (Ow.nil encO 5 24 wr.heap.size wr) rfl rfl hrw (fun _ => rfl) one_encO HA.out HB1.out HM1.out (Nat.le_refl _) ?_); intro v' w1 ho hg; have hb1 := below_grown hg (Nat.le_refl _) (fun k hk => by cases hk); replace HB := bthen HB hb1; rw [List.nil_append] at ho; obtain ⟨A', c', rfl, hlc, _⟩ := ho.form; have hr2 := ho.rd (fun _ => rfl); clear hb1 hg)
        | (go_at_call 11; (first | (with_reducible refine (all11 l _ _ _ hr2 HM2.out hlc).mono ?_) | (with_reducible refine (all11nil _).mono ?_)); rintro e w2 ⟨rfl, hb2⟩; replace HB := bthen HB hb2)
        | (go_at_call 10; (with_reducible refine (awake10 _).mono ?_); rintro e w3 ⟨rfl, hb3⟩; replace HB := bthen HB hb3))
      go_ret
      exact ⟨rfl, HB⟩
end Go.Proofs.Ytbbnmlbalefnpaa
