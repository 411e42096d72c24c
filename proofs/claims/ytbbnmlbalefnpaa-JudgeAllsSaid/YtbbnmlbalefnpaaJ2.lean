/- What judge.All answers of any slice of outcomes. -/
import Derived.Test.YtbbnmlbalefnpaaJ1
import Derived.Deep.LoopGhost
namespace Go.Proofs.Ytbbnmlbalefnpaa
open Go.RowKit Go.Proofs.YtbbnmlbalefnpaaL
theorem info24 : (Try.prog.info? 24).map (fun i => (i.zero, i.size, i.bytes)) = some (some (.agg #[.int .i64 0, .string ⟨#[]⟩, .string ⟨#[]⟩, .int .i64 0, .int .i64 0]), 5, 56) := by kernel_rfl
def encO (x : Out) : List Value := [.int .i64 x.how, .string x.out, .string x.text, .int .i64 x.err, .int .i64 x.at_]
/-- the k-th outcome agrees with all ahead of it -/
def allB (l : List Out) : Bool := (List.range l.length).all fun i => (List.range i).all fun k => agreeB (l.getD i ⟨0, ⟨#[]⟩, ⟨#[]⟩, 0, 0⟩) (l.getD k ⟨0, ⟨#[]⟩, ⟨#[]⟩, 0, 0⟩)
theorem getD_at (l : List Out) (i : Nat) (h : i < l.length) : l.getD i ⟨0, ⟨#[]⟩, ⟨#[]⟩, 0, 0⟩ = l[i] := by simp [List.getD, h]
theorem allB_false (l : List Out) (i k : Nat) (hi : i < l.length) (hk : k < i) (h : agreeB l[i] l[k] = false) : allB l = false := by
  cases e : allB l
  · rfl
  · unfold allB at e
    rw [List.all_eq_true] at e
    have e1 := e i (List.mem_range.2 hi)
    rw [List.all_eq_true] at e1
    have e2 := e1 k (List.mem_range.2 hk)
    rw [getD_at l i hi, getD_at l k (by omega), h] at e2
    cases e2
theorem allB_true (l : List Out) (h : ∀ j, j < l.length → ∀ k, k < j → agreeB (l.getD j ⟨0, ⟨#[]⟩, ⟨#[]⟩, 0, 0⟩) (l.getD k ⟨0, ⟨#[]⟩, ⟨#[]⟩, 0, 0⟩) = true) : allB l = true := by
  unfold allB
  rw [List.all_eq_true]
  intro i hi
  rw [List.all_eq_true]
  intro k hk
  exact h i (List.mem_range.1 hi) k (List.mem_range.1 hk)
set_option maxHeartbeats 4000000 in
theorem all11 (l : List Out) (A : Option Addr) (c : Nat) (w : World) (hr : Rd encO 5 w A l) (hm : l.length ≤ 9223372036854775807) (hc : l.length ≤ c) :
    Calls Try.prog 11 #[.slice A l.length c] w fun e w' => e = .returned (.bool (allB l)) ∧ Below w.heap.size w w' := by
  go_enter Try.func11, Try.ntmps11
  go_wp2
  go_loopw [9] (fun v wr => ∃ i : Nat, i ≤ l.length ∧ v = .int .i64 i ∧ As (∀ j, j < i → ∀ k, k < j → agreeB (l.getD j ⟨0, ⟨#[]⟩, ⟨#[]⟩, 0, 0⟩) (l.getD k ⟨0, ⟨#[]⟩, ⟨#[]⟩, 0, 0⟩) = true) ∧ Below w.heap.size w wr) (fun v _ => l.length - (intOf v).toNat)
  case atStart => exact ⟨0, Nat.zero_le _, rfl, ⟨fun j hj => by omega⟩, Below.refl _ _⟩
  case round =>
    obtain ⟨i, hi, rfl, hall, HB⟩ := hrel
    have hrw := hr.below HB
    by_cases hlt : i < l.length
    · obtain ⟨b, off, rfl⟩ := hrw.get (by intro h; rw [h] at hlt; simp at hlt)
      have hcell := hrw.cell i hlt
      have c0 : wr.cell? ⟨b, off + i * 5, none⟩ = some (.int .i64 l[i].how) := hcell 0 _ rfl
      have c1 := hcell 1 _ rfl
      have c2 := hcell 2 _ rfl
      have c3 := hcell 3 _ rfl
      have c4 := hcell 4 _ rfl
      clear hcell
      go_wp2_with (first
        | ((with_reducible refine ev_alloc 4 rfl info24 rfl ?_); intro g1 w1 hb0 B1 hg1)
        | ((with_reducible refine g_store 4 ?_); go_must (refine ev_store rfl rfl B1 (news := encO l[i]) rfl info24 (Nat.le_refl 5) (by simp [encO, Value.oneCell']) ?_); intro w1 ho B1; replace hb0 := hb0.trans (ho.below hg1); replace HB := bthen HB hb0; replace hrw := hrw.below hb0; clear hb0 ho hg1))
      obtain ⟨wo, rfl⟩ : ∃ wo : World, wo = w1 := ⟨_, rfl⟩
      go_loopw [18] (fun v wr => ∃ k : Nat, k ≤ i ∧ v = .int .i64 k ∧ As (∀ k', k' < k → agreeB l[i] (l.getD k' ⟨0, ⟨#[]⟩, ⟨#[]⟩, 0, 0⟩) = true) ∧ Below w.heap.size w wr ∧ Rd encO 5 wr (some ⟨b, off, none⟩) l ∧ Blk wr g1 (encO l[i]) 24) (fun v _ => l.length - (intOf v).toNat)
      case atStart => exact ⟨0, Nat.zero_le _, rfl, ⟨fun j hj => by omega⟩, HB, hrw, B1⟩
      case round =>
        clear HB hrw B1
        obtain ⟨k, hk, rfl, hin, HB, hrw, B1⟩ := hrel
        by_cases hlt2 : k < i
        · have hcell := hrw.cell k (by omega)
          have c0 : wr.cell? ⟨b, off + k * 5, none⟩ = some (.int .i64 l[k].how) := hcell 0 _ rfl
          have c1 := hcell 1 _ rfl
          have c2 := hcell 2 _ rfl
          have c3 := hcell 3 _ rfl
          have c4 := hcell 4 _ rfl
          clear hcell
          cases hag : agreeB l[i] l[k]
          · go_wp2_with (first
              | ((with_reducible refine ev_alloc 6 rfl info24 rfl ?_); intro g2 w1 hb0 B2 hg2)
              | ((with_reducible refine g_store 6 ?_); go_must (refine ev_store rfl rfl B2 (news := encO l[k]) rfl info24 (Nat.le_refl 5) (by simp [encO, Value.oneCell']) ?_); intro w1 ho B2; replace hb0 := hb0.trans (ho.below hg2); replace HB := bthen HB hb0; replace hrw := hrw.below hb0; replace B1 := B1.below hb0; clear hb0 ho hg2; have C1 := B1.cells; have C2 := B2.cells; simp only [encO, List.take_zero, List.nil_append] at C1 C2)
              | (go_at_call 6; (with_reducible refine (agree6 l[i] l[k] _).mono ?_); rintro e w1 ⟨rfl, hb0⟩; replace HB := bthen HB hb0; replace hrw := hrw.below hb0; replace B1 := B1.below hb0))
            go_ret
            refine ⟨?_, HB⟩
            have : allB l = false := allB_false l i k hlt hlt2 hag
            rw [this]; rfl
          · go_wp2_with (first
              | ((with_reducible refine ev_alloc 6 rfl info24 rfl ?_); intro g2 w1 hb0 B2 hg2)
              | ((with_reducible refine g_store 6 ?_); go_must (refine ev_store rfl rfl B2 (news := encO l[k]) rfl info24 (Nat.le_refl 5) (by simp [encO, Value.oneCell']) ?_); intro w1 ho B2; replace hb0 := hb0.trans (ho.below hg2); replace HB := bthen HB hb0; replace hrw := hrw.below hb0; replace B1 := B1.below hb0; clear hb0 ho hg2; have C1 := B1.cells; have C2 := B2.cells; simp only [encO, List.take_zero, List.nil_append] at C1 C2)
              | (go_at_call 6; (with_reducible refine (agree6 l[i] l[k] _).mono ?_); rintro e w1 ⟨rfl, hb0⟩; replace HB := bthen HB hb0; replace hrw := hrw.below hb0; replace B1 := B1.below hb0))
            go_roundw
            case rel => exact ⟨k + 1, by omega, by go_num, ⟨fun k' hk' => by
              by_cases e : k' = k
              · subst e; rw [getD_at l k' (by omega)]; exact hag
              · exact hin.out k' (by omega)⟩, HB, hrw, B1⟩
            case measure => simp [intOf]; omega
        · go_wp2
          go_roundw
          case rel => exact ⟨i + 1, by omega, by go_num, ⟨fun j hj k' hk' => by
            by_cases e : j = i
            · subst e; rw [getD_at l j hlt]; exact hin.out k' (by omega)
            · exact hall.out j (by omega) k' hk'⟩, HB⟩
          case measure => simp [intOf]; omega
    · go_wp2
      go_ret
      refine ⟨?_, HB⟩
      have : allB l = true := allB_true l (fun j hj => hall.out j (by omega))
      rw [this]; rfl
end Go.Proofs.Ytbbnmlbalefnpaa
