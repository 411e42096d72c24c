/- The statements' own example holds. -/
import Derived.Test.YtbbnmlbalefnpaaJ2
namespace Go.Proofs.Ytbbnmlbalefnpaa
open Go.RowKit Go.Proofs.YtbbnmlbalefnpaaL
def oA : Out := ⟨4, ⟨#[97, 98]⟩, ⟨#[]⟩, 0, 0⟩
def oB : Out := ⟨1, ⟨#[97, 98, 99]⟩, ⟨#[]⟩, 0, 0⟩
def o1 : Out := ⟨1, ⟨#[]⟩, ⟨#[49]⟩, 0, 0⟩
def o2 : Out := ⟨1, ⟨#[]⟩, ⟨#[50]⟩, 0, 0⟩
theorem agAB : agreeB oA oB = true := by decide +kernel
theorem ag12 : agreeB o1 o2 = false := by decide +kernel
theorem alAB : allB [oA, oB] = true := by decide +kernel
theorem callAB (w : World) : Calls Try.prog 6 #[.agg #[.int .i64 4, .string ⟨#[97, 98]⟩, .string ⟨#[]⟩, .int .i64 0, .int .i64 0], .agg #[.int .i64 1, .string ⟨#[97, 98, 99]⟩, .string ⟨#[]⟩, .int .i64 0, .int .i64 0]] w
      fun e w' => e = .returned (.bool true) ∧ Below w.heap.size w w' := (agree6 oA oB w).mono fun _ _ ⟨h, hb⟩ => ⟨by rw [h, agAB], hb⟩
theorem call12 (w : World) : Calls Try.prog 6 #[.agg #[.int .i64 1, .string ⟨#[]⟩, .string ⟨#[49]⟩, .int .i64 0, .int .i64 0], .agg #[.int .i64 1, .string ⟨#[]⟩, .string ⟨#[50]⟩, .int .i64 0, .int .i64 0]] w
      fun e w' => e = .returned (.bool false) ∧ Below w.heap.size w w' := (agree6 o1 o2 w).mono fun _ _ ⟨h, hb⟩ => ⟨by rw [h, ag12], hb⟩
theorem callAll (w : World) (A : Option Addr) (h : Rd encO 5 w A [oA, oB]) : Calls Try.prog 11 #[.slice A 2 2] w
      fun e w' => e = .returned (.bool true) ∧ Below w.heap.size w w' := (all11 [oA, oB] A 2 w h (by decide) (by decide)).mono fun _ _ ⟨h, hb⟩ => ⟨by rw [h, alAB], hb⟩
set_option maxHeartbeats 4000000 in
theorem awake10 (w : World) : Calls Try.prog 10 #[] w fun e w' => e = .returned (.bool true) ∧ Below w.heap.size w w' := by
  go_enter Try.func10, Try.ntmps10
  go_wp2_with (first
    | ((with_reducible refine ev_alloc 1 rfl info24 rfl ?_); intro g1 w1 hb0 B1 hg1)
    | ((with_reducible refine ev_alloc 2 rfl info24 rfl ?_); intro g2 w1 hb1 B2 hg2)
    | ((with_reducible refine g_store 1 ?_); go_must (refine ev_store rfl rfl B1 (news := encO oA) rfl info24 (Nat.le_refl 5) (by simp [encO, Value.oneCell']) ?_); intro w1 ho B1; replace hb0 := hb0.trans (ho.below hg1); have HB := hb0; clear hb0 ho hg1)
    | ((with_reducible refine g_store 2 ?_); go_must (refine ev_store rfl rfl B2 (news := encO oB) rfl info24 (Nat.le_refl 5) (by simp [encO, Value.oneCell']) ?_); intro w1 ho B2; replace hb1 := hb1.trans (ho.below hg2); replace HB := bthen HB hb1; replace B1 := B1.below hb1; clear hb1 ho hg2; have C1 := B1.cells; have C2 := B2.cells; simp only [encO, oA, oB, List.take_zero, List.nil_append] at C1 C2)
    | (go_at_call 6; (first | (with_reducible refine (callAB _).mono ?_) | (with_reducible refine (call12 _).mono ?_)); rintro e w1 ⟨rfl, hb0⟩; replace HB := bthen HB hb0; replace B1 := B1.below hb0; replace B2 := B2.below hb0; clear C1 C2 hb0; have C1 := B1.cells; have C2 := B2.cells; simp only [encO, oA, oB, List.take_zero, List.nil_append] at C1 C2)
    | ((with_reducible refine g_dst 17 ?_); go_must (refine ev_lit (v := fun g => .slice (some ⟨g, 0, none⟩) 2 2) 17 rfl (cs := encO oA ++ encO oB) (t := 24) (by go_simp; rfl) ?_); intro g3 w1 hb0 B3 _; replace HB := bthen HB hb0)
    | (go_at_call 11; (with_reducible refine (callAll _ _ (B3.rd (fun _ => rfl) rfl)).mono ?_); rintro e w1 ⟨rfl, hb0⟩; replace HB := bthen HB hb0))
  go_ret
  exact ⟨rfl, HB⟩
end Go.Proofs.Ytbbnmlbalefnpaa
