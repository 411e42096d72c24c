/- The body of JudgePrefixes answers true of any strings and numbers. -/
import Derived.Test.YtbbnmlbalefnpaaJ7
namespace Go.Proofs.Ytbbnmlbalefnpaa
open Go.RowKit Go.Proofs.YtbbnmlbalefnpaaL
theorem one_encO : ∀ x, ∀ u ∈ encO x, u.oneCell' = true := fun x => by simp [encO, Value.oneCell']
theorem alT (x y z : Out) (A : Option Addr) (w : World) (hr : Rd encO 5 w A [x, y, z]) (h : allB [x, y, z] = true) : Calls Try.prog 11 #[.slice A 3 3] w fun e w' => e = .returned (.bool true) ∧ Below w.heap.size w w' := by
  rw [← h]; exact all11 [x, y, z] A 3 w hr (by simp) (Nat.le_refl _)
set_option maxHeartbeats 16000000 in
theorem law5 (out more text : ByteArray) (n how : Int) (k h : Nat) (w : World) (ho : out.size ≤ 140737488351232) (hm : more.size ≤ 140737488351232) (hk : k ≤ out.size) (hh : h < 3)
    (hp : ∀ w : World, Calls Try.prog 12 #[.int .i64 n, .int .i64 (↑out.size + 1)] w fun e w' => e = .returned (.int .i64 (k : Int)) ∧ w = w')
    (hq : ∀ w : World, Calls Try.prog 12 #[.int .i64 how, .int .i64 3] w fun e w' => e = .returned (.int .i64 (h : Int)) ∧ w = w') :
    Calls Try.prog 5 #[.string out, .int .i64 n, .string more, .int .i64 how, .string text] w fun e w' => e = .returned (.bool true) ∧ Below w.heap.size w w' := by
  have HP := As.mk hp
  have HQ := As.mk hq
  clear hp hq
  have q1 : (0 : Int) ≤ (k : Int) := by omega
  have q2 : (k : Int) ≤ (out.size : Int) := by omega
  have q3 : IntKind.i64.wrap (3 + (h : Int)) = 3 + (h : Int) := IntWalk.i64_in _ (by omega)
  have e1 : (out.extract 0 k).size = k := by simp; omega
  have e2 : (out.extract k out.size).size = out.size - k := by simp
  have e3 : (⟨#[0]⟩ : ByteArray).size = 1 := rfl
  have e4 : (out.extract 0 k ++ ⟨#[0]⟩ ++ out.extract k out.size).size = out.size + 1 := by rw [ByteArray.size_append, ByteArray.size_append, e1, e2, e3]; omega
  have a1 : ∀ w : World, (Op.stringOp .add (out.extract 0 k) ⟨#[0]⟩).run Try.prog w = .ok (.string (out.extract 0 k ++ ⟨#[0]⟩)) w := fun w => run_string_add_sum w _ _ (by omega)
  have a2 : ∀ w : World, (Op.stringOp .add (out.extract 0 k ++ ⟨#[0]⟩) (out.extract k out.size)).run Try.prog w = .ok (.string (out.extract 0 k ++ ⟨#[0]⟩ ++ out.extract k out.size)) w := fun w => run_string_add_sum w _ _ (by rw [ByteArray.size_append]; omega)
  have HB : Below w.heap.size w w := Below.refl _ _
  have HB1 : Below w.heap.size w w.drew := drew1 w
  go_enter Try.func5, Try.ntmps5
  go_wp2_with (go_at_call 12; (with_reducible refine (HP.out _).mono ?_); rintro e w1 ⟨rfl, rfl⟩)
  go_region_held3 (fun w' => Below w.heap.size w w') (first | assumption | exact HB1.alloc (by simp) _)
    (first
      | (go_at_call 12; (with_reducible refine (HQ.out _).mono ?_); rintro e w1 ⟨rfl, rfl⟩))
  all_goals
    refine gen_exit (B := w.heap.size) (w := w) (g := w.heap.size) (t := 24) (cs := encO (pA out k h)) ((Below.refl _ _).alloc (Nat.le_refl _) _).drew (Blk.new w (encO (pA out k h)) 24).drew ?_
    clear HB HB1
    intro w1 HB B1
    go_wp2_with (first
      | ((with_reducible refine ev_alloc 13 rfl info24 rfl ?_); intro g2 w1 hb0 B2 hg2)
      | ((with_reducible refine ev_alloc 14 rfl info24 rfl ?_); intro g3 w1 hb0 B3 hg3)
      | ((with_reducible refine g_store 13 ?_); go_must (refine ev_store rfl rfl B2 (news := encO (pB out text)) rfl info24 (Nat.le_refl 5) (one_encO _) ?_); intro w1 ho B2; replace hb0 := hb0.trans (ho.below hg2); replace HB := bthen HB hb0; replace B1 := B1.below hb0; clear ho hg2 hb0)
      | ((with_reducible refine g_store 14 ?_); go_must (refine ev_store rfl rfl B3 (news := encO (pC out more)) rfl info24 (Nat.le_refl 5) (one_encO _) ?_); intro w1 ho B3; replace hb0 := hb0.trans (ho.below hg3); replace HB := bthen HB hb0; replace B1 := B1.below hb0; replace B2 := B2.below hb0; clear ho hg3 hb0))
    have hs0 : Below w.heap.size w w1.drew := HB.trans ⟨rfl, rfl, rfl, Nat.le_refl _, fun _ _ => rfl⟩
    go_region_held3 (fun w' => Below w.heap.size w w') (first | assumption | exact hs0.alloc hs0.size _) (fail)
    refine gen_exit (B := w1.heap.size) (w := w1) (g := w1.heap.size) (t := 24) (cs := encO (pD out k)) ((Below.refl _ _).alloc (Nat.le_refl _) _).drew (Blk.new w1 (encO (pD out k)) 24).drew ?_
    clear hs0
    intro w1 hb0 B4
    replace HB := bthen HB hb0
    replace B1 := B1.below hb0
    replace B2 := B2.below hb0
    replace B3 := B3.below hb0
    clear hb0
    have C1 := B1.cells
    have C2 := B2.cells
    have C3 := B3.cells
    have C4 := B4.cells
    simp only [encO, pA, pB, pC, pD, List.take_zero, List.nil_append] at C1 C2 C3 C4
    have hAB := As.mk (agAB5 out text k h hk hh)
    have hBA := As.mk ((agreeB_symm (pA out k h) (pB out text)).trans hAB.out)
    have hBC := As.mk (agBC5 out text more)
    have hAC := As.mk (agAC5 out more k h hk hh)
    have hBD := As.mk (agBD5 out text k hk)
    have hAL := As.mk (alABC out text more k h hk hh)
    go_wp2_with (first
      | (go_at_call 6; (first | (with_reducible refine (agT (pA out k h) (pB out text) true _ hAB.out).mono ?_) | (with_reducible refine (agT (pB out text) (pA out k h) true _ hBA.out).mono ?_) | (with_reducible refine (agT (pB out text) (pC out more) true _ hBC.out).mono ?_) | (with_reducible refine (agT (pA out k h) (pC out more) true _ hAC.out).mono ?_) | (with_reducible refine (agT (pB out text) (pD out k) _ _ hBD.out).mono ?_)); rintro e w1 ⟨rfl, hb0⟩; replace HB := bthen HB hb0; replace B1 := B1.below hb0; replace B2 := B2.below hb0; replace B3 := B3.below hb0; replace B4 := B4.below hb0; clear hb0 C1 C2 C3 C4; have C1 := B1.cells; have C2 := B2.cells; have C3 := B3.cells; have C4 := B4.cells; simp only [encO, List.take_zero, List.nil_append] at C1 C2 C3 C4)
      | ((with_reducible refine g_dst 74 ?_); go_must (refine ev_lit (v := fun g => .slice (some ⟨g, 0, none⟩) 3 3) 74 rfl (cs := encO (pA out k h) ++ encO (pB out text) ++ encO (pC out more)) (t := 24) (by go_simp; rfl) ?_); intro g5 w1 hb0 B5 _; replace HB := bthen HB hb0; replace B1 := B1.below hb0; replace B2 := B2.below hb0; replace B3 := B3.below hb0; replace B4 := B4.below hb0; clear hb0 C1 C2 C3 C4)
      | (go_at_call 11; (with_reducible refine (alT _ _ _ _ _ (B5.rd (fun _ => rfl) rfl) hAL.out).mono ?_); rintro e w1 ⟨rfl, hb0⟩; replace HB := bthen HB hb0; replace B1 := B1.below hb0; replace B2 := B2.below hb0; replace B3 := B3.below hb0; replace B4 := B4.below hb0; clear hb0; have C1 := B1.cells; have C2 := B2.cells; have C3 := B3.cells; have C4 := B4.cells; simp only [encO, List.take_zero, List.nil_append] at C1 C2 C3 C4)
      | (go_at_call 10; (with_reducible refine (awake10 _).mono ?_); rintro e w1 ⟨rfl, hb0⟩; replace HB := bthen HB hb0))
    go_ret
    exact ⟨rfl, HB⟩
end Go.Proofs.Ytbbnmlbalefnpaa
