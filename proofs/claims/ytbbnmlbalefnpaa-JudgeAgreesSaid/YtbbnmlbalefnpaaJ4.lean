/- Agreement is symmetric and every outcome agrees with itself; the body of JudgeAgrees answers true. -/
import Derived.Test.YtbbnmlbalefnpaaJ3
namespace Go.Proofs.Ytbbnmlbalefnpaa
open Go.RowKit Go.Proofs.YtbbnmlbalefnpaaL
theorem beq_symm' {α : Type} [BEq α] [LawfulBEq α] (a b : α) : (a == b) = (b == a) := by
  rw [Bool.eq_iff_iff, beq_iff_eq, beq_iff_eq]; exact eq_comm
theorem sameB_symm (x y : Out) : sameB y x = sameB x y := by
  unfold sameB
  rw [beq_symm' y.how, beq_symm' y.out.toList, beq_symm' y.text.toList, beq_symm' y.err, beq_symm' y.at_]
theorem agreeB_symm (x y : Out) : agreeB y x = agreeB x y := by
  unfold agreeB
  rw [sameB_symm, Bool.and_comm (wholeB y), Bool.or_comm (preB y.out x.out)]
theorem preB_self (s : ByteArray) : preB s s = true := by
  unfold preB
  have : s.extract 0 s.size = s := by simp
  rw [this]; simp
theorem agreeB_self (x : Out) : agreeB x x = true := by
  unfold agreeB
  split
  · simp [sameB]
  · simp [preB_self]
/-- what the region of the first law reads stays -/
def Two (w : World) (g1 g2 : Nat) (x y : Out) (w' : World) : Prop :=
  Below w.heap.size w w' ∧ (∀ i, w'.cell? ⟨g1, i, none⟩ = ([.int .i64 x.how, .string x.out, .string x.text, .int .i64 x.err, .int .i64 x.at_] : List Value)[i]?) ∧ (∀ i, w'.cell? ⟨g2, i, none⟩ = ([.int .i64 y.how, .string y.out, .string y.text, .int .i64 y.err, .int .i64 y.at_] : List Value)[i]?)
theorem cells_below {W w1 : World} {g : Nat} {cs : List Value} (hb : Below W.heap.size W w1) (h0 : 0 < cs.length) (h : ∀ i, W.cell? ⟨g, i, none⟩ = cs[i]?) : ∀ i, w1.cell? ⟨g, i, none⟩ = cs[i]? := fun i => by
  rw [← h i]
  exact hb.cell (World.block_lt_of_cell? W (⟨g, 0, none⟩ : Addr) ((h 0).trans (List.getElem?_eq_getElem h0)))
theorem Two.next {w W w1 : World} {g1 g2 : Nat} {x y : Out} (h : Two w g1 g2 x y W) (hb : Below W.heap.size W w1) : Two w g1 g2 x y w1 :=
  ⟨bthen h.1 hb, cells_below hb (Nat.succ_pos 4) h.2.1, cells_below hb (Nat.succ_pos 4) h.2.2⟩
theorem Two.fin {w W : World} {g1 g2 : Nat} {x y : Out} (h : Two w g1 g2 x y W) : Below w.heap.size w W := h.1
theorem drew1 (W : World) : Below W.heap.size W W.drew := ⟨rfl, rfl, rfl, Nat.le_refl _, fun _ _ => rfl⟩
theorem agYX (x y : Out) (w : World) :
    Calls Try.prog 6 #[.agg #[.int .i64 y.how, .string y.out, .string y.text, .int .i64 y.err, .int .i64 y.at_], .agg #[.int .i64 x.how, .string x.out, .string x.text, .int .i64 x.err, .int .i64 x.at_]] w
      fun e w' => e = .returned (.bool (agreeB x y)) ∧ Below w.heap.size w w' := by rw [← agreeB_symm]; exact agree6 y x w
theorem agXX (x : Out) (w : World) :
    Calls Try.prog 6 #[.agg #[.int .i64 x.how, .string x.out, .string x.text, .int .i64 x.err, .int .i64 x.at_], .agg #[.int .i64 x.how, .string x.out, .string x.text, .int .i64 x.err, .int .i64 x.at_]] w
      fun e w' => e = .returned (.bool true) ∧ Below w.heap.size w w' := by rw [← agreeB_self x]; exact agree6 x x w
set_option maxHeartbeats 8000000 in
theorem law3 (x y : Out) (w : World) :
    Calls Try.prog 3 #[.agg #[.int .i64 x.how, .string x.out, .string x.text, .int .i64 x.err, .int .i64 x.at_], .agg #[.int .i64 y.how, .string y.out, .string y.text, .int .i64 y.err, .int .i64 y.at_]] w
      fun e w' => e = .returned (.bool true) ∧ Below w.heap.size w w' := by
  go_enter Try.func3, Try.ntmps3
  go_wp2_with (first
      | ((with_reducible refine ev_box 2 rfl (cs := [.int .i64 x.how, .string x.out, .string x.text, .int .i64 x.err, .int .i64 x.at_]) rfl ?_); intro g1 w1 HB B1 _)
      | ((with_reducible refine ev_box 3 rfl (cs := [.int .i64 y.how, .string y.out, .string y.text, .int .i64 y.err, .int .i64 y.at_]) rfl ?_); intro g2 w1 hb B2 _; replace HB := bthen HB hb; replace B1 := B1.below hb))
  have hS : Two w g1 g2 x y w1 := ⟨HB, B1.cells, B2.cells⟩
  have hS1 := hS.next (drew1 w1)
  unfold Two at hS1
  go_region_held3 (fun w' => Below w.heap.size w w' ∧ (∀ i, w'.cell? ⟨g1, i, none⟩ = ([.int .i64 x.how, .string x.out, .string x.text, .int .i64 x.err, .int .i64 x.at_] : List Value)[i]?) ∧ (∀ i, w'.cell? ⟨g2, i, none⟩ = ([.int .i64 y.how, .string y.out, .string y.text, .int .i64 y.err, .int .i64 y.at_] : List Value)[i]?))
    (first | assumption | (refine Two.next ?_ hb0; assumption))
    (first
      | (go_at_call 6; (first | (with_reducible refine (agXX x _).mono ?_) | (with_reducible refine (agree6 x y _).mono ?_) | (with_reducible refine (agYX x y _).mono ?_)); rintro e w1 ⟨rfl, hb0⟩)
      | (go_at_call 7; (with_reducible refine (agree7 x y _).mono ?_); rintro e w1 ⟨rfl, hb0⟩)
      | (go_at_call 8; (with_reducible refine (whole8 x _).mono ?_); rintro e w1 ⟨rfl, hb0⟩)
      | (go_at_call 9; (with_reducible refine (whole9 x _).mono ?_); rintro e w1 ⟨rfl, hb0⟩)
      | (go_at_call 10; (with_reducible refine (awake10 _).mono ?_); rintro e w1 ⟨rfl, hb0⟩))
  go_wp2
  go_ret
  refine ⟨rfl, Two.fin (g1 := g1) (g2 := g2) (x := x) (y := y) ?_⟩
  assumption
end Go.Proofs.Ytbbnmlbalefnpaa
