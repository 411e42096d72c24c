/- What judge.Whole, judge.Agree, the definitions beside the statements, and strings.HasPrefix answer of any outcomes: Lean functions of their fields; nothing that was there is changed. -/
import Derived.Test.YtbbnmlbalefnpaaRows
import Derived.Test.YtbbnmlbalefnpaaLib
import Derived.WalkKit
import Derived.ProofKit
import Derived.OpenShut
import Derived.Outline
import Derived.Deep.QuietTactic
import Derived.BigQuiet
import Derived.Deep.RegionHeld3
namespace Go.Proofs.Ytbbnmlbalefnpaa
open Go.RowKit Go.Proofs.YtbbnmlbalefnpaaL
structure Out where
  how : Int
  out : ByteArray
  text : ByteArray
  err : Int
  at_ : Int
def wholeB (x : Out) : Bool := x.how == 1 || x.how == 2 || x.how == 6
def preB (s p : ByteArray) : Bool := decide (p.size ≤ s.size) && (s.extract 0 p.size).toList == p.toList
def sameB (x y : Out) : Bool := x.how == y.how && (x.out.toList == y.out.toList && (x.text.toList == y.text.toList && (x.err == y.err && x.at_ == y.at_)))
def agreeB (x y : Out) : Bool := if wholeB x && wholeB y then sameB x y else preB x.out y.out || preB y.out x.out
theorem whole8 (x : Out) (w : World) :
    Calls Try.prog 8 #[.agg #[.int .i64 x.how, .string x.out, .string x.text, .int .i64 x.err, .int .i64 x.at_]] w fun e w' => e = .returned (.bool (wholeB x)) ∧ Below w.heap.size w w' := by
  go_enter Try.func8, Try.ntmps8
  go_wp2
  all_goals go_ret
  all_goals refine ⟨?_, (Below.refl _ _).alloc (Nat.le_refl _) _⟩
  all_goals simp [wholeB, *]
theorem whole9 (x : Out) (w : World) :
    Calls Try.prog 9 #[.agg #[.int .i64 x.how, .string x.out, .string x.text, .int .i64 x.err, .int .i64 x.at_]] w fun e w' => e = .returned (.bool (wholeB x)) ∧ Below w.heap.size w w' := by
  go_enter Try.func9, Try.ntmps9
  go_wp2
  all_goals go_ret
  all_goals refine ⟨?_, (Below.refl _ _).alloc (Nat.le_refl _) _⟩
  all_goals simp [wholeB, *]
theorem pre14 (s p : ByteArray) (w : World) :
    Calls Try.prog 14 #[.string s, .string p] w fun e w' => e = .returned (.bool (preB s p)) ∧ w' = w := by
  by_cases h : p.size ≤ s.size
  all_goals
    go_enter Try.func14, Try.ntmps14
    go_wp2
    go_ret
    refine ⟨?_, rfl⟩
    simp [preB, *]
    done
theorem pre13 (s p : ByteArray) (w : World) :
    Calls Try.prog 13 #[.string s, .string p] w fun e w' => e = .returned (.bool (preB s p)) ∧ w = w' := by
  go_enter Try.func13, Try.ntmps13
  go_wp2_with (go_at_call 14; refine (pre14 _ _ _).mono ?_; rintro e w' ⟨rfl, rfl⟩)
  go_ret
  exact ⟨rfl, rfl⟩
set_option maxHeartbeats 8000000 in
theorem agree6 (x y : Out) (w : World) :
    Calls Try.prog 6 #[.agg #[.int .i64 x.how, .string x.out, .string x.text, .int .i64 x.err, .int .i64 x.at_], .agg #[.int .i64 y.how, .string y.out, .string y.text, .int .i64 y.err, .int .i64 y.at_]] w
      fun e w' => e = .returned (.bool (agreeB x y)) ∧ Below w.heap.size w w' := by
  by_cases h1 : wholeB x = true
  all_goals by_cases h2 : wholeB y = true
  all_goals by_cases h3 : preB x.out y.out = true
  all_goals
    go_enter Try.func6, Try.ntmps6
    go_wp2_with (first
      | ((with_reducible refine ev_box 2 rfl (cs := [.int .i64 x.how, .string x.out, .string x.text, .int .i64 x.err, .int .i64 x.at_]) rfl ?_); intro g1 w1 HB B1 _; have C1 := B1.cells)
      | ((with_reducible refine ev_box 3 rfl (cs := [.int .i64 y.how, .string y.out, .string y.text, .int .i64 y.err, .int .i64 y.at_]) rfl ?_); intro g2 w1 hb B2 _; replace HB := bthen HB hb; replace B1 := B1.below hb; clear hb C1; have C1 := B1.cells; have C2 := B2.cells)
      | (go_at_call 8; (first | (with_reducible refine (whole8 x _).mono ?_) | (with_reducible refine (whole8 y _).mono ?_)); rintro e w1 ⟨rfl, hb⟩; replace HB := bthen HB hb; replace B1 := B1.below hb; replace B2 := B2.below hb; clear C1 C2 hb; have C1 := B1.cells; have C2 := B2.cells)
      | (go_at_call 13; (with_reducible refine (pre13 _ _ _).mono ?_); rintro e w' ⟨rfl, rfl⟩))
    all_goals go_ret
    all_goals refine ⟨?_, HB⟩
    all_goals simp [agreeB, sameB, *]
theorem drew_below {w W : World} (h : Below w.heap.size w W) (n : Nat) : Below w.heap.size w (W.drewN n) := ⟨h.os, h.tape, h.output, h.size, h.block⟩
set_option maxHeartbeats 8000000 in
theorem agree7 (x y : Out) (w : World) :
    Calls Try.prog 7 #[.agg #[.int .i64 x.how, .string x.out, .string x.text, .int .i64 x.err, .int .i64 x.at_], .agg #[.int .i64 y.how, .string y.out, .string y.text, .int .i64 y.err, .int .i64 y.at_]] w
      fun e w' => e = .returned (.bool (agreeB x y)) ∧ Below w.heap.size w w' := by
  by_cases h0 : wholeB x = true ∧ wholeB y = true
  · obtain ⟨h1, h2⟩ := h0
    go_enter Try.func7, Try.ntmps7
    go_wp2_with (first
      | ((with_reducible refine ev_box 2 rfl (cs := [.int .i64 x.how, .string x.out, .string x.text, .int .i64 x.err, .int .i64 x.at_]) rfl ?_); intro g1 w1 HB B1 _; have C1 := B1.cells)
      | ((with_reducible refine ev_box 3 rfl (cs := [.int .i64 y.how, .string y.out, .string y.text, .int .i64 y.err, .int .i64 y.at_]) rfl ?_); intro g2 w1 hb B2 _; replace HB := bthen HB hb; replace B1 := B1.below hb; clear hb C1; have C1 := B1.cells; have C2 := B2.cells)
      | (go_at_call 9; (first | (with_reducible refine (whole9 x _).mono ?_) | (with_reducible refine (whole9 y _).mono ?_)); rintro e w1 ⟨rfl, hb⟩; replace HB := bthen HB hb; replace B1 := B1.below hb; replace B2 := B2.below hb; clear C1 C2 hb; have C1 := B1.cells; have C2 := B2.cells))
    all_goals go_ret
    all_goals refine ⟨?_, HB⟩
    all_goals simp [agreeB, sameB, *]
  · have h0b : agreeB x y = (preB x.out y.out || preB y.out x.out) := by
      unfold agreeB
      rw [if_neg (by simpa using h0)]
    have hc : wholeB x = false ∨ (wholeB x = true ∧ wholeB y = false) := by
      cases h1 : wholeB x
      · exact .inl rfl
      · cases h2 : wholeB y
        · exact .inr ⟨rfl, rfl⟩
        · exact absurd ⟨h1, h2⟩ h0
    by_cases c1 : x.out.size ≤ y.out.size
    · have c1b : decide (x.out.size ≤ y.out.size) = true := decide_eq_true c1
      cases c2 : ((y.out.extract 0 x.out.size).toList == x.out.toList)
      · by_cases c3 : y.out.size ≤ x.out.size
        · have c3b : decide (y.out.size ≤ x.out.size) = true := decide_eq_true c3
          have hr : agreeB x y = ((x.out.extract 0 y.out.size).toList == y.out.toList) := by rw [h0b]; simp [preB, *]
          have hr' := As.mk hr
          clear hr h0b h0
          rcases hc with h1 | ⟨h1, h2⟩
          all_goals
            go_enter Try.func7, Try.ntmps7
            go_wp2_with (first
                | ((with_reducible refine ev_box 2 rfl (cs := [.int .i64 x.how, .string x.out, .string x.text, .int .i64 x.err, .int .i64 x.at_]) rfl ?_); intro g1 w1 HB B1 _; have C1 := B1.cells)
                | ((with_reducible refine ev_box 3 rfl (cs := [.int .i64 y.how, .string y.out, .string y.text, .int .i64 y.err, .int .i64 y.at_]) rfl ?_); intro g2 w1 hb B2 _; replace HB := bthen HB hb; replace B1 := B1.below hb; clear hb C1; have C1 := B1.cells; have C2 := B2.cells)
                | (go_at_call 9; (first | (with_reducible refine (whole9 x _).mono ?_) | (with_reducible refine (whole9 y _).mono ?_)); rintro e w1 ⟨rfl, hb⟩; replace HB := bthen HB hb; replace B1 := B1.below hb; replace B2 := B2.below hb; clear C1 C2 hb; have C1 := B1.cells; have C2 := B2.cells))
            go_quiet (fail)
            go_wp2
            go_ret
            refine ⟨?_, drew_below HB _⟩
            rw [hr'.out]; simp
        · have c3b : decide (y.out.size ≤ x.out.size) = false := decide_eq_false c3
          have hr : agreeB x y = false := by rw [h0b]; simp [preB, *]
          have hr' := As.mk hr
          clear hr h0b h0
          rcases hc with h1 | ⟨h1, h2⟩
          all_goals
            go_enter Try.func7, Try.ntmps7
            go_wp2_with (first
                | ((with_reducible refine ev_box 2 rfl (cs := [.int .i64 x.how, .string x.out, .string x.text, .int .i64 x.err, .int .i64 x.at_]) rfl ?_); intro g1 w1 HB B1 _; have C1 := B1.cells)
                | ((with_reducible refine ev_box 3 rfl (cs := [.int .i64 y.how, .string y.out, .string y.text, .int .i64 y.err, .int .i64 y.at_]) rfl ?_); intro g2 w1 hb B2 _; replace HB := bthen HB hb; replace B1 := B1.below hb; clear hb C1; have C1 := B1.cells; have C2 := B2.cells)
                | (go_at_call 9; (first | (with_reducible refine (whole9 x _).mono ?_) | (with_reducible refine (whole9 y _).mono ?_)); rintro e w1 ⟨rfl, hb⟩; replace HB := bthen HB hb; replace B1 := B1.below hb; replace B2 := B2.below hb; clear C1 C2 hb; have C1 := B1.cells; have C2 := B2.cells))
            go_quiet (fail)
            go_wp2
            go_ret
            refine ⟨?_, drew_below HB _⟩
            rw [hr'.out]; simp
      · have hr : agreeB x y = true := by rw [h0b]; simp [preB, *]
        have hr' := As.mk hr
        clear hr h0b h0
        rcases hc with h1 | ⟨h1, h2⟩
        all_goals
          go_enter Try.func7, Try.ntmps7
          go_wp2_with (first
              | ((with_reducible refine ev_box 2 rfl (cs := [.int .i64 x.how, .string x.out, .string x.text, .int .i64 x.err, .int .i64 x.at_]) rfl ?_); intro g1 w1 HB B1 _; have C1 := B1.cells)
              | ((with_reducible refine ev_box 3 rfl (cs := [.int .i64 y.how, .string y.out, .string y.text, .int .i64 y.err, .int .i64 y.at_]) rfl ?_); intro g2 w1 hb B2 _; replace HB := bthen HB hb; replace B1 := B1.below hb; clear hb C1; have C1 := B1.cells; have C2 := B2.cells)
              | (go_at_call 9; (first | (with_reducible refine (whole9 x _).mono ?_) | (with_reducible refine (whole9 y _).mono ?_)); rintro e w1 ⟨rfl, hb⟩; replace HB := bthen HB hb; replace B1 := B1.below hb; replace B2 := B2.below hb; clear C1 C2 hb; have C1 := B1.cells; have C2 := B2.cells))
          go_quiet (fail)
          go_wp2
          go_ret
          refine ⟨?_, drew_below HB _⟩
          rw [hr'.out]; simp
    · have c1b : decide (x.out.size ≤ y.out.size) = false := decide_eq_false c1
      have c3 : y.out.size ≤ x.out.size := by omega
      have c3b : decide (y.out.size ≤ x.out.size) = true := decide_eq_true c3
      have hr : agreeB x y = ((x.out.extract 0 y.out.size).toList == y.out.toList) := by rw [h0b]; simp [preB, *]
      have hr' := As.mk hr
      clear hr h0b h0
      rcases hc with h1 | ⟨h1, h2⟩
      all_goals
        go_enter Try.func7, Try.ntmps7
        go_wp2_with (first
            | ((with_reducible refine ev_box 2 rfl (cs := [.int .i64 x.how, .string x.out, .string x.text, .int .i64 x.err, .int .i64 x.at_]) rfl ?_); intro g1 w1 HB B1 _; have C1 := B1.cells)
            | ((with_reducible refine ev_box 3 rfl (cs := [.int .i64 y.how, .string y.out, .string y.text, .int .i64 y.err, .int .i64 y.at_]) rfl ?_); intro g2 w1 hb B2 _; replace HB := bthen HB hb; replace B1 := B1.below hb; clear hb C1; have C1 := B1.cells; have C2 := B2.cells)
            | (go_at_call 9; (first | (with_reducible refine (whole9 x _).mono ?_) | (with_reducible refine (whole9 y _).mono ?_)); rintro e w1 ⟨rfl, hb⟩; replace HB := bthen HB hb; replace B1 := B1.below hb; replace B2 := B2.below hb; clear C1 C2 hb; have C1 := B1.cells; have C2 := B2.cells))
        go_quiet (fail)
        go_wp2
        go_ret
        refine ⟨?_, drew_below HB _⟩
        rw [hr'.out]; simp
end Go.Proofs.Ytbbnmlbalefnpaa
