/- A part of the proof. -/
import Derived.Test.YtdapbegadhcpcaaGreatDoorRfA
set_option linter.unusedVariables false
set_option linter.unusedSimpArgs false
namespace Go.Proofs.YtdapbegadhcpcaaGreatDoor
open Go.RowKit Go.Proofs.YtdapbegadhcpcaaGreatDoorL Go.Proofs.YtdapbegadhcpcaaGreatDoorM
def NestR (w : World) (g : Nat) (T : ByteArray) : Option Nat → Prop
 | some e => RR w g T e 0 0
 | none => ∃ j, RR w g T j T.size 10
set_option maxRecDepth 8000 in
set_option maxHeartbeats 1000000 in
theorem nested_any {w : World} {g i : Nat} {T : ByteArray} (R : RR w g T i 0 0) (hT : T.size ≤ 65536) (h0 : pre T.data.toList i [35, 124] = true) :
 Calls Tryz.prog 30 #[.pointer (some ⟨g, 0, none⟩)] w fun x w' => x = .returned (.tuple #[]) ∧ Upg g w w' ∧
  NestR w' g T (nestF T.data.toList i 0) := by
 have hi := (pre2_lt h0).2.2
 have hsl := size_list T
 obtain ⟨N, hN⟩ : ∃ N, N = nestF T.data.toList i 0 := ⟨_, rfl⟩
 rw [← hN]
 go_enter Tryz.func30, Tryz.ntmps30
 go_wp2
 go_loopw [2] (fun v wr => ∃ j n : Nat, v = .int .i64 (n : Int) ∧ n ≤ j ∧ j ≤ T.size ∧ As (1 ≤ n ∨ n = 0 ∧ pre T.data.toList j [35, 124] = true) ∧ As (N = nestF T.data.toList j n) ∧ RR wr g T j 0 0 ∧ Upg g w wr) (fun v wr => T.size - atOf wr g)
 case atStart => exact ⟨i, 0, rfl, by omega, by omega, ⟨.inr ⟨rfl, h0⟩⟩, ⟨hN⟩, R, Upg.refl _ _⟩
 case round =>
  clear R
  obtain ⟨j, n, rfl, hnj, hj, h1, hNj, R, hu⟩ := hrel
  have C := R.out.cells
  have hat := As.mk R.at_
  by_cases hm : j < T.size
  · have d1 : decide (T.size ≤ j) = false := decide_eq_false (by omega)
    have hin := nestF_in T.data.toList (i := j) (n := n) (by omega)
    rw [← hNj.out] at hin
    have Hin := As.mk hin
    clear hin
    cases a1 : pre T.data.toList j [35, 124] with
    | true =>
      have hj2 := (pre2_lt a1).2.2
      have Hn : As (N = nestF T.data.toList (j + 2) (n + 1)) := ⟨by rw [Hin.out, if_pos a1]⟩
      go_wp2_with (first
       | (go_at_call 16; (with_reducible refine (rend_b R false d1).mono ?_); rintro e wn ⟨vn, rfl, rfl, hb⟩; replace R := R.below hb; clear C; have C := R.out.cells; replace hu := hu.trans (Upg.of_below hb); clear hb)
       | (go_at_call 29; (with_reducible refine (rtwo_b R hj hT 35 124 true a1).mono ?_); rintro e wn ⟨vn, rfl, rfl, hb⟩; replace R := R.below hb; clear C; have C := R.out.cells; replace hu := hu.trans (Upg.of_below hb); clear hb)
       | ((with_reducible refine g_store 24 ?_); go_must (refine ev_store rfl rfl R.out (news := [.int .i64 ((j + 2 : Nat) : Int)]) (by first | rfl | (go_simp; first | rfl | go_num | (simp; omega))) infoI (by simp) (by simp [Value.oneCell']) ?_); intro wn ho Bn; simp only [zI, zA, zC, zD, zE, zF, zH, zB, zG, Nat.reduceAdd] at Bn; have R2 : RR wn g T (j + 2) 0 0 := ⟨Bn⟩; clear Bn; have hq := Upg.of_only ho; clear C R; have R := R2; clear R2; have C := R.out.cells; replace hu := hu.trans hq; clear hq; clear ho))
      go_roundw
      case rel => exact ⟨j + 2, n + 1, by go_num, by omega, hj2, ⟨.inl (by omega)⟩, Hn, R, hu⟩
      case measure => rw [R.at_, hat.out]; omega
    | false =>
      have hn1 : 1 ≤ n := by
       rcases h1.out with h | ⟨_, h⟩
       · exact h
       · rw [a1] at h; cases h
      cases a2 : pre T.data.toList j [124, 35] with
      | true =>
        have hj2 := (pre2_lt a2).2.2
        have Hn : As (N = if n ≤ 1 then some (j + 2) else nestF T.data.toList (j + 2) (n - 1)) := ⟨by rw [Hin.out, if_neg (by rw [a1]; decide), if_pos a2]⟩
        by_cases hn2 : n = 1
        · subst hn2
          have Hn2 : As (N = some (j + 2)) := ⟨by rw [Hn.out, if_pos (by omega)]⟩
          go_wp2_with (first
           | (go_at_call 16; (with_reducible refine (rend_b R false d1).mono ?_); rintro e wn ⟨vn, rfl, rfl, hb⟩; replace R := R.below hb; clear C; have C := R.out.cells; replace hu := hu.trans (Upg.of_below hb); clear hb)
           | (go_at_call 29; (with_reducible refine (rtwo_b R hj hT 35 124 false a1).mono ?_); rintro e wn ⟨vn, rfl, rfl, hb⟩; replace R := R.below hb; clear C; have C := R.out.cells; replace hu := hu.trans (Upg.of_below hb); clear hb)
           | (go_at_call 29; (with_reducible refine (rtwo_b R hj hT 124 35 true a2).mono ?_); rintro e wn ⟨vn, rfl, rfl, hb⟩; replace R := R.below hb; clear C; have C := R.out.cells; replace hu := hu.trans (Upg.of_below hb); clear hb)
           | ((with_reducible refine g_store 36 ?_); go_must (refine ev_store rfl rfl R.out (news := [.int .i64 ((j + 2 : Nat) : Int)]) (by first | rfl | (go_simp; first | rfl | go_num | (simp; omega))) infoI (by simp) (by simp [Value.oneCell']) ?_); intro wn ho Bn; simp only [zI, zA, zC, zD, zE, zF, zH, zB, zG, Nat.reduceAdd] at Bn; have R2 : RR wn g T (j + 2) 0 0 := ⟨Bn⟩; clear Bn; have hq := Upg.of_only ho; clear C R; have R := R2; clear R2; have C := R.out.cells; replace hu := hu.trans hq; clear hq; clear ho))
          refine bodyPost_ret (results_none rfl _ _ _) rfl ?_
          exact ⟨rfl, hu, by rw [Hn2.out]; exact R⟩
        · have Hn2 : As (N = nestF T.data.toList (j + 2) (n - 1)) := ⟨by rw [Hn.out, if_neg (by omega)]⟩
          have z1 : ((n : Int) - 1 == 0) = false := by simp; omega
          go_wp2_with (first
           | (go_at_call 16; (with_reducible refine (rend_b R false d1).mono ?_); rintro e wn ⟨vn, rfl, rfl, hb⟩; replace R := R.below hb; clear C; have C := R.out.cells; replace hu := hu.trans (Upg.of_below hb); clear hb)
           | (go_at_call 29; (with_reducible refine (rtwo_b R hj hT 35 124 false a1).mono ?_); rintro e wn ⟨vn, rfl, rfl, hb⟩; replace R := R.below hb; clear C; have C := R.out.cells; replace hu := hu.trans (Upg.of_below hb); clear hb)
           | (go_at_call 29; (with_reducible refine (rtwo_b R hj hT 124 35 true a2).mono ?_); rintro e wn ⟨vn, rfl, rfl, hb⟩; replace R := R.below hb; clear C; have C := R.out.cells; replace hu := hu.trans (Upg.of_below hb); clear hb)
           | ((with_reducible refine g_store 36 ?_); go_must (refine ev_store rfl rfl R.out (news := [.int .i64 ((j + 2 : Nat) : Int)]) (by first | rfl | (go_simp; first | rfl | go_num | (simp; omega))) infoI (by simp) (by simp [Value.oneCell']) ?_); intro wn ho Bn; simp only [zI, zA, zC, zD, zE, zF, zH, zB, zG, Nat.reduceAdd] at Bn; have R2 : RR wn g T (j + 2) 0 0 := ⟨Bn⟩; clear Bn; have hq := Upg.of_only ho; clear C R; have R := R2; clear R2; have C := R.out.cells; replace hu := hu.trans hq; clear hq; clear ho))
          go_roundw
          case rel => exact ⟨j + 2, n - 1, by go_num, by omega, hj2, ⟨.inl (by omega)⟩, Hn2, R, hu⟩
          case measure => rw [R.at_, hat.out]; omega
      | false =>
        have Hn : As (N = nestF T.data.toList (j + 1) n) := ⟨by rw [Hin.out, if_neg (by rw [a1]; decide), if_neg (by rw [a2]; decide)]⟩
        go_wp2_with (first
         | (go_at_call 16; (with_reducible refine (rend_b R false d1).mono ?_); rintro e wn ⟨vn, rfl, rfl, hb⟩; replace R := R.below hb; clear C; have C := R.out.cells; replace hu := hu.trans (Upg.of_below hb); clear hb)
         | (go_at_call 29; (with_reducible refine (rtwo_b R hj hT 35 124 false a1).mono ?_); rintro e wn ⟨vn, rfl, rfl, hb⟩; replace R := R.below hb; clear C; have C := R.out.cells; replace hu := hu.trans (Upg.of_below hb); clear hb)
         | (go_at_call 29; (with_reducible refine (rtwo_b R hj hT 124 35 false a2).mono ?_); rintro e wn ⟨vn, rfl, rfl, hb⟩; replace R := R.below hb; clear C; have C := R.out.cells; replace hu := hu.trans (Upg.of_below hb); clear hb)
         | ((with_reducible refine g_store 12 ?_); go_must (refine ev_store rfl rfl R.out (news := [.int .i64 ((j + 1 : Nat) : Int)]) (by first | rfl | (go_simp; first | rfl | go_num | (simp; omega))) infoI (by simp) (by simp [Value.oneCell']) ?_); intro wn ho Bn; simp only [zI, zA, zC, zD, zE, zF, zH, zB, zG, Nat.reduceAdd] at Bn; have R2 : RR wn g T (j + 1) 0 0 := ⟨Bn⟩; clear Bn; have hq := Upg.of_only ho; clear C R; have R := R2; clear R2; have C := R.out.cells; replace hu := hu.trans hq; clear hq; clear ho))
        go_roundw
        case rel => exact ⟨j + 1, n, rfl, by omega, by omega, ⟨.inl hn1⟩, Hn, R, hu⟩
        case measure => rw [R.at_, hat.out]; omega
  · have d1 : decide (T.size ≤ j) = true := decide_eq_true (by omega)
    have Hn : As (N = none) := ⟨by rw [hNj.out, nestF_out _ (by omega)]⟩
    go_wp2_with (first
     | (go_at_call 16; (with_reducible refine (rend_b R true d1).mono ?_); rintro e wn ⟨vn, rfl, rfl, hb⟩; replace R := R.below hb; clear C; have C := R.out.cells; replace hu := hu.trans (Upg.of_below hb); clear hb)
     | (go_at_call 31; (with_reducible refine (rfail_ok R 10 T.size).mono ?_); rintro e wn ⟨rfl, ho, R2⟩; have hq := Upg.of_only ho; clear C R; have R := R2; clear R2; have C := R.out.cells; replace hu := hu.trans hq; clear hq))
    go_end0
    exact ⟨rfl, hu, by rw [Hn.out]; exact ⟨_, R⟩⟩
end Go.Proofs.YtdapbegadhcpcaaGreatDoor
