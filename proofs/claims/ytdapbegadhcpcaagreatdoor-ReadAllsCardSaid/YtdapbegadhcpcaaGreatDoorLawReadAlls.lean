/- A part of the proof. -/
import Derived.Test.YtdapbegadhcpcaaGreatDoorRfI
import Derived.Test.YtdapbegadhcpcaaGreatDoorMM
import Derived.Test.YtdapbegadhcpcaaGreatDoorSames
import Derived.Test.YtdapbegadhcpcaaGreatDoorRead14
set_option linter.unusedVariables false
set_option linter.unusedSimpArgs false
namespace Go.Proofs.YtdapbegadhcpcaaGreatDoor
open Go.RowKit Go.Proofs.YtdapbegadhcpcaaGreatDoorL Go.Proofs.YtdapbegadhcpcaaGreatDoorM
theorem ow_capA {α : Type} {enc : α → List Value} {sz : Nat} {e : TypeId} {base : Nat} {w : World} {A : Option Addr} {c : Nat} {l : List α} (f : Ow enc sz e base w (.slice A l.length c) l) : l.length ≤ c := by
 obtain ⟨A', c', e, h, _⟩ := f.form
 cases e
 exact h
theorem sameNil (W : World) : Calls Tryz.prog 7 #[.slice none 0 0, .slice none 0 0] W (Gives W fun v _ => v = .bool true) := by
 have h := sameAll_any W [] (fun x hx => nomatch hx) none 0 (Rd.nil _ _ _ _) (Nat.le_refl _) (by simp) [] none 0 W (Below.refl _ _) (Rd.nil _ _ _ _) (fun x hx => nomatch hx) rfl (Nat.le_refl _)
 simpa only [List.length_nil] using h
set_option maxRecDepth 16000 in
set_option maxHeartbeats 8000000 in
theorem alls_no (T : ByteArray) (p c : Int) (w : World) (HA : As (∀ w : World, Calls Tryz.prog 5 #[.string T] w (Gives w fun v _ => v = .tuple #[.slice none 0 0, .int .i64 p, .int .i64 c])))
 (HB : As (∀ w : World, Calls Tryz.prog 6 #[.string T] w (Gives w fun v _ => v = .tuple #[.slice none 0 0, .int .i64 p, .int .i64 c]))) :
 Calls Tryz.prog 3 #[.string T] w (Gives w fun v _ => v = .bool true) := by
 go_enter Tryz.func3, Tryz.ntmps3
 go_wp2_with (first
  | (go_at_call 5; (with_reducible refine (HA.out _).mono ?_); rintro e1 w1 ⟨v1, rfl, rfl, hb1⟩)
  | (go_at_call 6; (with_reducible refine (HB.out _).mono ?_); rintro e2 w2 ⟨v2, rfl, rfl, hb2⟩; replace hb1 := bthen hb1 hb2)
  | (go_at_call 7; (with_reducible refine (sameNil _).mono ?_); rintro e4 w4 ⟨v4, rfl, rfl, hb4⟩; replace hb1 := bthen hb1 hb4)
  | (go_at_call 8; (with_reducible refine (awake_any _).mono ?_); rintro e3 w3 ⟨v3, rfl, rfl, hb3⟩; replace hb1 := bthen hb1 hb3))
 go_ret
 exact ⟨_, rfl, by first | rfl | simp, hb1⟩
set_option maxRecDepth 16000 in
set_option maxHeartbeats 8000000 in
theorem readAlls_any (T : ByteArray) (w : World) : Calls Tryz.prog 3 #[.string T] w (Gives w fun v _ => v = .bool true) := by
 by_cases hT : T.size ≤ 65536
 case neg => exact alls_no T 0 2 w ⟨fun w => all_long hT⟩ ⟨fun w => rall_long hT⟩
 obtain ⟨q, hq⟩ := all_ex T.data.toList (T.data.toList.length + 1) 0 [] (by omega)
 cases q with
 | error pc =>
   obtain ⟨p, c⟩ := pc
   exact alls_no T (p : Int) (c : Int) w ⟨fun w => (all_any (w := w) hT _ hq).mono fun e w' ⟨v, he, hv, hb⟩ => ⟨v, he, hv.1, hb⟩⟩ ⟨fun w => (rall_any (w := w) hT _ hq).mono fun e w' ⟨v, he, hv, hb⟩ => ⟨v, he, hv.1, hb⟩⟩
 | ok l =>
   have hsl := size_list T
   have HA := As.mk (fun w => all_any (w := w) hT _ hq)
   have HB := As.mk (fun w => rall_any (w := w) hT _ hq)
   have HWT : As (∀ x ∈ l, wtV x ≤ 1310720) := ⟨fun x hx => by
    have := all_wtT hq rfl (fun y hy => nomatch hy) x hx
    have := wt_le x
    omega⟩
   clear hq hsl
   go_enter Tryz.func3, Tryz.ntmps3
   go_wp2_with (first
    | (go_at_call 5; (with_reducible refine (HA.out _).mono ?_); rintro e1 w1 ⟨v1, rfl, ⟨A, c, m, rfl, hi, hm⟩, hb1⟩; have HI := As.mk hi; have HM := As.mk hm; clear hi hm)
    | (go_at_call 6; (with_reducible refine (HB.out _).mono ?_); rintro e2 w2 ⟨v2, rfl, ⟨A2, c2, m2, rfl, hi, hm⟩, hb2⟩; have HI2 := As.mk hi; have HI1 := As.mk (HI.out.below hb2 (Nat.le_refl _)); clear hi hm; replace hb1 := bthen hb1 hb2; have HS := As.mk (sameAll_any w2 m (fun x hx => same_ok w2 x (HI1.out.good x hx) (by have h9 := HWT.out (erD x) (by rw [← HI1.out.same, erAll_map]; exact List.mem_map_of_mem hx); omega)) A c (HI1.out.ow.rd lenD) (ow_capA HI1.out.ow) (by have := HM.out; omega) m2 A2 c2 w2 (Below.refl _ _) (HI2.out.ow.rd lenD) HI2.out.good (by rw [HI1.out.same, HI2.out.same]) (ow_capA HI2.out.ow)))
    | (go_at_call 7; (with_reducible refine HS.out.mono ?_); rintro e4 w4 ⟨v4, rfl, rfl, hb4⟩; replace hb1 := bthen hb1 hb4)
    | (go_at_call 8; (with_reducible refine (awake_any _).mono ?_); rintro e3 w3 ⟨v3, rfl, rfl, hb3⟩; replace hb1 := bthen hb1 hb3))
   go_ret
   exact ⟨_, rfl, by first | rfl | simp, hb1⟩
end Go.Proofs.YtdapbegadhcpcaaGreatDoor
