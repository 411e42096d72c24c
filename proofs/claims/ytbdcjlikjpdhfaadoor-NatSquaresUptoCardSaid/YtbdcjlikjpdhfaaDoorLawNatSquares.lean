/- NatSquares. -/
import Derived.Test.YtbdcjlikjpdhfaaDoorAwake1
namespace Go.Proofs.YtbdcjlikjpdhfaaDoor
open Go.RowKit Go.Proofs.YtbdcjlikjpdhfaaDoorL Go.Proofs.YtbdcjlikjpdhfaaDoorM
set_option linter.unusedVariables false
set_option linter.unusedSimpArgs false
set_option maxRecDepth 16000 in
set_option maxHeartbeats 8000000 in
theorem natSquares_any (l1 l2 : List Nat) (A1 A2 : Option Addr) (c1 c2 : Nat) (w : World) (htab : Tab w) (h1 : Lim w A1 c1 l1) (h2 : Lim w A2 c2 l2) (hl : l1.length + l2.length ≤ 1048576) :
    Calls Tryd.prog 9 #[.slice A1 l1.length c1, .slice A2 l2.length c2] w (Gives w fun v _ => v = .bool true) := by
  have HT := As.mk htab
  have hcur := Below.refl w.heap.size w
  obtain ⟨k1, V1, e1, f1, o1⟩ := UR.Ok.of h1
  obtain ⟨k2, V2, e2, f2, o2⟩ := UR.Ok.of h2
  have F := ((Us.nil w).cons o1).cons o2
  rw [e1, e2] at hl ⊢
  clear htab h1 o1 h2 o2 f1 e1 f2 e2
  by_cases hlt : V1 < V2
  · have Hlt := As.mk hlt
    have Hcmp := As.mk (cmpN_lt hlt)
    clear hlt
    go_enter Tryd.func9, Tryd.ntmps9
    go_wp2_with (first
      | (go_at_call 14; (refine (cU F (by repeat (first | exact List.Mem.head _ | apply List.Mem.tail))).mono ?_); rintro e wn ⟨vn, rfl, ⟨An, cn, rfl, o⟩, hb⟩; replace F := (F.below hb).cons o; replace hcur := bthen hcur hb; (try replace Bl := Bl.below hb); clear o hb)
      | (go_at_call 28; (refine (subU_lt F (by repeat (first | exact List.Mem.head _ | apply List.Mem.tail)) (by repeat (first | exact List.Mem.head _ | apply List.Mem.tail)) Hlt.out (by omega)).mono ?_); rintro e wn ⟨vn, rfl, rfl, hb⟩; replace F := F.below hb; replace hcur := bthen hcur hb; (try replace Bl := Bl.below hb); clear hb)
      | (go_at_call 30; (refine (cmpU F (by repeat (first | exact List.Mem.head _ | apply List.Mem.tail)) (by repeat (first | exact List.Mem.head _ | apply List.Mem.tail)) (by omega) _ Hcmp.out).mono ?_); rintro e wn ⟨vn, rfl, rfl, hb⟩; replace F := F.below hb; replace hcur := bthen hcur hb; (try replace Bl := Bl.below hb); clear hb)
      | (go_at_call 18; (refine (awake01_any _ (HT.out.below hcur)).mono ?_); rintro e wn ⟨vn, rfl, rfl, hb⟩; replace F := F.below hb; replace hcur := bthen hcur hb; (try replace Bl := Bl.below hb); clear hb)
      | (go_at_call 26; (refine (mulU F (by repeat (first | exact List.Mem.head _ | apply List.Mem.tail)) (by repeat (first | exact List.Mem.head _ | apply List.Mem.tail)) (by omega)).mono ?_); rintro e wn ⟨vn, rfl, ⟨An, nn, cn, rfl, o, _⟩, hb⟩; replace F := (F.below hb).cons o; replace hcur := bthen hcur hb; (try replace Bl := Bl.below hb); clear o hb)
      | (go_at_call 16; (refine (addU F (by repeat (first | exact List.Mem.head _ | apply List.Mem.tail)) (by repeat (first | exact List.Mem.head _ | apply List.Mem.tail)) (by omega)).mono ?_); rintro e wn ⟨vn, rfl, ⟨An, nn, cn, rfl, o, _⟩, hb⟩; replace F := (F.below hb).cons o; replace hcur := bthen hcur hb; (try replace Bl := Bl.below hb); clear o hb)
      | (go_at_call 15; (refine (sU F (by repeat (first | exact List.Mem.head _ | apply List.Mem.tail)) (by repeat (first | exact List.Mem.head _ | apply List.Mem.tail)) (by first | rfl | rfl)).mono ?_); rintro e wn ⟨vn, rfl, rfl, hb⟩; replace F := F.below hb; replace hcur := bthen hcur hb; (try replace Bl := Bl.below hb); clear hb))
    go_ret
    exact ⟨_, rfl, rfl, hcur⟩
  · have Hge : As (V2 ≤ V1) := ⟨by omega⟩
    have Hsq : As (V1 * V1 - V2 * V2 = (V1 + V2) * (V1 - V2)) := ⟨Nat.mul_self_sub_mul_self_eq V1 V2⟩
    have Hge2 : As (V2 * V2 ≤ V1 * V1) := ⟨Nat.mul_self_le_mul_self Hge.out⟩
    clear hlt
    go_enter Tryd.func9, Tryd.ntmps9
    go_wp2_with (first
      | (go_at_call 14; (refine (cU F (by repeat (first | exact List.Mem.head _ | apply List.Mem.tail))).mono ?_); rintro e wn ⟨vn, rfl, ⟨An, cn, rfl, o⟩, hb⟩; replace F := (F.below hb).cons o; replace hcur := bthen hcur hb; (try replace Bl := Bl.below hb); clear o hb)
      | (go_at_call 28; (refine (subU_ge F (by repeat (first | exact List.Mem.head _ | apply List.Mem.tail)) (by repeat (first | exact List.Mem.head _ | apply List.Mem.tail)) Hge.out (by omega)).mono ?_); rintro e wn ⟨vn, rfl, ⟨qn, rfl, ⟨An, nn, cn, rfl, o, _⟩⟩, hb⟩; replace F := (F.below hb).cons o; replace hcur := bthen hcur hb; (try replace Bl := Bl.below hb); clear o hb)
      | (go_at_call 28; (refine (subU_ge F (by repeat (first | exact List.Mem.head _ | apply List.Mem.tail)) (by repeat (first | exact List.Mem.head _ | apply List.Mem.tail)) Hge2.out (by omega)).mono ?_); rintro e wn ⟨vn, rfl, ⟨qn, rfl, ⟨An, nn, cn, rfl, o, _⟩⟩, hb⟩; replace F := (F.below hb).cons o; replace hcur := bthen hcur hb; (try replace Bl := Bl.below hb); clear o hb)
      | (go_at_call 18; (refine (awake01_any _ (HT.out.below hcur)).mono ?_); rintro e wn ⟨vn, rfl, rfl, hb⟩; replace F := F.below hb; replace hcur := bthen hcur hb; (try replace Bl := Bl.below hb); clear hb)
      | (go_at_call 26; (refine (mulU F (by repeat (first | exact List.Mem.head _ | apply List.Mem.tail)) (by repeat (first | exact List.Mem.head _ | apply List.Mem.tail)) (by omega)).mono ?_); rintro e wn ⟨vn, rfl, ⟨An, nn, cn, rfl, o, _⟩, hb⟩; replace F := (F.below hb).cons o; replace hcur := bthen hcur hb; (try replace Bl := Bl.below hb); clear o hb)
      | (go_at_call 16; (refine (addU F (by repeat (first | exact List.Mem.head _ | apply List.Mem.tail)) (by repeat (first | exact List.Mem.head _ | apply List.Mem.tail)) (by omega)).mono ?_); rintro e wn ⟨vn, rfl, ⟨An, nn, cn, rfl, o, _⟩, hb⟩; replace F := (F.below hb).cons o; replace hcur := bthen hcur hb; (try replace Bl := Bl.below hb); clear o hb)
      | (go_at_call 15; (refine (sU F (by repeat (first | exact List.Mem.head _ | apply List.Mem.tail)) (by repeat (first | exact List.Mem.head _ | apply List.Mem.tail)) (by first | rfl | exact Hsq.out)).mono ?_); rintro e wn ⟨vn, rfl, rfl, hb⟩; replace F := F.below hb; replace hcur := bthen hcur hb; (try replace Bl := Bl.below hb); clear hb))
    go_ret
    exact ⟨_, rfl, rfl, hcur⟩
end Go.Proofs.YtbdcjlikjpdhfaaDoor
