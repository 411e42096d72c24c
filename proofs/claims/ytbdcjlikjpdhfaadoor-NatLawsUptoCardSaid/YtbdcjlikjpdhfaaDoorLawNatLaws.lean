/- NatLaws. -/
import Derived.Test.YtbdcjlikjpdhfaaDoorAwake1
namespace Go.Proofs.YtbdcjlikjpdhfaaDoor
open Go.RowKit Go.Proofs.YtbdcjlikjpdhfaaDoorL Go.Proofs.YtbdcjlikjpdhfaaDoorM
set_option linter.unusedVariables false
set_option linter.unusedSimpArgs false
set_option maxRecDepth 16000 in
set_option maxHeartbeats 8000000 in
theorem natLaws_any (l1 l2 l3 : List Nat) (A1 A2 A3 : Option Addr) (c1 c2 c3 : Nat) (w : World) (htab : Tab w) (h1 : Lim w A1 c1 l1) (h2 : Lim w A2 c2 l2) (h3 : Lim w A3 c3 l3) (hl : l1.length + l2.length + l3.length ≤ 1048576) :
    Calls Tryd.prog 8 #[.slice A1 l1.length c1, .slice A2 l2.length c2, .slice A3 l3.length c3] w (Gives w fun v _ => v = .bool true) := by
  have HT := As.mk htab
  have hcur := Below.refl w.heap.size w
  obtain ⟨k1, V1, e1, f1, o1⟩ := UR.Ok.of h1
  obtain ⟨k2, V2, e2, f2, o2⟩ := UR.Ok.of h2
  obtain ⟨k3, V3, e3, f3, o3⟩ := UR.Ok.of h3
  have F := (((Us.nil w).cons o1).cons o2).cons o3
  rw [e1, e2, e3] at hl ⊢
  clear htab h1 o1 h2 o2 h3 o3 f1 e1 f2 e2 f3 e3
  have H1 : As (V1 + V2 + V3 = V3 + (V2 + V1)) := ⟨by omega⟩
  have H2 : As (V1 * V2 * V3 = V3 * V2 * V1) := ⟨by rw [Nat.mul_comm V3 V2, Nat.mul_comm, Nat.mul_comm V1 V2, ← Nat.mul_assoc, Nat.mul_comm V3 V2]⟩
  have H3 : As (V1 * (V2 + V3) = V1 * V2 + V1 * V3) := ⟨Nat.mul_add ..⟩
  have H4 : As (V1 + V2 - V2 = V1) := ⟨by omega⟩
  have H5 : As (V2 ≤ V1 + V2) := ⟨by omega⟩
  go_enter Tryd.func8, Tryd.ntmps8
  go_wp2_with (first
    | (go_at_call 14; (with_reducible refine (cU F (by repeat (first | exact List.mem_cons_self .. | apply List.mem_cons_of_mem))).mono ?_); rintro e wn ⟨vn, rfl, ⟨An, cn, rfl, o⟩, hb⟩; replace F := (F.below hb).cons o; replace hcur := bthen hcur hb; (try replace Bl := Bl.below hb); clear o hb)
    | ((with_reducible refine g_dst 15 ?_); go_must (refine ev_lit (v := fun g => .slice (some ⟨g, 0, none⟩) 1 1) 15 rfl (cs := [.slice _ _ _]) (t := 22) (by go_simp; try rfl) ?_); intro gl wn hb Bl hgl; replace F := F.below hb; replace hcur := bthen hcur hb; clear hb)
    | (go_at_call 16; (with_reducible refine (addU3 F (by repeat (first | exact List.mem_cons_self .. | apply List.mem_cons_of_mem)) (by repeat (first | exact List.mem_cons_self .. | apply List.mem_cons_of_mem)) Bl (by repeat (first | exact List.mem_cons_self .. | apply List.mem_cons_of_mem)) (by omega)).mono ?_); rintro e wn ⟨vn, rfl, ⟨An, nn, cn, rfl, o, _⟩, hb⟩; replace F := (F.below hb).cons o; replace hcur := bthen hcur hb; (try replace Bl := Bl.below hb); clear o hb)
    | (go_at_call 16; (with_reducible refine (addU F (by repeat (first | exact List.mem_cons_self .. | apply List.mem_cons_of_mem)) (by repeat (first | exact List.mem_cons_self .. | apply List.mem_cons_of_mem)) (by omega)).mono ?_); rintro e wn ⟨vn, rfl, ⟨An, nn, cn, rfl, o, _⟩, hb⟩; replace F := (F.below hb).cons o; replace hcur := bthen hcur hb; (try replace Bl := Bl.below hb); clear o hb)
    | (go_at_call 15; (with_reducible refine (sU F (by repeat (first | exact List.mem_cons_self .. | apply List.mem_cons_of_mem)) (by repeat (first | exact List.mem_cons_self .. | apply List.mem_cons_of_mem)) (by first | with_reducible rfl | with_reducible exact H1.out | with_reducible exact H2.out | with_reducible exact H3.out | with_reducible exact H4.out)).mono ?_); rintro e wn ⟨vn, rfl, rfl, hb⟩; replace F := F.below hb; replace hcur := bthen hcur hb; (try replace Bl := Bl.below hb); clear hb)
    | ((with_reducible refine g_dst 34 ?_); go_must (refine ev_lit (v := fun g => .slice (some ⟨g, 0, none⟩) 1 1) 34 rfl (cs := [.slice _ _ _]) (t := 22) (by go_simp; try rfl) ?_); intro gl wn hb Bl hgl; replace F := F.below hb; replace hcur := bthen hcur hb; clear hb)
    | (go_at_call 26; (with_reducible refine (mulU3 F (by repeat (first | exact List.mem_cons_self .. | apply List.mem_cons_of_mem)) (by repeat (first | exact List.mem_cons_self .. | apply List.mem_cons_of_mem)) Bl (by repeat (first | exact List.mem_cons_self .. | apply List.mem_cons_of_mem)) (by omega)).mono ?_); rintro e wn ⟨vn, rfl, ⟨An, nn, cn, rfl, o, _⟩, hb⟩; replace F := (F.below hb).cons o; replace hcur := bthen hcur hb; (try replace Bl := Bl.below hb); clear o hb)
    | (go_at_call 26; (with_reducible refine (mulU F (by repeat (first | exact List.mem_cons_self .. | apply List.mem_cons_of_mem)) (by repeat (first | exact List.mem_cons_self .. | apply List.mem_cons_of_mem)) (by omega)).mono ?_); rintro e wn ⟨vn, rfl, ⟨An, nn, cn, rfl, o, _⟩, hb⟩; replace F := (F.below hb).cons o; replace hcur := bthen hcur hb; (try replace Bl := Bl.below hb); clear o hb)
    | (go_at_call 28; (with_reducible refine (subU_ge F (by repeat (first | exact List.mem_cons_self .. | apply List.mem_cons_of_mem)) (by repeat (first | exact List.mem_cons_self .. | apply List.mem_cons_of_mem)) H5.out (by omega)).mono ?_); rintro e wn ⟨vn, rfl, ⟨qn, rfl, ⟨An, nn, cn, rfl, o, _⟩⟩, hb⟩; replace F := (F.below hb).cons o; replace hcur := bthen hcur hb; (try replace Bl := Bl.below hb); clear o hb)
    | (go_at_call 16; (with_reducible refine (addU0 F (by repeat (first | exact List.mem_cons_self .. | apply List.mem_cons_of_mem)) (by omega)).mono ?_); rintro e wn ⟨vn, rfl, ⟨An, nn, cn, rfl, o, _⟩, hb⟩; replace F := (F.below hb).cons o; replace hcur := bthen hcur hb; (try replace Bl := Bl.below hb); clear o hb)
    | (go_at_call 18; (with_reducible refine (awake01_any _ (HT.out.below hcur)).mono ?_); rintro e wn ⟨vn, rfl, rfl, hb⟩; replace F := F.below hb; replace hcur := bthen hcur hb; (try replace Bl := Bl.below hb); clear hb))
  go_ret
  exact ⟨_, rfl, rfl, hcur⟩
end Go.Proofs.YtbdcjlikjpdhfaaDoor
