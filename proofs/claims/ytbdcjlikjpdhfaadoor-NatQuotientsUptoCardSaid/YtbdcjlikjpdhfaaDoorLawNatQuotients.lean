/- NatQuotients. -/
import Derived.Test.YtbdcjlikjpdhfaaDoorAwake1
import Derived.Test.YtbdcjlikjpdhfaaDoorNatK2
namespace Go.Proofs.YtbdcjlikjpdhfaaDoor
open Go.RowKit Go.Proofs.YtbdcjlikjpdhfaaDoorL Go.Proofs.YtbdcjlikjpdhfaaDoorM
set_option linter.unusedVariables false
set_option linter.unusedSimpArgs false
set_option maxRecDepth 16000 in
set_option maxHeartbeats 8000000 in
theorem natQuotients_any (l1 l2 : List Nat) (A1 A2 : Option Addr) (c1 c2 : Nat) (w : World) (htab : Tab w) (h1 : Lim w A1 c1 l1) (h2 : Lim w A2 c2 l2) (hl : l1.length + l2.length ≤ 1048576) :
    Calls Tryd.prog 10 #[.slice A1 l1.length c1, .slice A2 l2.length c2] w (Gives w fun v _ => v = .bool true) := by
  have HT := As.mk htab
  have hcur := Below.refl w.heap.size w
  obtain ⟨k1, V1, e1, f1, o1⟩ := UR.Ok.of h1
  obtain ⟨k2, V2, e2, f2, o2⟩ := UR.Ok.of h2
  have F := ((Us.nil w).cons o1).cons o2
  rw [e1, e2] at hl ⊢
  clear htab h1 o1 h2 o2 f1 e1 f2 e2
  by_cases h0 : V2 = 0
  · have H0 := As.mk h0
    clear h0
    replace F := F.cons (UR.nil_ok w)
    go_enter Tryd.func10, Tryd.ntmps10
    go_wp2_with (first
      | (go_at_call 14; (with_reducible refine (cU F (by repeat (first | exact List.mem_cons_self .. | apply List.mem_cons_of_mem))).mono ?_); rintro e wn ⟨vn, rfl, ⟨An, cn, rfl, o⟩, hb⟩; replace F := (F.below hb).cons o; replace hcur := bthen hcur hb; (try replace Bl := Bl.below hb); clear o hb)
      | (go_at_call 32; (with_reducible refine (divU0 F (by repeat (first | exact List.mem_cons_self .. | apply List.mem_cons_of_mem)) (by repeat (first | exact List.mem_cons_self .. | apply List.mem_cons_of_mem)) H0.out).mono ?_); rintro e wn ⟨vn, rfl, rfl, hb⟩; replace F := F.below hb; replace hcur := bthen hcur hb; (try replace Bl := Bl.below hb); clear hb)
      | (go_at_call 33; (with_reducible refine (rdivU0 F (by repeat (first | exact List.mem_cons_self .. | apply List.mem_cons_of_mem)) (by repeat (first | exact List.mem_cons_self .. | apply List.mem_cons_of_mem)) H0.out).mono ?_); rintro e wn ⟨vn, rfl, rfl, hb⟩; replace F := F.below hb; replace hcur := bthen hcur hb; (try replace Bl := Bl.below hb); clear hb)
      | (go_at_call 15; (with_reducible refine (sU F (by repeat (first | exact List.mem_cons_self .. | apply List.mem_cons_of_mem)) (by repeat (first | exact List.mem_cons_self .. | apply List.mem_cons_of_mem)) (by first | with_reducible rfl | rfl)).mono ?_); rintro e wn ⟨vn, rfl, rfl, hb⟩; replace F := F.below hb; replace hcur := bthen hcur hb; (try replace Bl := Bl.below hb); clear hb)
      | (go_at_call 18; (with_reducible refine (awake01_any _ (HT.out.below hcur)).mono ?_); rintro e wn ⟨vn, rfl, rfl, hb⟩; replace F := F.below hb; replace hcur := bthen hcur hb; (try replace Bl := Bl.below hb); clear hb))
    go_ret
    exact ⟨_, rfl, rfl, hcur⟩
  · have H0 : As (0 < V2) := ⟨by omega⟩
    clear h0
    go_enter Tryd.func10, Tryd.ntmps10
    go_wp2_with (first
      | (go_at_call 14; (with_reducible refine (cU F (by repeat (first | exact List.mem_cons_self .. | apply List.mem_cons_of_mem))).mono ?_); rintro e wn ⟨vn, rfl, ⟨An, cn, rfl, o⟩, hb⟩; replace F := (F.below hb).cons o; replace hcur := bthen hcur hb; (try replace Bl := Bl.below hb); clear o hb)
      | (go_at_call 32; (with_reducible refine (divU F (by repeat (first | exact List.mem_cons_self .. | apply List.mem_cons_of_mem)) (by repeat (first | exact List.mem_cons_self .. | apply List.mem_cons_of_mem)) H0.out (by omega)).mono ?_); rintro e wn ⟨vn, rfl, ⟨qn, rn, rfl, ⟨An, nn, cn, rfl, o, _⟩, ⟨Ar, nr, cr, rfl, o2, _⟩⟩, hb⟩; replace F := ((F.below hb).cons o).cons o2; replace hcur := bthen hcur hb; clear o o2 hb)
      | (go_at_call 33; (with_reducible refine (rdivU F (by repeat (first | exact List.mem_cons_self .. | apply List.mem_cons_of_mem)) (by repeat (first | exact List.mem_cons_self .. | apply List.mem_cons_of_mem)) H0.out (by omega)).mono ?_); rintro e wn ⟨vn, rfl, ⟨qn, rn, rfl, ⟨An, nn, cn, rfl, o, _⟩, ⟨Ar, nr, cr, rfl, o2, _⟩⟩, hb⟩; replace F := ((F.below hb).cons o).cons o2; replace hcur := bthen hcur hb; clear o o2 hb)
      | (go_at_call 15; (with_reducible refine (sU F (by repeat (first | exact List.mem_cons_self .. | apply List.mem_cons_of_mem)) (by repeat (first | exact List.mem_cons_self .. | apply List.mem_cons_of_mem)) (by first | with_reducible rfl | rfl)).mono ?_); rintro e wn ⟨vn, rfl, rfl, hb⟩; replace F := F.below hb; replace hcur := bthen hcur hb; (try replace Bl := Bl.below hb); clear hb)
      | (go_at_call 18; (with_reducible refine (awake01_any _ (HT.out.below hcur)).mono ?_); rintro e wn ⟨vn, rfl, rfl, hb⟩; replace F := F.below hb; replace hcur := bthen hcur hb; (try replace Bl := Bl.below hb); clear hb))
    go_ret
    exact ⟨_, rfl, rfl, hcur⟩
end Go.Proofs.YtbdcjlikjpdhfaaDoor
