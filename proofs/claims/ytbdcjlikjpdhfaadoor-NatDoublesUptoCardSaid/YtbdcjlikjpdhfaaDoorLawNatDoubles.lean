/- NatDoubles. -/
import Derived.Test.YtbdcjlikjpdhfaaDoorAwake1
namespace Go.Proofs.YtbdcjlikjpdhfaaDoor
open Go.RowKit Go.Proofs.YtbdcjlikjpdhfaaDoorL Go.Proofs.YtbdcjlikjpdhfaaDoorM
set_option linter.unusedVariables false
set_option linter.unusedSimpArgs false
set_option maxRecDepth 16000 in
set_option maxHeartbeats 8000000 in
theorem natDoubles_any (l1 : List Nat) (A1 : Option Addr) (c1 : Nat) (w : World) (htab : Tab w) (h1 : Lim w A1 c1 l1) (hl : l1.length ≤ 1048576) :
    Calls Tryd.prog 12 #[.slice A1 l1.length c1] w (Gives w fun v _ => v = .bool true) := by
  have HT := As.mk htab
  have hcur := Below.refl w.heap.size w
  obtain ⟨k1, V1, e1, f1, o1⟩ := UR.Ok.of h1
  have F := (Us.nil w).cons o1
  rw [e1] at hl ⊢
  clear htab h1 o1 f1 e1
  have Hq : As ((V1 + V1) / 2 = V1) := ⟨by omega⟩
  have Hr : As ((V1 + V1) % 2 = 0) := ⟨by omega⟩
  have Hm : As (V1 + V1 = V1 * 2) := ⟨by omega⟩
  obtain ⟨bn, hbn⟩ : ∃ bn, bitN V1 = bn := ⟨_, rfl⟩
  by_cases h0 : V1 = 0
  · have Hb : As (bitN V1 = 0) := ⟨by rw [h0]; exact bitN_zero⟩
    have Hb2 : As (bitN (V1 + V1) = 0) := ⟨by rw [h0]; exact bitN_zero⟩
    clear h0 hbn
    go_enter Tryd.func12, Tryd.ntmps12
    go_wp2_with (first
      | (go_at_call 14; (with_reducible refine (cU F (by repeat (first | exact List.mem_cons_self .. | apply List.mem_cons_of_mem))).mono ?_); rintro e wn ⟨vn, rfl, ⟨An, cn, rfl, o⟩, hb⟩; replace F := (F.below hb).cons o; replace hcur := bthen hcur hb; (try replace Bl := Bl.below hb); clear o hb)
      | (go_at_call 16; (with_reducible refine (addU F (by repeat (first | exact List.mem_cons_self .. | apply List.mem_cons_of_mem)) (by repeat (first | exact List.mem_cons_self .. | apply List.mem_cons_of_mem)) (by omega)).mono ?_); rintro e wn ⟨vn, rfl, ⟨An, nn, cn, rfl, o, _⟩, hb⟩; replace F := (F.below hb).cons o; replace hcur := bthen hcur hb; (try replace Bl := Bl.below hb); clear o hb)
      | (go_at_call 32; (refine (div_lit (m := 1) [2] F (by repeat (first | exact List.mem_cons_self .. | apply List.mem_cons_of_mem)) (by decide) (by decide) dig_2 (by omega) rfl (by omega) (by omega)).mono ?_); rintro e wn ⟨An, nn, cn, Ar, nr, cr, rfl, o, o2, hb⟩; obtain rfl : nr = 0 := UR.Ok.zero o2 Hr.out; replace F := ((F.below hb).cons o).cons o2; replace hcur := bthen hcur hb; clear o o2 hb)
      | (go_at_call 23; (with_reducible refine (bitsU F (by repeat (first | exact List.mem_cons_self .. | apply List.mem_cons_of_mem)) _ Hb.out).mono ?_); rintro e wn ⟨rfl, rfl⟩)
      | (go_at_call 23; (with_reducible refine (bitsU F (by repeat (first | exact List.mem_cons_self .. | apply List.mem_cons_of_mem)) _ Hb2.out).mono ?_); rintro e wn ⟨rfl, rfl⟩)
      | (go_at_call 26; (refine (mul_lit (m := 1) [2] F (by repeat (first | exact List.mem_cons_self .. | apply List.mem_cons_of_mem)) (by decide) (by decide) dig_2 (by omega) rfl (by omega)).mono ?_); rintro e wn ⟨An, nn, cn, rfl, o, hb⟩; replace F := (F.below hb).cons o; replace hcur := bthen hcur hb; (try replace Bl := Bl.below hb); clear o hb)
      | (go_at_call 15; (with_reducible refine (sU F (by repeat (first | exact List.mem_cons_self .. | apply List.mem_cons_of_mem)) (by repeat (first | exact List.mem_cons_self .. | apply List.mem_cons_of_mem)) (by first | with_reducible rfl | with_reducible exact Hm.out | with_reducible exact Hq.out)).mono ?_); rintro e wn ⟨vn, rfl, rfl, hb⟩; replace F := F.below hb; replace hcur := bthen hcur hb; (try replace Bl := Bl.below hb); clear hb)
      | (go_at_call 16; (with_reducible refine (addU0 F (by repeat (first | exact List.mem_cons_self .. | apply List.mem_cons_of_mem)) (by omega)).mono ?_); rintro e wn ⟨vn, rfl, ⟨An, nn, cn, rfl, o, _⟩, hb⟩; replace F := (F.below hb).cons o; replace hcur := bthen hcur hb; (try replace Bl := Bl.below hb); clear o hb)
      | (go_at_call 18; (with_reducible refine (awake01_any _ (HT.out.below hcur)).mono ?_); rintro e wn ⟨vn, rfl, rfl, hb⟩; replace F := F.below hb; replace hcur := bthen hcur hb; (try replace Bl := Bl.below hb); clear hb))
    go_ret
    exact ⟨_, rfl, rfl, hcur⟩
  · have Hb := As.mk hbn
    have Hb2 : As (bitN (V1 + V1) = bn + 1) := ⟨by rw [bitN_double V1 (by omega), hbn]⟩
    have hb1 : (0 : Int) < (bn : Int) := by
      have : bn ≠ 0 := fun e => h0 ((bitN_eq_zero V1).1 (hbn.trans e))
      omega
    have hb2 : bn ≤ 1073741824 := by
      have h1 := (F.out _ (List.mem_cons_self ..)).lt
      have h2 : bitN V1 ≤ 32 * k1 := digB_len_lt 2 (by omega) (32 * k1) V1 (by rw [Nat.pow_mul]; exact h1)
      omega
    clear h0 hbn
    go_enter Tryd.func12, Tryd.ntmps12
    go_wp2_with (first
      | (go_at_call 14; (with_reducible refine (cU F (by repeat (first | exact List.mem_cons_self .. | apply List.mem_cons_of_mem))).mono ?_); rintro e wn ⟨vn, rfl, ⟨An, cn, rfl, o⟩, hb⟩; replace F := (F.below hb).cons o; replace hcur := bthen hcur hb; (try replace Bl := Bl.below hb); clear o hb)
      | (go_at_call 16; (with_reducible refine (addU F (by repeat (first | exact List.mem_cons_self .. | apply List.mem_cons_of_mem)) (by repeat (first | exact List.mem_cons_self .. | apply List.mem_cons_of_mem)) (by omega)).mono ?_); rintro e wn ⟨vn, rfl, ⟨An, nn, cn, rfl, o, _⟩, hb⟩; replace F := (F.below hb).cons o; replace hcur := bthen hcur hb; (try replace Bl := Bl.below hb); clear o hb)
      | (go_at_call 32; (refine (div_lit (m := 1) [2] F (by repeat (first | exact List.mem_cons_self .. | apply List.mem_cons_of_mem)) (by decide) (by decide) dig_2 (by omega) rfl (by omega) (by omega)).mono ?_); rintro e wn ⟨An, nn, cn, Ar, nr, cr, rfl, o, o2, hb⟩; obtain rfl : nr = 0 := UR.Ok.zero o2 Hr.out; replace F := ((F.below hb).cons o).cons o2; replace hcur := bthen hcur hb; clear o o2 hb)
      | (go_at_call 23; (with_reducible refine (bitsU F (by repeat (first | exact List.mem_cons_self .. | apply List.mem_cons_of_mem)) _ Hb.out).mono ?_); rintro e wn ⟨rfl, rfl⟩)
      | (go_at_call 23; (with_reducible refine (bitsU F (by repeat (first | exact List.mem_cons_self .. | apply List.mem_cons_of_mem)) _ Hb2.out).mono ?_); rintro e wn ⟨rfl, rfl⟩)
      | (go_at_call 26; (refine (mul_lit (m := 1) [2] F (by repeat (first | exact List.mem_cons_self .. | apply List.mem_cons_of_mem)) (by decide) (by decide) dig_2 (by omega) rfl (by omega)).mono ?_); rintro e wn ⟨An, nn, cn, rfl, o, hb⟩; replace F := (F.below hb).cons o; replace hcur := bthen hcur hb; (try replace Bl := Bl.below hb); clear o hb)
      | (go_at_call 15; (with_reducible refine (sU F (by repeat (first | exact List.mem_cons_self .. | apply List.mem_cons_of_mem)) (by repeat (first | exact List.mem_cons_self .. | apply List.mem_cons_of_mem)) (by first | with_reducible rfl | with_reducible exact Hm.out | with_reducible exact Hq.out)).mono ?_); rintro e wn ⟨vn, rfl, rfl, hb⟩; replace F := F.below hb; replace hcur := bthen hcur hb; (try replace Bl := Bl.below hb); clear hb)
      | (go_at_call 16; (with_reducible refine (addU0 F (by repeat (first | exact List.mem_cons_self .. | apply List.mem_cons_of_mem)) (by omega)).mono ?_); rintro e wn ⟨vn, rfl, ⟨An, nn, cn, rfl, o, _⟩, hb⟩; replace F := (F.below hb).cons o; replace hcur := bthen hcur hb; (try replace Bl := Bl.below hb); clear o hb)
      | (go_at_call 18; (with_reducible refine (awake01_any _ (HT.out.below hcur)).mono ?_); rintro e wn ⟨vn, rfl, rfl, hb⟩; replace F := F.below hb; replace hcur := bthen hcur hb; (try replace Bl := Bl.below hb); clear hb))
    go_ret
    exact ⟨_, rfl, rfl, hcur⟩
end Go.Proofs.YtbdcjlikjpdhfaaDoor
