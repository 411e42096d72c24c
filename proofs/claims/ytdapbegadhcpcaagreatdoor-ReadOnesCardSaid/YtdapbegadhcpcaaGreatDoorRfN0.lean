/- A part of the proof. -/
import Derived.Test.YtdapbegadhcpcaaGreatDoorRfD
import Derived.Test.YtdapbegadhcpcaaGreatDoorRfE
import Derived.Test.YtdapbegadhcpcaaGreatDoorRdM
import Derived.Test.YtdapbegadhcpcaaGreatDoorMJ
set_option linter.unusedVariables false
set_option linter.unusedSimpArgs false
namespace Go.Proofs.YtdapbegadhcpcaaGreatDoor
open Go.RowKit Go.Proofs.YtdapbegadhcpcaaGreatDoorL Go.Proofs.YtdapbegadhcpcaaGreatDoorM
set_option maxRecDepth 8000 in
set_option maxHeartbeats 1000000 in
theorem rnext_err {w : World} {g i : Nat} {p c : Int} {T : ByteArray} (R : RR w g T i p c) (hc : c ≠ 0) (d : Int) (r : Rs) (hr : ∀ x e, r ≠ .ok (x, e)) :
 Calls Tryz.prog 17 #[.pointer (some ⟨g, 0, none⟩), .int .i64 d] w fun x w' => ∃ v, x = .returned v ∧ Upg g w w' ∧ RR w' g T i p c ∧ IsD w.heap.size w' r v := by
 have C := R.out.cells
 have hu := Upg.refl g w
 have hz : (c != 0) = true := by simpa using hc
 have HC := As.mk hc
 clear hc
 go_enter Tryz.func17, Tryz.ntmps17
 go_wp2_with (first
  | ((with_reducible refine g_dst 4 ?_); go_must (refine ev_alloc 4 rfl infoD (cs := [.int .i64 0, .int .i64 0, .bool false, .slice none 0 0, .string ⟨#[]⟩, .slice none 0 0, .slice none 0 0]) rfl ?_); intro g4 wn hb B4 hg4; have hs4 := Nat.le_trans hu.size hg4; have hne4 : g4 ≠ g := (fun h => by have := R.lt; omega); clear hg4; replace R := R.below hb; clear C; have C := R.out.cells; replace hu := hu.trans (Upg.of_below hb); clear hb)
  | (go_at_call 15; (with_reducible refine (skip_err R HC.out d).mono ?_); rintro e wn ⟨rfl, hb⟩; replace R := R.below hb; clear C; have C := R.out.cells; replace hu := hu.trans (Upg.of_below hb); replace B4 := B4.below hb; clear hb)
  | ((with_reducible refine g_store 4 ?_); go_must (refine ev_store rfl rfl B4 (news := [.int .i64 0, .int .i64 0, .bool false, .slice none 0 0, .string ⟨#[]⟩, .slice none 0 0, .slice none 0 0]) (by first | rfl | (go_simp; try rfl)) infoD (by simp) (by simp [Value.oneCell']) ?_); intro wn ho Bn; simp only [encD, zA, zB, zC, zD, zE, zF, zG, zH] at Bn; replace hu := hu.only_new ho hs4; have R2 : RR wn g T _ _ _ := ⟨R.out.only ho (Ne.symm hne4)⟩; clear C R; have R := R2; clear R2; have C := R.out.cells; replace B4 := Bn; clear Bn ho))
 refine bodyPost_ret (results_cell_row rfl _ _ g4 35 ([.int .i64 0, .int .i64 0, .bool false, .slice none 0 0, .string ⟨#[]⟩, .slice none 0 0, .slice none 0 0] : List Value).toArray (0, 0) _ rfl B4.h Tryz.underlying35 rfl (by kernel_rfl)) rfl ?_
 exact ⟨_, rfl, hu, R, ldZ, rfl, good_z _ _ _ (by decide) (by decide) _, fun b hb => (by rw [ldZ, foot_z] at hb; cases hb), fun x e h => absurd h (hr x e)⟩
end Go.Proofs.YtdapbegadhcpcaaGreatDoor
