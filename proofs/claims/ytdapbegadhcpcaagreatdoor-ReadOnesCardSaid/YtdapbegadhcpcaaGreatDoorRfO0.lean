/- A part of the proof. -/
import Derived.Test.YtdapbegadhcpcaaGreatDoorRfN0
set_option linter.unusedVariables false
set_option linter.unusedSimpArgs false
namespace Go.Proofs.YtdapbegadhcpcaaGreatDoor
open Go.RowKit Go.Proofs.YtdapbegadhcpcaaGreatDoorL Go.Proofs.YtdapbegadhcpcaaGreatDoorM
structure LJr (w0 wr : World) (g g4 g5 : Nat) (T : ByteArray) (vec : Bool) (D i : Nat) (r : Rs) (K : Int) (A : Option Addr) (c : Nat) (m : List LD) (acc : List DV) : Prop where
 its : Its wr.heap.size (g5 + 1) wr A c m acc
 upg : Upg g w0 wr
 b4 : Blk wr g4 [.int .i64 0, .int .i64 0, .bool false, .slice none 0 0, .string ⟨#[]⟩, .slice none 0 0, .slice none 0 0] 35
 b5 : Blk wr g5 [.int .i64 K, .int .i64 0, .bool false, .slice none 0 0, .string ⟨#[]⟩, .slice A m.length c, .slice none 0 0] 35
 st : (∃ j, i < j ∧ j ≤ T.size ∧ m.length ≤ j ∧ RR wr g T j 0 0 ∧ Run T.data.toList (.items vec D j acc) r) ∨ (∃ (j p c : Nat), r = .error (p, c) ∧ c ≠ 0 ∧ RR wr g T j p c)
set_option maxRecDepth 8000 in
set_option maxHeartbeats 2000000 in
theorem rlist_deep {w : World} {g i : Nat} {T : ByteArray} (R : RR w g T i 0 0) (D : Nat) (hD : 100 < D) (v : Bool) (r : Rs) (hr : r = .error (i, 16)) :
 Calls Tryz.prog 32 #[.pointer (some ⟨g, 0, none⟩), .int .i64 (D : Int), .bool v] w fun x w' => ∃ v, x = .returned v ∧ Upg g w w' ∧ AftR w' g T r ∧ IsD w.heap.size w' r v := by
 have C := R.out.cells
 have hu := Upg.refl g w
 have Hr := As.mk hr
 have hDi : (100 : Int) < (D : Int) := by omega
 clear hr
 go_enter Tryz.func32, Tryz.ntmps32
 go_wp2_with (first
  | ((with_reducible refine g_dst 6 ?_); go_must (refine ev_alloc 6 rfl infoD (cs := [.int .i64 0, .int .i64 0, .bool false, .slice none 0 0, .string ⟨#[]⟩, .slice none 0 0, .slice none 0 0]) rfl ?_); intro g6 wn hb B6 hg6; have hs6 := Nat.le_trans hu.size hg6; have hne6 : g6 ≠ g := (fun h => by have := R.lt; omega); clear hg6; replace R := R.below hb; clear C; have C := R.out.cells; replace hu := hu.trans (Upg.of_below hb); clear hb)
  | (go_at_call 31; (with_reducible refine (rfail_ok R 16 (i : Int)).mono ?_); rintro e wn ⟨rfl, ho, R2⟩; have hq := Upg.of_only ho; clear C R; have R := R2; clear R2; have C := R.out.cells; replace hu := hu.trans hq; replace B6 := blk_upg B6 hq hne6; clear hq)
  | ((with_reducible refine g_store 6 ?_); go_must (refine ev_store rfl rfl B6 (news := [.int .i64 0, .int .i64 0, .bool false, .slice none 0 0, .string ⟨#[]⟩, .slice none 0 0, .slice none 0 0]) (by first | rfl | (go_simp; try rfl)) infoD (by simp) (by simp [Value.oneCell']) ?_); intro wn ho Bn; simp only [encD, zA, zB, zC, zD, zE, zF, zG, zH] at Bn; replace hu := hu.only_new ho hs6; have R2 : RR wn g T _ _ _ := ⟨R.out.only ho (Ne.symm hne6)⟩; clear C R; have R := R2; clear R2; have C := R.out.cells; replace B6 := Bn; clear Bn ho))
 refine bodyPost_ret (results_cell_row rfl _ _ g6 35 ([.int .i64 0, .int .i64 0, .bool false, .slice none 0 0, .string ⟨#[]⟩, .slice none 0 0, .slice none 0 0] : List Value).toArray (0, 0) _ rfl B6.h Tryz.underlying35 rfl (by kernel_rfl)) rfl ?_
 exact ⟨_, rfl, hu, by rw [Hr.out]; exact ⟨_, R, by decide⟩, ldZ, rfl, good_z _ _ _ (by decide) (by decide) _, fun b hb => (by rw [ldZ, foot_z] at hb; cases hb), fun x e h => by rw [Hr.out] at h; cases h⟩
set_option maxRecDepth 8000 in
set_option maxHeartbeats 2000000 in
theorem rrest_bad {w : World} {g i : Nat} {T : ByteArray} (R : RR w g T i 0 0) (K : Int) (A : Option Addr) (n c : Nat) (D : Int) (hK : (K == 7) = true ∨ (K == 7) = false ∧ ((n : Int) == 0) = true) :
 Calls Tryz.prog 48 #[.pointer (some ⟨g, 0, none⟩), .agg ([.int .i64 K, .int .i64 0, .bool false, .slice none 0 0, .string ⟨#[]⟩, .slice A n c, .slice none 0 0] : List Value).toArray, .int .i64 D] w fun x w' => ∃ v, x = .returned v ∧ Upg g w w' ∧ AftR w' g T (.error (i, 15)) ∧ IsD w.heap.size w' (.error (i, 15)) v := by
 have C := R.out.cells
 have hu := Upg.refl g w
 rcases hK with hK | ⟨hK, hn⟩
 · go_enter Tryz.func48, Tryz.ntmps48
   go_wp2_with (first
    | ((with_reducible refine g_dst 4 ?_); go_must (refine ev_box 4 rfl (cs := [.int .i64 K, .int .i64 0, .bool false, .slice none 0 0, .string ⟨#[]⟩, .slice A n c, .slice none 0 0]) (by rfl) ?_); intro g4 wn hb B4 hg4; clear hg4; replace R := R.below hb; clear C; have C := R.out.cells; replace hu := hu.trans (Upg.of_below hb); clear hb)
    | ((with_reducible refine g_dst 6 ?_); go_must (refine ev_alloc 6 rfl infoD (cs := [.int .i64 0, .int .i64 0, .bool false, .slice none 0 0, .string ⟨#[]⟩, .slice none 0 0, .slice none 0 0]) rfl ?_); intro g6 wn hb B6 hg6; have hs6 := Nat.le_trans hu.size hg6; have hne6 : g6 ≠ g := (fun h => by have := R.lt; omega); clear hg6; replace R := R.below hb; clear C; have C := R.out.cells; replace hu := hu.trans (Upg.of_below hb); replace B4 := B4.below hb; clear hb; have C4 := B4.cells)
    | (go_at_call 31; (with_reducible refine (rfail_ok R 15 (i : Int)).mono ?_); rintro e wn ⟨rfl, ho, R2⟩; have hq := Upg.of_only ho; clear C4; clear C R; have R := R2; clear R2; have C := R.out.cells; replace hu := hu.trans hq; replace B6 := blk_upg B6 hq hne6; clear hq)
    | ((with_reducible refine g_store 6 ?_); go_must (refine ev_store rfl rfl B6 (news := [.int .i64 0, .int .i64 0, .bool false, .slice none 0 0, .string ⟨#[]⟩, .slice none 0 0, .slice none 0 0]) (by first | rfl | (go_simp; try rfl)) infoD (by simp) (by simp [Value.oneCell']) ?_); intro wn ho Bn; simp only [encD, zA, zB, zC, zD, zE, zF, zG, zH] at Bn; replace hu := hu.only_new ho hs6; have R2 : RR wn g T _ _ _ := ⟨R.out.only ho (Ne.symm hne6)⟩; clear C R; have R := R2; clear R2; have C := R.out.cells; replace B6 := Bn; clear Bn ho))
   refine bodyPost_ret (results_cell_row rfl _ _ g6 35 ([.int .i64 0, .int .i64 0, .bool false, .slice none 0 0, .string ⟨#[]⟩, .slice none 0 0, .slice none 0 0] : List Value).toArray (0, 0) _ rfl B6.h Tryz.underlying35 rfl (by kernel_rfl)) rfl ?_
   exact ⟨_, rfl, hu, ⟨_, R, by decide⟩, ldZ, rfl, good_z _ _ _ (by decide) (by decide) _, fun b hb => (by rw [ldZ, foot_z] at hb; cases hb), fun x e h => nomatch h⟩
 · go_enter Tryz.func48, Tryz.ntmps48
   go_wp2_with (first
    | ((with_reducible refine g_dst 4 ?_); go_must (refine ev_box 4 rfl (cs := [.int .i64 K, .int .i64 0, .bool false, .slice none 0 0, .string ⟨#[]⟩, .slice A n c, .slice none 0 0]) (by rfl) ?_); intro g4 wn hb B4 hg4; clear hg4; replace R := R.below hb; clear C; have C := R.out.cells; replace hu := hu.trans (Upg.of_below hb); clear hb)
    | ((with_reducible refine g_dst 6 ?_); go_must (refine ev_alloc 6 rfl infoD (cs := [.int .i64 0, .int .i64 0, .bool false, .slice none 0 0, .string ⟨#[]⟩, .slice none 0 0, .slice none 0 0]) rfl ?_); intro g6 wn hb B6 hg6; have hs6 := Nat.le_trans hu.size hg6; have hne6 : g6 ≠ g := (fun h => by have := R.lt; omega); clear hg6; replace R := R.below hb; clear C; have C := R.out.cells; replace hu := hu.trans (Upg.of_below hb); replace B4 := B4.below hb; clear hb; have C4 := B4.cells)
    | (go_at_call 31; (with_reducible refine (rfail_ok R 15 (i : Int)).mono ?_); rintro e wn ⟨rfl, ho, R2⟩; have hq := Upg.of_only ho; clear C4; clear C R; have R := R2; clear R2; have C := R.out.cells; replace hu := hu.trans hq; replace B6 := blk_upg B6 hq hne6; clear hq)
    | ((with_reducible refine g_store 6 ?_); go_must (refine ev_store rfl rfl B6 (news := [.int .i64 0, .int .i64 0, .bool false, .slice none 0 0, .string ⟨#[]⟩, .slice none 0 0, .slice none 0 0]) (by first | rfl | (go_simp; try rfl)) infoD (by simp) (by simp [Value.oneCell']) ?_); intro wn ho Bn; simp only [encD, zA, zB, zC, zD, zE, zF, zG, zH] at Bn; replace hu := hu.only_new ho hs6; have R2 : RR wn g T _ _ _ := ⟨R.out.only ho (Ne.symm hne6)⟩; clear C R; have R := R2; clear R2; have C := R.out.cells; replace B6 := Bn; clear Bn ho))
   refine bodyPost_ret (results_cell_row rfl _ _ g6 35 ([.int .i64 0, .int .i64 0, .bool false, .slice none 0 0, .string ⟨#[]⟩, .slice none 0 0, .slice none 0 0] : List Value).toArray (0, 0) _ rfl B6.h Tryz.underlying35 rfl (by kernel_rfl)) rfl ?_
   exact ⟨_, rfl, hu, ⟨_, R, by decide⟩, ldZ, rfl, good_z _ _ _ (by decide) (by decide) _, fun b hb => (by rw [ldZ, foot_z] at hb; cases hb), fun x e h => nomatch h⟩
end Go.Proofs.YtdapbegadhcpcaaGreatDoor
