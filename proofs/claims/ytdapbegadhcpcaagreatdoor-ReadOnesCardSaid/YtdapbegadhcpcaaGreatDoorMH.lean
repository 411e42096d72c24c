/- A part of the proof. -/
import Derived.Test.YtdapbegadhcpcaaGreatDoorRdD
import Derived.Test.YtdapbegadhcpcaaGreatDoorMD
import Derived.Deep.AppendLies
set_option linter.unusedVariables false
set_option linter.unusedSimpArgs false
namespace Go.Proofs.YtdapbegadhcpcaaGreatDoor
open Go.RowKit Go.Proofs.YtdapbegadhcpcaaGreatDoorL Go.Proofs.YtdapbegadhcpcaaGreatDoorM
set_option maxRecDepth 8000 in
theorem next_err {w : World} {g i : Nat} {p c : Int} {T : ByteArray} (R : RB w g T i p c) (hc : c ≠ 0) (d : Int) (r : Rs) (hr : ∀ x e, r ≠ .ok (x, e)) :
 Calls Tryz.prog 18 #[.pointer (some ⟨g, 0, none⟩), .int .i64 d] w fun x w' => ∃ v, x = .returned v ∧ Upg g w w' ∧ RB w' g T i p c ∧ IsD w.heap.size w' r v := by
 have C := R.out.cells
 have hu := Upg.refl g w
 have hz : (c != 0) = true := by simpa using hc
 have HC := As.mk hc
 clear hc
 go_enter Tryz.func18, Tryz.ntmps18
 go_wp2_with (first
  | ((with_reducible refine g_dst 4 ?_); go_must (refine ev_alloc 4 rfl infoD (cs := [.int .i64 0, .int .i64 0, .bool false, .slice none 0 0, .string ⟨#[]⟩, .slice none 0 0, .slice none 0 0]) rfl ?_); intro g4 wn hb B4 hg4; have hs4 := Nat.le_trans hu.size hg4; have hne4 : g4 ≠ g := (fun h => by have := R.lt; omega); clear hg4; replace R := R.below hb; clear C; have C := R.out.cells; replace hu := hu.trans (Upg.of_below hb); clear hb)
  | (go_at_call 12; (with_reducible refine (blanks_err R HC.out d).mono ?_); rintro e wn ⟨rfl, rfl⟩)
  | ((with_reducible refine g_store 4 ?_); go_must (refine ev_store rfl rfl B4 (news := [.int .i64 0, .int .i64 0, .bool false, .slice none 0 0, .string ⟨#[]⟩, .slice none 0 0, .slice none 0 0]) (by rfl) infoD (by simp) (by simp [Value.oneCell']) ?_); intro wn ho Bn; simp only [encD, zA, zB, zC, zD, zE, zF, zG, zH] at Bn; replace hu := hu.only_new ho hs4; have R2 : RB wn g T _ _ _ := ⟨R.out.only ho (Ne.symm hne4)⟩; clear C R; have R := R2; clear R2; have C := R.out.cells; replace B4 := Bn; clear Bn ho))
 refine bodyPost_ret (results_cell_row rfl _ _ g4 35 ([.int .i64 0, .int .i64 0, .bool false, .slice none 0 0, .string ⟨#[]⟩, .slice none 0 0, .slice none 0 0] : List Value).toArray (0, 0) _ rfl B4.h Tryz.underlying35 rfl (by kernel_rfl)) rfl ?_
 exact ⟨_, rfl, hu, R, ldZ, rfl, good_z _ _ _ (by decide) (by decide) _, fun b hb => (by rw [ldZ, foot_z] at hb; cases hb), fun x e h => absurd h (hr x e)⟩
set_option maxRecDepth 8000 in
set_option maxHeartbeats 1000000 in
theorem next_pc (T : ByteArray) (hT : T.size ≤ 65536) (d i : Nat) (IH : ∀ j, wtJ T.data.toList j < wtJ T.data.toList (.next d i) → PC T j) : PC T (.next d i) := by
 intro w g r hi hd R hr
 have hsl := size_list T
 have HB := As.mk (IH (.blanks d i) (by simp only [wtJ]; omega))
 have HDs := As.mk (fun e (h1 : i ≤ e) => IH (.datum d e) (by simp only [wtJ]; omega))
 clear IH
 obtain ⟨q, hq, hrr⟩ := inv_next hr
 have Hq := As.mk hq
 have C := R.out.cells
 have hu := Upg.refl g w
 clear hr hq
 cases q with
 | error pc =>
   obtain ⟨p, c0⟩ := pc
   have Hr : As (r = .error (p, c0)) := ⟨hrr⟩
   clear hrr
   go_enter Tryz.func18, Tryz.ntmps18
   go_wp2_with (first
    | ((with_reducible refine g_dst 4 ?_); go_must (refine ev_alloc 4 rfl infoD (cs := [.int .i64 0, .int .i64 0, .bool false, .slice none 0 0, .string ⟨#[]⟩, .slice none 0 0, .slice none 0 0]) rfl ?_); intro g4 wn hb B4 hg4; have hs4 := Nat.le_trans hu.size hg4; have hne4 : g4 ≠ g := (fun h => by have := R.lt; omega); clear hg4; replace R := R.below hb; clear C; have C := R.out.cells; replace hu := hu.trans (Upg.of_below hb); clear hb)
    | (go_at_call 12; (with_reducible refine (PC.blanksc HB.out hi hd R Hq.out).mono ?_); rintro e wn ⟨rfl, hq, haf⟩; replace hu := hu.trans hq; replace B4 := blk_upg B4 hq hne4; clear C hq R; obtain ⟨j2, R, hc2⟩ : ∃ j2, RB wn g T j2 (p : Int) (c0 : Int) ∧ c0 ≠ 0 := haf; have C := R.out.cells; have hz : ((c0 : Int) != 0) = true := (by simpa using hc2); have HC := As.mk hc2; clear hc2)
    | ((with_reducible refine g_store 4 ?_); go_must (refine ev_store rfl rfl B4 (news := [.int .i64 0, .int .i64 0, .bool false, .slice none 0 0, .string ⟨#[]⟩, .slice none 0 0, .slice none 0 0]) (by rfl) infoD (by simp) (by simp [Value.oneCell']) ?_); intro wn ho Bn; simp only [encD, zA, zB, zC, zD, zE, zF, zG, zH] at Bn; replace hu := hu.only_new ho hs4; have R2 : RB wn g T _ _ _ := ⟨R.out.only ho (Ne.symm hne4)⟩; clear C R; have R := R2; clear R2; have C := R.out.cells; replace B4 := Bn; clear Bn ho))
   refine bodyPost_ret (results_cell_row rfl _ _ g4 35 ([.int .i64 0, .int .i64 0, .bool false, .slice none 0 0, .string ⟨#[]⟩, .slice none 0 0, .slice none 0 0] : List Value).toArray (0, 0) _ rfl B4.h Tryz.underlying35 rfl (by kernel_rfl)) rfl ?_
   exact ⟨_, rfl, hu, by rw [Hr.out]; exact ⟨_, R, HC.out⟩, ldZ, rfl, good_z _ _ _ (by decide) (by decide) _, fun b hb => (by rw [ldZ, foot_z] at hb; cases hb), fun x e h => by rw [Hr.out] at h; cases h⟩
 | ok xe =>
   obtain ⟨x, e1⟩ := xe
   simp only at hrr
   have hie : i ≤ e1 := run_goes Hq.out rfl
   have HD := As.mk (HDs.out e1 hie)
   clear HDs
   by_cases hm : e1 < T.size
   · rw [if_pos (by omega)] at hrr
     have Hr := As.mk hrr
     have d1 : decide (e1 < T.size) = true := decide_eq_true hm
     have he2 := hm
     clear hrr
     go_enter Tryz.func18, Tryz.ntmps18
     go_wp2_with (first
      | ((with_reducible refine g_dst 4 ?_); go_must (refine ev_alloc 4 rfl infoD (cs := [.int .i64 0, .int .i64 0, .bool false, .slice none 0 0, .string ⟨#[]⟩, .slice none 0 0, .slice none 0 0]) rfl ?_); intro g4 wn hb B4 hg4; have hs4 := Nat.le_trans hu.size hg4; have hne4 : g4 ≠ g := (fun h => by have := R.lt; omega); clear hg4; replace R := R.below hb; clear C; have C := R.out.cells; replace hu := hu.trans (Upg.of_below hb); clear hb)
      | (go_at_call 12; (with_reducible refine (PC.blanksc HB.out hi hd R Hq.out).mono ?_); rintro e wn ⟨rfl, hq, haf⟩; replace hu := hu.trans hq; replace B4 := blk_upg B4 hq hne4; clear C hq R; obtain ⟨R, _⟩ : RB wn g T e1 0 0 ∧ e1 ≤ T.size := haf; have C := R.out.cells)
      | (go_at_call 13; (with_reducible refine (more_b R true d1).mono ?_); rintro e wn ⟨vn, rfl, rfl, hb⟩; replace R := R.below hb; clear C; have C := R.out.cells; replace hu := hu.trans (Upg.of_below hb); replace B4 := B4.below hb; clear hb)
      | (go_at_call 14; have hsz := B4.lt; have hsu := hu.size; (with_reducible refine (PC.datumc HD.out he2 hd R Hr.out).mono ?_); rintro e wn ⟨vn, rfl, hq, haf, ⟨y, rfl, hgy, hfy, hey⟩⟩; replace hu := hu.trans hq; replace B4 := blk_upg B4 hq hne4; have hf1 : ∀ b ∈ footD y, w.heap.size ≤ b ∧ b ≠ g4 := (fun b hb => by have := hfy b hb; omega); have Hey := As.mk hey; clear C hq R hfy hey hsz hsu; have Haf := As.mk haf; clear haf; obtain ⟨kind, n, neg, A, c, mag, text, Ai, ci, items, Ar, cr, rest⟩ := y)
      | ((with_reducible refine g_store 4 ?_); go_must (refine ev_store rfl rfl B4 (news := encD (.mk kind n neg A c mag text Ai ci items Ar cr rest)) (by rfl) infoD (by simp [encD]) (by simp [encD, Value.oneCell']) ?_); intro wn ho Bn; simp only [encD, zA, zB, zC, zD, zE, zF, zG, zH] at Bn; replace hu := hu.only_new ho hs4; replace hgy := good_only hgy ho (fun b hb => (hf1 b hb).2); have Haf2 := As.mk (Haf.out.only ho (Ne.symm hne4)); replace B4 := Bn; clear Bn ho))
     refine bodyPost_ret (results_cell_row rfl _ _ g4 35 (encD (.mk kind n neg A c mag text Ai ci items Ar cr rest)).toArray (0, 0) _ rfl B4.h Tryz.underlying35 rfl (by kernel_rfl)) rfl ?_
     exact ⟨_, rfl, hu, Haf2.out, .mk kind n neg A c mag text Ai ci items Ar cr rest, rfl, hgy, fun b hb => (hf1 b hb).1, Hey.out⟩
   · rw [if_neg (by omega)] at hrr
     have Hr : As (r = .error (T.size, 10)) := ⟨by rw [hrr, hsl]⟩
     have d1 : decide (e1 < T.size) = false := decide_eq_false hm
     clear hrr
     go_enter Tryz.func18, Tryz.ntmps18
     go_wp2_with (first
      | ((with_reducible refine g_dst 4 ?_); go_must (refine ev_alloc 4 rfl infoD (cs := [.int .i64 0, .int .i64 0, .bool false, .slice none 0 0, .string ⟨#[]⟩, .slice none 0 0, .slice none 0 0]) rfl ?_); intro g4 wn hb B4 hg4; have hs4 := Nat.le_trans hu.size hg4; have hne4 : g4 ≠ g := (fun h => by have := R.lt; omega); clear hg4; replace R := R.below hb; clear C; have C := R.out.cells; replace hu := hu.trans (Upg.of_below hb); clear hb)
      | (go_at_call 12; (with_reducible refine (PC.blanksc HB.out hi hd R Hq.out).mono ?_); rintro e wn ⟨rfl, hq, haf⟩; replace hu := hu.trans hq; replace B4 := blk_upg B4 hq hne4; clear C hq R; obtain ⟨R, _⟩ : RB wn g T e1 0 0 ∧ e1 ≤ T.size := haf; have C := R.out.cells)
      | (go_at_call 13; (with_reducible refine (more_b R false d1).mono ?_); rintro e wn ⟨vn, rfl, rfl, hb⟩; replace R := R.below hb; clear C; have C := R.out.cells; replace hu := hu.trans (Upg.of_below hb); replace B4 := B4.below hb; clear hb)
      | (go_at_call 36; (with_reducible refine (end_ok R).mono ?_); rintro e wn ⟨rfl, ho, R2⟩; have hq := Upg.of_only ho; clear C R; have R := R2; clear R2; have C := R.out.cells; replace hu := hu.trans hq; replace B4 := blk_upg B4 hq hne4; clear hq)
      | ((with_reducible refine g_store 4 ?_); go_must (refine ev_store rfl rfl B4 (news := [.int .i64 0, .int .i64 0, .bool false, .slice none 0 0, .string ⟨#[]⟩, .slice none 0 0, .slice none 0 0]) (by rfl) infoD (by simp) (by simp [Value.oneCell']) ?_); intro wn ho Bn; simp only [encD, zA, zB, zC, zD, zE, zF, zG, zH] at Bn; replace hu := hu.only_new ho hs4; have R2 : RB wn g T _ _ _ := ⟨R.out.only ho (Ne.symm hne4)⟩; clear C R; have R := R2; clear R2; have C := R.out.cells; replace B4 := Bn; clear Bn ho))
     refine bodyPost_ret (results_cell_row rfl _ _ g4 35 ([.int .i64 0, .int .i64 0, .bool false, .slice none 0 0, .string ⟨#[]⟩, .slice none 0 0, .slice none 0 0] : List Value).toArray (0, 0) _ rfl B4.h Tryz.underlying35 rfl (by kernel_rfl)) rfl ?_
     exact ⟨_, rfl, hu, by rw [Hr.out]; exact ⟨_, R, by decide⟩, ldZ, rfl, good_z _ _ _ (by decide) (by decide) _, fun b hb => (by rw [ldZ, foot_z] at hb; cases hb), fun x e h => by rw [Hr.out] at h; cases h⟩
theorem Aft.below {w w1 : World} {g : Nat} {T : ByteArray} {r : Rs} (h : Aft w g T r) (hb : Below w.heap.size w w1) : Aft w1 g T r := by
 cases r with
 | ok xe => exact ⟨h.1.below hb, h.2⟩
 | error pc =>
   obtain ⟨j, R, hc⟩ := h
   exact ⟨j, R.below hb, hc⟩
theorem Aft.to {w : World} {g : Nat} {T : ByteArray} {q r : Rs} (h : Aft w g T q) (hr : match q with | .error p => r = .error p | .ok (x, e) => ∃ y, r = .ok (y, e)) : Aft w g T r := by
 cases q with
 | ok xe =>
   obtain ⟨x, e⟩ := xe
   obtain ⟨y, rfl⟩ := hr
   exact h
 | error pc =>
   simp only at hr
   subst hr
   exact h
def shortR (nm : List UInt8) : Rs → Rs
 | .error p => .error p
 | .ok (x, e) => .ok (dList [dSym nm, x] [], e)
theorem Aft.lt {w : World} {g : Nat} {T : ByteArray} {r : Rs} (h : Aft w g T r) : g < w.heap.size := by
 cases r with
 | ok xe => exact h.1.lt
 | error pc => obtain ⟨j, R, _⟩ := h; exact R.lt
set_option maxRecDepth 8000 in
set_option maxHeartbeats 2000000 in
theorem short_deep {w : World} {g i : Nat} {T : ByteArray} (R : RB w g T i 0 0) (D : Nat) (hD : 100 < D) (SG : ByteArray) (nm : List UInt8) (r : Rs) (hr : r = .error (i, 16)) :
 Calls Tryz.prog 25 #[.pointer (some ⟨g, 0, none⟩), .string SG, .string ⟨nm.toArray⟩, .int .i64 (D : Int)] w fun x w' => ∃ v, x = .returned v ∧ Upg g w w' ∧ Aft w' g T r ∧ IsD w.heap.size w' r v := by
 have C := R.out.cells
 have hu := Upg.refl g w
 have Hr := As.mk hr
 have hDi : (100 : Int) < (D : Int) := by omega
 clear hr
 go_enter Tryz.func25, Tryz.ntmps25
 go_wp2_with (first
  | ((with_reducible refine g_dst 8 ?_); go_must (refine ev_alloc 8 rfl infoD (cs := [.int .i64 0, .int .i64 0, .bool false, .slice none 0 0, .string ⟨#[]⟩, .slice none 0 0, .slice none 0 0]) rfl ?_); intro g8 wn hb B8 hg8; have hs8 := Nat.le_trans hu.size hg8; have hne8 : g8 ≠ g := (fun h => by have := R.lt; omega); clear hg8; replace R := R.below hb; clear C; have C := R.out.cells; replace hu := hu.trans (Upg.of_below hb); clear hb)
  | (go_at_call 24; (with_reducible refine (fail_ok R (i : Int) 16).mono ?_); rintro e wn ⟨rfl, ho, R2⟩; have hq := Upg.of_only ho; clear C R; have R := R2; clear R2; have C := R.out.cells; replace hu := hu.trans hq; replace B8 := blk_upg B8 hq hne8; clear hq)
  | ((with_reducible refine g_store 8 ?_); go_must (refine ev_store rfl rfl B8 (news := [.int .i64 0, .int .i64 0, .bool false, .slice none 0 0, .string ⟨#[]⟩, .slice none 0 0, .slice none 0 0]) (by rfl) infoD (by simp) (by simp [Value.oneCell']) ?_); intro wn ho Bn; simp only [encD, zA, zB, zC, zD, zE, zF, zG, zH] at Bn; replace hu := hu.only_new ho hs8; have R2 : RB wn g T _ _ _ := ⟨R.out.only ho (Ne.symm hne8)⟩; clear C R; have R := R2; clear R2; have C := R.out.cells; replace B8 := Bn; clear Bn ho))
 refine bodyPost_ret (results_cell_row rfl _ _ g8 35 ([.int .i64 0, .int .i64 0, .bool false, .slice none 0 0, .string ⟨#[]⟩, .slice none 0 0, .slice none 0 0] : List Value).toArray (0, 0) _ rfl B8.h Tryz.underlying35 rfl (by kernel_rfl)) rfl ?_
 exact ⟨_, rfl, hu, by rw [Hr.out]; exact ⟨_, R, by decide⟩, ldZ, rfl, good_z _ _ _ (by decide) (by decide) _, fun b hb => (by rw [ldZ, foot_z] at hb; cases hb), fun x e h => by rw [Hr.out] at h; cases h⟩
set_option maxRecDepth 8000 in
set_option maxHeartbeats 2000000 in
theorem short_any {w : World} {g i n D : Nat} {T : ByteArray} (R : RB w g T i 0 0) (hT : T.size ≤ 65536) (hin : i + n ≤ T.size) (hD : D ≤ 100) (SG : ByteArray) (hSG : SG.size = n) (nm : List UInt8) (hN : PC T (.next D (i + n)))
 (q r : Rs) (hq : Run T.data.toList (.next D (i + n)) q) (hr : r = shortR nm q) :
 Calls Tryz.prog 25 #[.pointer (some ⟨g, 0, none⟩), .string SG, .string ⟨nm.toArray⟩, .int .i64 (D : Int)] w fun x w' => ∃ v, x = .returned v ∧ Upg g w w' ∧ Aft w' g T r ∧ IsD w.heap.size w' r v := by
 have C := R.out.cells
 have hu := Upg.refl g w
 have Hr := As.mk hr
 have HN := As.mk hN
 have Hq := As.mk hq
 have hDi : ¬ (100 : Int) < (D : Int) := by omega
 obtain ⟨j, hj⟩ : ∃ j, j = i + n := ⟨_, rfl⟩
 rw [← hj] at HN Hq hin
 have hi2 := hin
 have hij : (i : Int) + (SG.size : Int) = (j : Int) := by omega
 have hg0 := R.lt
 clear hr hN hq hj hSG
 go_enter Tryz.func25, Tryz.ntmps25
 go_wp2_with (first
  | ((with_reducible refine g_dst 8 ?_); go_must (refine ev_alloc 8 rfl infoD (cs := [.int .i64 0, .int .i64 0, .bool false, .slice none 0 0, .string ⟨#[]⟩, .slice none 0 0, .slice none 0 0]) rfl ?_); intro g8 wn hb B8 hg8; have hs8 := Nat.le_trans hu.size hg8; have hne8 : g8 ≠ g := (fun h => by have := R.lt; omega); clear hg8; replace R := R.below hb; clear C; have C := R.out.cells; replace hu := hu.trans (Upg.of_below hb); clear hb)
  | ((with_reducible refine g_store 29 ?_); go_must (refine ev_store rfl rfl R.out (news := [.int .i64 ((j : Nat) : Int)]) (by first | rfl | (go_simp; first | rfl | go_num | (simp; omega))) infoI (by simp) (by simp [Value.oneCell']) ?_); intro wn ho Bn; simp only [zI, zA, zC, zD, zE, zF, zH, zB, zG, Nat.reduceAdd] at Bn; have R2 : RB wn g T (j) 0 0 := ⟨Bn⟩; clear Bn; have hq := Upg.of_only ho; clear C R; have R := R2; clear R2; have C := R.out.cells; replace hu := hu.trans hq; replace B8 := blk_upg B8 hq hne8; clear hq; clear ho)
  | (go_at_call 18; have hsz := B8.lt; have hsu := hu.size; (with_reducible refine (PC.nextc HN.out hi2 hD R Hq.out).mono ?_); rintro e wn ⟨vn, rfl, hq, haf, ⟨y, rfl, hgy, hfy, hey⟩⟩; replace hu := hu.trans hq; replace B8 := blk_upg B8 hq hne8; have hf1 : ∀ b ∈ footD y, w.heap.size ≤ b ∧ b ≠ g8 := (fun b hb => by have := hfy b hb; omega); have Hey := As.mk hey; have Haf := As.mk haf; clear C hq R hfy hey hsz hsu haf; obtain ⟨kind, n0, neg, A, c, mag, text, Ai, ci, items, Ar, cr, rest⟩ := y)
  | ((with_reducible refine g_dst 35 ?_); go_must (refine ev_lit (v := fun g => .slice (some ⟨g, 0, none⟩) 2 2) 35 rfl (cs := encD (.mk 5 0 false none 0 [] nm none 0 [] none 0 []) ++ encD (.mk kind n0 neg A c mag text Ai ci items Ar cr rest)) (t := 35) (by go_simp; rfl) ?_); intro g35 wn hb B35 hg35; have hs35 := Nat.le_trans hu.size hg35; have hne35 : g35 ≠ g8 := (fun h => by have := B8.lt; omega); replace hu := hu.trans (Upg.of_below hb); replace B8 := B8.below hb; replace Haf := As.mk (Haf.out.below hb); replace hgy := hgy.to hb; clear hb hg35)
  | ((with_reducible refine g_store 8 ?_); go_must (refine ev_store rfl rfl B8 (news := [.int .i64 6, .int .i64 0, .bool false, .slice none 0 0, .string ⟨#[]⟩, .slice (some ⟨g35, 0, none⟩) 2 2, .slice none 0 0]) (by rfl) infoD (by simp) (by simp [Value.oneCell']) ?_); intro wn ho Bn; simp only [encD, zA, zB, zC, zD, zE, zF, zG, zH] at Bn; replace hu := hu.only_new ho hs8; replace Haf := As.mk (Haf.out.only ho (fun h => by omega)); replace hgy := good_only hgy ho (fun b hb => (hf1 b hb).2); replace B35 := B35.only ho hne35; replace B8 := Bn; clear Bn ho))
 refine bodyPost_ret (results_cell_row rfl _ _ g8 35 ([.int .i64 6, .int .i64 0, .bool false, .slice none 0 0, .string ⟨#[]⟩, .slice (some ⟨g35, 0, none⟩) 2 2, .slice none 0 0] : List Value).toArray (0, 0) _ rfl B8.h Tryz.underlying35 rfl (by kernel_rfl)) rfl ?_
 have hY : ∀ z ∈ [(.mk 5 0 false none 0 [] nm none 0 [] none 0 []), .mk kind n0 neg A c mag text Ai ci items Ar cr rest], Good wn z := fun z hz => by
  rcases List.mem_cons.1 hz with rfl | hz
  · exact good_z _ _ _ (by omega) (by omega) _
  · rw [List.mem_singleton] at hz; subst hz; exact hgy
 refine ⟨_, rfl, hu, Haf.out.to ?_, .mk 6 0 false none 0 [] [] (some ⟨g35, 0, none⟩) 2 [(.mk 5 0 false none 0 [] nm none 0 [] none 0 []), .mk kind n0 neg A c mag text Ai ci items Ar cr rest] none 0 [], rfl, ?_, ?_, ?_⟩
 · have := Hr.out
   cases q with
   | error p => exact this
   | ok xe => exact ⟨_, this⟩
 · exact .mk (by omega) (by omega) ⟨Rd.nil _ _ _ _, fun x hx => (nomatch hx), by simp, fun _ => rfl, by simp⟩ (B35.rd lenD (by simp)) (by simp) (fun h => (nomatch h)) (Rd.nil _ _ _ _) (by simp) (fun _ => rfl) hY (fun x hx => (nomatch hx))
 · intro b hb
   rw [footD] at hb
   simp only [List.length_nil, List.length_cons, if_true, footAll, List.append_nil, List.nil_append, foot_z, addrBlock] at hb
   rcases List.mem_append.1 hb with hb | hb
   · split at hb
     · cases hb
     · rw [List.mem_singleton] at hb; omega
   · exact (hf1 b hb).1
 · intro x e h
   have h2 := Hr.out
   cases q with
   | error p => rw [h2] at h; cases h
   | ok xe =>
     obtain ⟨x0, e0⟩ := xe
     rw [h2] at h
     cases h
     rw [← Hey.out x0 _ rfl]
     simp [erD, erAll, dList, dSym]
structure UpB (B g : Nat) (w w1 : World) : Prop where
 os : w1.os = w.os
 tape : w1.tape = w.tape
 output : w1.output = w.output
 size : w.heap.size ≤ w1.heap.size
 block : ∀ k, k < B → k ≠ g → w1.heap[k]? = w.heap[k]?
theorem UpB.refl (B g : Nat) (w : World) : UpB B g w w := ⟨rfl, rfl, rfl, Nat.le_refl _, fun _ _ _ => rfl⟩
theorem UpB.trans {B g : Nat} {w W w1 : World} (h : UpB B g w W) (k : UpB B g W w1) : UpB B g w w1 :=
 ⟨k.os.trans h.os, k.tape.trans h.tape, k.output.trans h.output, Nat.le_trans h.size k.size, fun i hi hne => (k.block i hi hne).trans (h.block i hi hne)⟩
theorem UpB.of_upg {B g : Nat} {w w1 : World} (h : Upg g w w1) (hB : B ≤ w.heap.size) : UpB B g w w1 := ⟨h.os, h.tape, h.output, h.size, fun k hk hne => h.block k (by omega) hne⟩
theorem UpB.of_below {B g : Nat} {w w1 : World} (h : Below w.heap.size w w1) (hB : B ≤ w.heap.size) : UpB B g w w1 := ⟨h.os, h.tape, h.output, h.size, fun k hk _ => h.block k (by omega)⟩
theorem UpB.of_belowB {B g : Nat} {w w1 : World} (h : Below B w w1) : UpB B g w w1 := ⟨h.os, h.tape, h.output, h.size, fun k hk _ => h.block k hk⟩
theorem UpB.of_only {B g k : Nat} {w w1 : World} (h : Only k w w1) (hk : B ≤ k) : UpB B g w w1 := ⟨h.os, h.tape, h.output, Nat.le_of_eq h.size.symm, fun i hi _ => h.block i (by omega)⟩
theorem UpB.upg {B g : Nat} {w w1 : World} (h : UpB B g w w1) (hB : w.heap.size ≤ B) : Upg g w w1 := ⟨h.os, h.tape, h.output, h.size, fun k hk hne => h.block k (by omega) hne⟩
theorem ow_keep {α : Type} {enc : α → List Value} {sz : Nat} {e : TypeId} {base : Nat} {w w1 : World} {v : Value} {l : List α} (f : Ow enc sz e base w v l) (h : ∀ k, v.ownBlock = some k → w1.heap[k]? = w.heap[k]?) : Ow enc sz e base w1 v l := by
 obtain ⟨h1, h2⟩ := f.own
 refine ⟨h1, ?_⟩
 rcases h2 with h2 | ⟨k, cap, cur, hv, hk, hh, r⟩
 · exact .inl h2
 · exact .inr ⟨k, cap, cur, hv, hk, (h k (by rw [hv]; rfl)).trans hh, r⟩
structure Its (B0 base : Nat) (W : World) (A : Option Addr) (c : Nat) (m : List LD) (acc : List DV) : Prop where
 ow : Ow encD 7 35 base W (.slice A m.length c) m
 good : ∀ y ∈ m, Good W y
 low : ∀ b ∈ footAll m, base ≤ b ∧ b < B0 ∧ (Value.slice A m.length c).ownBlock ≠ some b
 own : ∀ k, (Value.slice A m.length c).ownBlock = some k → base ≤ k ∧ k < B0
 same : erAll m = acc
theorem Its.nil (B0 base : Nat) (W : World) : Its B0 base W none 0 [] [] := ⟨Ow.nil _ _ _ _ _, fun y hy => (nomatch hy), fun b hb => (nomatch hb), fun k hk => (nomatch hk), rfl⟩
section
variable {B0 base : Nat} {W w1 : World} {A : Option Addr} {c : Nat} {m : List LD} {acc : List DV}
theorem Its.keep (h : Its B0 base W A c m acc) (hk : ∀ b, base ≤ b → b < B0 → w1.heap[b]? = W.heap[b]?) : Its B0 base w1 A c m acc :=
 ⟨ow_keep h.ow (fun k hk2 => hk k (h.own k hk2).1 (h.own k hk2).2), fun y hy => (h.good y hy).keep (fun b hb => hk b (h.low b (foot_mem hb hy)).1 (h.low b (foot_mem hb hy)).2.1), h.low, h.own, h.same⟩
theorem Its.upg {g : Nat} (h : Its B0 base W A c m acc) (hq : Upg g W w1) (hg : g < base) (hB : B0 ≤ W.heap.size) : Its B0 base w1 A c m acc := h.keep (fun b h1 h2 => hq.block b (by omega) (by omega))
theorem Its.below (h : Its B0 base W A c m acc) (hb : Below W.heap.size W w1) (hB : B0 ≤ W.heap.size) : Its B0 base w1 A c m acc := h.keep (fun b h1 h2 => hb.block b (by omega))
theorem Its.only {k : Nat} (h : Its B0 base W A c m acc) (ho : Only k W w1) (hk : k < base ∨ B0 ≤ k) : Its B0 base w1 A c m acc := h.keep (fun b h1 h2 => ho.block b (by omega))
theorem Its.more (h : Its B0 base W A c m acc) {B1 : Nat} (hB : B0 ≤ B1) : Its B1 base W A c m acc := ⟨h.ow, h.good, fun b hb => ⟨(h.low b hb).1, by have := (h.low b hb).2.1; omega, (h.low b hb).2.2⟩, fun k hk => ⟨(h.own k hk).1, by have := (h.own k hk).2; omega⟩, h.same⟩
theorem Its.append (h : Its B0 base W A c m acc) {l : List LD} {accl : List DV} (hB : B0 ≤ W.heap.size) (hbase : base ≤ B0) (hl : ∀ y ∈ l, Good W y) (hf : ∀ b ∈ footAll l, B0 ≤ b ∧ b < W.heap.size) (hs : erAll l = accl) {A' : Option Addr} {c' : Nat} {w1 : World}
 (ho : Ow encD 7 35 base w1 (.slice A' (m ++ l).length c') (m ++ l)) (hg : W.grownBy w1 (Value.slice A m.length c).ownBlock) (hor : ∀ k, (Value.slice A' (m ++ l).length c').ownBlock = some k → (Value.slice A m.length c).ownBlock = some k ∨ k = W.heap.size) :
 Its w1.heap.size base w1 A' c' (m ++ l) (acc ++ accl) := by
 have hsz := hg.size
 have hkeep : ∀ b, b < W.heap.size → (Value.slice A m.length c).ownBlock ≠ some b → w1.heap[b]? = W.heap[b]? := fun b hb hne => hg.block b hb (fun e => hne e.symm)
 have hfl : ∀ b ∈ footAll l, (Value.slice A m.length c).ownBlock ≠ some b := fun b hb e => by
  have := (hf b hb).1
  have := (h.own b e).2
  omega
 refine ⟨ho, fun y hy => ?_, fun b hb => ?_, fun k hk => ?_, by rw [erAll_append, h.same, hs]⟩
 · rcases List.mem_append.1 hy with hy | hy
   · exact (h.good y hy).keep (fun b hb => hkeep b (by have := (h.low b (foot_mem hb hy)).2.1; omega) (h.low b (foot_mem hb hy)).2.2)
   · exact (hl y hy).keep (fun b hb => hkeep b (hf b (foot_mem hb hy)).2 (hfl b (foot_mem hb hy)))
 · rw [footAll_append] at hb
   rcases List.mem_append.1 hb with hb | hb
   · have h1 := h.low b hb
     refine ⟨h1.1, by omega, fun e => ?_⟩
     rcases hor b e with h2 | h2
     · exact h1.2.2 h2
     · omega
   · have h1 := hf b hb
     refine ⟨by omega, by omega, fun e => ?_⟩
     rcases hor b e with h2 | h2
     · exact hfl b hb h2
     · omega
 · have h1 := ho.own.lt k hk
   exact ⟨h1.1, h1.2⟩
end
theorem st_append1 {α : Type} {enc : α → List Value} {sz : Nat} {e : TypeId} {base : Nat} {v : Value} {l : List α} {P : Program} {ops : Array Oper} {K : Act → World → Prop} {Q : Exit → Act → World → Prop} {E : Prop} {a : Act} {w : World} (N : Tmp) {s y : Operand} {t ty : TypeId} {ps : String} {af : Array Edge}
 (ht : P.underlying t = some (.slice e)) {z : Value} {bytes : Nat} (hi : (P.info? e).map (fun i => (i.zero, i.size, i.bytes)) = some (some z, sz, bytes)) (hz : z.cells.size = sz) (hsz : 0 < sz)
 (hs : a.eval s = v) (f : Ow enc sz e base w v l) (x : α) {g c : Nat} (hy : a.eval y = .slice (some ⟨g, 0, none⟩) 1 c) (B : Blk w g (enc x) e) (hen : (enc x).length = sz) (h1 : ∀ u ∈ enc x, u.oneCell' = true)
 (hb : (l.length + 1) * bytes ≤ 140737488355328) (hm : l.length + 1 ≤ maxLen) (hbase : base ≤ w.heap.size)
 (h : ∀ A' c' w1, Ow enc sz e base w1 (.slice A' (l ++ [x]).length c') (l ++ [x]) → w.grownBy w1 v.ownBlock → (∀ k, (Value.slice A' (l ++ [x]).length c').ownBlock = some k → v.ownBlock = some k ∨ k = w.heap.size) → K (a.put (some N) (.slice A' (l ++ [x]).length c')) w1) :
 if Region.wanted { dst := some N, op := .call { callee := .builtin .append, args := #[s, y], argTypes := #[t, t] }, type := ty, pos := ps, after := af, guard := none } (yielded ops a.tmps) = true then Oper.wp P { dst := some N, op := .call { callee := .builtin .append, args := #[s, y], argTypes := #[t, t] }, type := ty, pos := ps, after := af, guard := none } a w K Q else E := by
 obtain ⟨i0, hi0, hz0, hz1, hz2⟩ := info_parts hi
 have hlen : (l ++ [x]).length = l.length + 1 := by simp
 refine step_append_lies (P := P) w rfl s y t rfl base e i0 z sz bytes ht hi0 hz0 hz1 hz2 hz hsz v l.length (l.flatMap enc) hs f.own ⟨g, 0, none⟩ 1 c (enc x) hy (by rw [hen]; omega) (fun j u hu => ?_) h1 (by omega) hm hb hbase w.heap.size rfl ?_
 · rw [Addr.add_lit, B.cells]
   simpa using hu
 · intro g' cap w' hown hg hor hlt
   have := h (some ⟨g', 0, none⟩) cap w' ⟨?_⟩ hg ?_
   · rw [hlen] at this; exact this
   · rw [hlen, List.flatMap_append]
     simpa using hown
   · intro k hk
     simp only [Value.ownBlock, Option.some.injEq] at hk
     rcases hor with h2 | h2
     · exact .inl (by rw [h2, ← hk])
     · exact .inr (by rw [← hk, h2])
theorem ev_append2 {α : Type} {enc : α → List Value} {sz : Nat} {e : TypeId} {base : Nat} {v : Value} {l : List α} {P : Program} {ops : Array Oper} {Q : Exit → Act → World → Prop} {a : Act} {w : World} {rest : List Oper} (N : Tmp) {s x : Operand} {t ty : TypeId} {ps : String} {af : Array Edge} {gd : Option (Nat × Bool)}
 (hw : Region.wanted { dst := some N, op := .call { callee := .builtin .append, args := #[s, x], argTypes := #[t, t] }, type := ty, pos := ps, after := af, guard := gd } (yielded ops a.tmps) = true)
 (ht : P.underlying t = some (.slice e)) {z : Value} {bytes : Nat} (hi : (P.info? e).map (fun i => (i.zero, i.size, i.bytes)) = some (some z, sz, bytes)) (hz : z.cells.size = sz) (hsz : 0 < sz)
 (hs : a.eval s = v) (f : Ow enc sz e base w v l) {A : Option Addr} {n c : Nat} (hx : a.eval x = .slice A n c) {l2 : List α} (hn : l2.length = n) (r : Rd enc sz w A l2) (hen : ∀ x, (enc x).length = sz) (h1 : ∀ x, ∀ u ∈ enc x, u.oneCell' = true)
 (hA : A = none → c = 0) (hb : (l.length + n) * bytes ≤ 140737488355328) (hm : l.length + n ≤ maxLen) (hbase : base ≤ w.heap.size)
 (h : ∀ v' w1, Ow enc sz e base w1 v' (l ++ l2) → w.grownBy w1 v.ownBlock → (∀ k, v'.ownBlock = some k → v.ownBlock = some k ∨ k = w.heap.size) → wpList P ops Q rest (a.put (some N) v') w1) :
 wpList P ops Q ({ dst := some N, op := .call { callee := .builtin .append, args := #[s, x], argTypes := #[t, t] }, type := ty, pos := ps, after := af, guard := gd } :: rest) a w := by
 subst hn
 cases hq : P.info? e with
 | none => rw [hq] at hi; cases hi
 | some i =>
   rw [hq] at hi
   simp only [Option.map_some, Option.some.injEq, Prod.mk.injEq] at hi
   obtain ⟨hz0, hz1, hz2⟩ := hi
   cases A with
   | none =>
     have hl2 : l2 = [] := by
      rcases l2 with _ | ⟨y, l3⟩
      · rfl
      · obtain ⟨b, off, e, _⟩ := r.at_ (by simp)
        cases e
     subst hl2
     obtain rfl := hA rfl
     have hrun := run_append_owned_none (P := P) (w := w) base t ty e i sz ht hq v l.length _ f.own
     refine ev (v := v) (w1 := w) hw ?_ (h v w ?_ ⟨rfl, rfl, rfl, Nat.le_refl _, fun _ _ _ => rfl⟩ (fun k hk => .inl hk))
     · simp [execOp, resolve, invoke, builtin, hs, hx, hrun, Result.andThen]
     · rw [List.append_nil]; exact f
   | some ad =>
     obtain ⟨b, off, spot⟩ := ad
     have hcell : ∀ j u, (l2.flatMap enc)[j]? = some u → w.cell? ((⟨b, off, spot⟩ : Addr).add j) = some u := by
      intro j u hj
      have hlen : (l2.flatMap enc).length = l2.length * sz := by
       clear r hx hj h hb hm
       induction l2 with
       | nil => simp
       | cons y l3 ih => rw [List.flatMap_cons, List.length_append, hen, ih, List.length_cons, Nat.add_mul]; omega
      have hj' : j < l2.length * sz := by rw [← hlen]; exact (List.getElem?_eq_some_iff.1 hj).1
      have hn0 : l2 ≠ [] := by intro e; rw [e] at hj'; simp at hj'
      obtain ⟨b', off', e, hh⟩ := r.at_ hn0
      simp only [Option.some.injEq, Addr.mk.injEq] at e
      obtain ⟨rfl, rfl, rfl⟩ := e
      have hdiv : j / sz < l2.length := (Nat.div_lt_iff_lt_mul hsz).2 hj'
      have hmod : j % sz < (enc l2[j / sz]).length := by rw [hen]; exact Nat.mod_lt _ hsz
      have hj2 := flat_at enc sz hen l2 (j / sz) _ (List.getElem?_eq_getElem hdiv) (j % sz) _ (List.getElem?_eq_getElem hmod)
      have hdm : j / sz * sz + j % sz = j := by rw [Nat.mul_comm]; exact Nat.div_add_mod j sz
      rw [hdm, hj] at hj2
      have h3 := hh (j / sz) _ (List.getElem?_eq_getElem hdiv) (j % sz) _ (List.getElem?_eq_getElem hmod)
      rw [Nat.add_assoc, hdm] at h3
      rw [Addr.add_lit, h3]
      exact hj2.symm
     have hlen : (l2.flatMap enc).length = l2.length * sz := by
      clear r hx h hb hm hcell
      induction l2 with
      | nil => simp
      | cons y l3 ih => rw [List.flatMap_cons, List.length_append, hen, ih, List.length_cons, Nat.add_mul]; omega
     obtain ⟨v', w', hr, h2, h3, _, h5⟩ := run_append_own_at (P := P) w base t ty e i z sz bytes ht hq hz0 hz1 hz2 hz hsz v l.length _ f.own ⟨b, off, spot⟩ l2.length c (l2.flatMap enc) hlen hcell
      (fun u hu => by obtain ⟨y, _, hy⟩ := List.mem_flatMap.1 hu; exact h1 y u hy) hm hb hbase
     refine ev (v := v') (w1 := w') hw ?_ (h v' w' ⟨?_⟩ h3 (fun k hk => by
      rcases h5 with h5 | h5
      · exact .inl (by rw [← h5]; exact hk)
      · rw [h5] at hk; cases hk; exact .inr rfl))
     · simp [execOp, resolve, invoke, builtin, hs, hx, hr, Result.andThen]
     · rw [List.length_append, List.flatMap_append]; exact h2
section
variable {s : List UInt8}
def Many : J → Rs → Prop
 | .datum _ i, .ok (x, e) => i < s.length → x.items.length + i ≤ e
 | .next _ i, .ok (x, e) => x.items.length + i ≤ e
 | .items _ _ i acc, .ok (x, e) => x.items.length + i ≤ acc.length + e
 | _, _ => True
theorem run_many {j : J} {r : Rs} (h : Run s j r) : Many (s := s) j r := by
 induction h with
 | b_fin _ => trivial
 | b_stop _ => trivial
 | @b_blank d i r _ _ _ => cases r <;> trivial
 | @b_line d i r _ _ _ => cases r <;> trivial
 | @b_nest d i e r _ _ _ _ => cases r <;> trivial
 | b_open _ _ => trivial
 | @b_skip d i x e r _ _ _ _ _ => cases r <;> trivial
 | b_skipE _ _ _ => trivial
 | n_err _ _ => trivial
 | n_fin _ _ _ => trivial
 | @n_ok d i x e r h1 h2 h3 _ ih =>
   cases r with
   | error p => trivial
   | ok xe =>
     obtain ⟨y, f⟩ := xe
     have h4 : y.items.length + e ≤ f := ih h2
     have h5 : i ≤ e := run_goes h1 rfl
     show y.items.length + i ≤ f
     omega
 | d_close _ => trivial
 | @d_str d i _ =>
   unfold strR
   split
   · rename_i t e hs
     intro _
     have := strF_gt _ _ hs
     show 0 + i ≤ e
     omega
   · trivial
 | @d_tok d i _ =>
   cases ht : tokR s i with
   | error p => trivial
   | ok xe =>
     obtain ⟨x, e⟩ := xe
     intro hi
     have h1 := tokR_gt hi ht
     have h2 := tokR_rdb ht 0
     have h3 : x.items.length = 0 := by cases h2 <;> rfl
     omega
 | d_listD _ _ => trivial
 | @d_list d i r _ _ _ ih =>
   cases r with
   | error p => trivial
   | ok xe =>
     obtain ⟨x, e⟩ := xe
     have h4 : x.items.length + (i + 1) ≤ 0 + e := ih
     intro _
     omega
 | d_vecD _ _ => trivial
 | @d_vec d i r _ _ _ ih =>
   cases r with
   | error p => trivial
   | ok xe =>
     obtain ⟨x, e⟩ := xe
     have h4 : x.items.length + (i + 2) ≤ 0 + e := ih
     intro _
     omega
 | d_shortD _ _ => trivial
 | d_shortE _ _ _ _ => trivial
 | @d_short d i nm n x e h1 _ h2 ih =>
   intro _
   have h3 : i + n < e := run_goes h2 rfl
   have h4 := short_pos h1
   show 2 + i ≤ e
   omega
 | i_err _ _ => trivial
 | i_fin _ _ _ => trivial
 | @i_close v d i acc x e h1 h2 _ =>
   have h3 : i ≤ e := run_goes h1 rfl
   cases v
   · show acc.length + i ≤ acc.length + (e + 1)
     omega
   · show acc.length + i ≤ acc.length + (e + 1)
     omega
 | i_bad _ _ _ => trivial
 | i_moreE _ _ _ _ _ => trivial
 | @i_more v d i acc x e y f r h1 h2 h3 h4 _ _ ih =>
   cases r with
   | error p => trivial
   | ok xe =>
     obtain ⟨z, g⟩ := xe
     have h5 : z.items.length + f ≤ (acc ++ [y]).length + g := ih
     have h6 : i ≤ e := run_goes h1 rfl
     have h7 : e < f := run_goes h3 rfl (icls_lt (v := v) (acc := acc) (by rw [h2]; decide))
     rw [List.length_append, List.length_singleton] at h5
     show z.items.length + i ≤ acc.length + g
     omega
 | i_dotE _ _ _ _ _ => trivial
 | i_dotF _ _ _ _ _ _ => trivial
 | i_dotC _ _ _ _ _ _ => trivial
 | i_lastE _ _ _ _ _ _ _ _ _ => trivial
 | i_lastB _ _ _ _ _ _ _ _ _ _ _ => trivial
 | i_lastF => trivial
 | i_lastX => trivial
 | @i_last v d i acc x e y f z g u h h1 h2 h3 h4 h5 h6 h7 h8 _ _ ih _ =>
   have k1 : i ≤ e := run_goes h1 rfl
   have k2 : e + 1 ≤ f := run_goes h3 rfl
   have k3 : z.items.length + f ≤ g := ih h4
   have k4 : g ≤ h := run_goes h7 rfl
   show (joined acc z).items.length + i ≤ acc.length + (h + 1)
   unfold joined
   split
   · show (acc ++ z.items).length + i ≤ acc.length + (h + 1)
     rw [List.length_append]
     omega
   · show acc.length + i ≤ acc.length + (h + 1)
     omega
end
end Go.Proofs.YtdapbegadhcpcaaGreatDoor
