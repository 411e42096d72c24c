/- A part of the proof. -/
import Derived.Test.YtdapbegadhcpcaaGreatDoorRfO
import Derived.Test.YtdapbegadhcpcaaGreatDoorRfP
import Derived.Test.YtdapbegadhcpcaaGreatDoorRfF
import Derived.Test.YtdapbegadhcpcaaGreatDoorRfG
import Derived.Test.YtdapbegadhcpcaaGreatDoorRdP
set_option linter.unusedVariables false
set_option linter.unusedSimpArgs false
namespace Go.Proofs.YtdapbegadhcpcaaGreatDoor
open Go.RowKit Go.Proofs.YtdapbegadhcpcaaGreatDoorL Go.Proofs.YtdapbegadhcpcaaGreatDoorM
set_option maxRecDepth 16000 in
set_option maxHeartbeats 40000000 in
theorem rnext_pc (T : ByteArray) (hT : T.size ≤ 65536) (d i : Nat) (IH : ∀ j, wtJ T.data.toList j < wtJ T.data.toList (.next d i) → PCr T j) : PCr T (.next d i) := by
 intro w g r hi hd R hr
 have hsl := size_list T
 have HB := As.mk (IH (.blanks d i) (by simp only [wtJ]; omega))
 have IHb : As (∀ k, i < k → i < T.size → PCr T (.blanks (d + 1) k)) := ⟨fun k hk h => IH _ (by simp only [wtJ]; omega)⟩
 have IHn : As (∀ k, i < k → i < T.size → PCr T (.next (d + 1) k)) := ⟨fun k hk h => IH _ (by simp only [wtJ]; omega)⟩
 clear IH
 obtain ⟨q, hq, hrr⟩ := inv_next hr
 have Hq := As.mk hq
 have C := R.out.cells
 have hu := Upg.refl g w
 clear hr
 cases q with
 | error pc =>
   obtain ⟨p, c0⟩ := pc
   have Hr : As (r = .error (p, c0)) := ⟨hrr⟩
   clear hrr hq
   as_aux_lemma =>
    go_enter Tryz.func17, Tryz.ntmps17
    go_wp2_with (first
     | ((with_reducible refine g_dst 4 ?_); go_must (refine ev_alloc 4 rfl infoD (cs := [.int .i64 0, .int .i64 0, .bool false, .slice none 0 0, .string ⟨#[]⟩, .slice none 0 0, .slice none 0 0]) rfl ?_); intro g4 wn hb B4 hg4; have hs4 := Nat.le_trans hu.size hg4; have hne4 : g4 ≠ g := (fun h => by have := R.lt; omega); clear hg4; replace R := R.below hb; clear C; have C := R.out.cells; replace hu := hu.trans (Upg.of_below hb); clear hb)
     | (go_at_call 15; (with_reducible refine (PCr.blanksc HB.out hi hd R Hq.out).mono ?_); rintro e9 wn ⟨rfl, hq, haf⟩; replace hu := hu.trans hq; replace B4 := blk_upg B4 hq hne4; clear C hq R; obtain ⟨j2, R, hc2⟩ : ∃ j2, RR wn g T j2 (p : Int) (c0 : Int) ∧ c0 ≠ 0 := haf; have hz : ((c0 : Int) != 0) = true := (by simpa using hc2); have HC := As.mk hc2; clear hc2; have C := R.out.cells)
     | ((with_reducible refine g_store 4 ?_); go_must (refine ev_store rfl rfl B4 (news := [.int .i64 0, .int .i64 0, .bool false, .slice none 0 0, .string ⟨#[]⟩, .slice none 0 0, .slice none 0 0]) (by first | rfl | (go_simp; try rfl)) infoD (by simp) (by simp [Value.oneCell']) ?_); intro wn ho Bn; simp only [encD, zA, zB, zC, zD, zE, zF, zG, zH] at Bn; replace hu := hu.only_new ho hs4; have R2 : RR wn g T _ _ _ := ⟨R.out.only ho (Ne.symm hne4)⟩; clear C R; have R := R2; clear R2; have C := R.out.cells; replace B4 := Bn; clear Bn ho))
    refine bodyPost_ret (results_cell_row rfl _ _ g4 35 ([.int .i64 0, .int .i64 0, .bool false, .slice none 0 0, .string ⟨#[]⟩, .slice none 0 0, .slice none 0 0] : List Value).toArray (0, 0) _ rfl B4.h Tryz.underlying35 rfl (by kernel_rfl)) rfl ?_
    exact ⟨_, rfl, hu, by rw [Hr.out]; exact ⟨_, R, HC.out⟩, ldZ, rfl, good_z _ _ _ (by decide) (by decide) _, fun b hb => (by rw [ldZ, foot_z] at hb; cases hb), fun x e h => by rw [Hr.out] at h; cases h⟩
 | ok xe =>
   obtain ⟨x, e⟩ := xe
   simp only at hrr
   have hie : i ≤ e := run_goes hq rfl
   have hel2 : e ≤ T.size := by
    have h9 : e ≤ T.data.toList.length := run_le hq rfl (by simp only; omega)
    omega
   by_cases hm : e < T.size
   case neg =>
    rw [if_neg (by omega)] at hrr
    have Hr : As (r = .error (T.size, 10)) := ⟨by rw [hrr, hsl]⟩
    have d1 : decide (T.size ≤ e) = true := decide_eq_true (by omega)
    clear hrr hq
    as_aux_lemma =>
     go_enter Tryz.func17, Tryz.ntmps17
     go_wp2_with (first
      | ((with_reducible refine g_dst 4 ?_); go_must (refine ev_alloc 4 rfl infoD (cs := [.int .i64 0, .int .i64 0, .bool false, .slice none 0 0, .string ⟨#[]⟩, .slice none 0 0, .slice none 0 0]) rfl ?_); intro g4 wn hb B4 hg4; have hs4 := Nat.le_trans hu.size hg4; have hne4 : g4 ≠ g := (fun h => by have := R.lt; omega); clear hg4; replace R := R.below hb; clear C; have C := R.out.cells; replace hu := hu.trans (Upg.of_below hb); clear hb)
      | (go_at_call 15; (with_reducible refine (PCr.blanksc HB.out hi hd R Hq.out).mono ?_); rintro e9 wn ⟨rfl, hq, haf⟩; replace hu := hu.trans hq; replace B4 := blk_upg B4 hq hne4; clear C hq R; obtain ⟨R, _⟩ : RR wn g T e 0 0 ∧ e ≤ T.size := haf; have C := R.out.cells)
      | (go_at_call 16; (with_reducible refine (rend_b R true d1).mono ?_); rintro e wn ⟨vn, rfl, rfl, hb⟩; replace R := R.below hb; clear C; have C := R.out.cells; replace hu := hu.trans (Upg.of_below hb); replace B4 := B4.below hb; clear hb)
      | (go_at_call 31; (with_reducible refine (rfail_ok R 10 T.size).mono ?_); rintro e wn ⟨rfl, ho, R2⟩; have hq := Upg.of_only ho; clear C R; have R := R2; clear R2; have C := R.out.cells; replace hu := hu.trans hq; replace B4 := blk_upg B4 hq hne4; clear hq)
      | ((with_reducible refine g_store 4 ?_); go_must (refine ev_store rfl rfl B4 (news := [.int .i64 0, .int .i64 0, .bool false, .slice none 0 0, .string ⟨#[]⟩, .slice none 0 0, .slice none 0 0]) (by first | rfl | (go_simp; try rfl)) infoD (by simp) (by simp [Value.oneCell']) ?_); intro wn ho Bn; simp only [encD, zA, zB, zC, zD, zE, zF, zG, zH] at Bn; replace hu := hu.only_new ho hs4; have R2 : RR wn g T _ _ _ := ⟨R.out.only ho (Ne.symm hne4)⟩; clear C R; have R := R2; clear R2; have C := R.out.cells; replace B4 := Bn; clear Bn ho))
     refine bodyPost_ret (results_cell_row rfl _ _ g4 35 ([.int .i64 0, .int .i64 0, .bool false, .slice none 0 0, .string ⟨#[]⟩, .slice none 0 0, .slice none 0 0] : List Value).toArray (0, 0) _ rfl B4.h Tryz.underlying35 rfl (by kernel_rfl)) rfl ?_
     exact ⟨_, rfl, hu, by rw [Hr.out]; exact ⟨_, R, by decide⟩, ldZ, rfl, good_z _ _ _ (by decide) (by decide) _, fun b hb => (by rw [ldZ, foot_z] at hb; cases hb), fun x e h => by rw [Hr.out] at h; cases h⟩
   rw [if_pos (by omega)] at hrr
   have d1 : decide (T.size ≤ e) = false := decide_eq_false (by omega)
   clear hq
   obtain ⟨c, hc⟩ := get_size T hm
   have hcx := get_c hm hc
   have hei : (e : Int) < (T.size : Int) := by omega
   have hdf := dcls_facts hc
   replace hrr := inv_datum hrr
   obtain ⟨D, hD0⟩ : ∃ D, D = d + 1 := ⟨_, rfl⟩
   rw [← hD0] at IHb IHn
   have hdD : (d : Int) + 1 = (D : Int) := by omega
   have h12 : T.data.toList[e + 1]? = some 40 → e + 2 ≤ T.size := fun h => by have := (List.getElem?_eq_some_iff.1 h).1; omega
   have h13 : T.data.toList[e + 1]? = some 64 → e + 2 ≤ T.size := fun h => by have := (List.getElem?_eq_some_iff.1 h).1; omega
   have JHb : As (∀ k, e < k → PCr T (.blanks D k)) := ⟨fun k hk => IHb.out k (by omega) (by omega)⟩
   have JHn : As (∀ k, e < k → PCr T (.next D k)) := ⟨fun k hk => IHn.out k (by omega) (by omega)⟩
   rcases hdf with ⟨hcl, f40⟩ | ⟨hcl, f40, f3540⟩ | ⟨hcl, f40, f3540, f41⟩ | ⟨hcl, f40, f3540, f41, f39⟩ | ⟨hcl, f40, f3540, f41, f39, f96⟩ | ⟨hcl, f40, f3540, f41, f39, f96, f4464⟩ | ⟨hcl, f40, f3540, f41, f39, f96, f4464, f44⟩ | ⟨hcl, f40, f3540, f41, f39, f96, f4464, f44, f34⟩ | ⟨hcl, f40, f3540, f41, f39, f96, f4464, f44, f34⟩
   · rw [hcl] at hrr
     simp only at hrr
     have hcv : c = 40 := by
      have := f40
      rw [pre1_iff hc] at this
      exact of_decide_eq_true this
     have e40 : ((c.toNat : Int) == 40) = true := by rw [hcv]; rfl
     have e41 : ((c.toNat : Int) == 41) = false := by rw [hcv]; rfl
     have e34 : ((c.toNat : Int) == 34) = false := by rw [hcv]; rfl
     have e39 : ((c.toNat : Int) == 39) = false := by rw [hcv]; rfl
     have e96 : ((c.toNat : Int) == 96) = false := by rw [hcv]; rfl
     have e44 : ((c.toNat : Int) == 44) = false := by rw [hcv]; rfl
     have e35 : ((c.toNat : Int) == 35) = false := by rw [hcv]; rfl
     have hin : e + 1 ≤ T.size := by omega
     by_cases hd9 : d < 100
     · rw [if_pos hd9] at hrr
       have Hr : As (Run T.data.toList (.items false D (e + 1) []) r) := ⟨by rw [hD0]; exact hrr⟩
       have hDD : D ≤ 100 := by omega
       clear hrr hcl h12 h13 hc hD0 hcv
       as_aux_lemma =>
        go_enter Tryz.func17, Tryz.ntmps17
        go_wp2_with (first
         | ((with_reducible refine g_dst 4 ?_); go_must (refine ev_alloc 4 rfl infoD (cs := [.int .i64 0, .int .i64 0, .bool false, .slice none 0 0, .string ⟨#[]⟩, .slice none 0 0, .slice none 0 0]) rfl ?_); intro g4 wn hb B4 hg4; have hs4 := Nat.le_trans hu.size hg4; have hne4 : g4 ≠ g := (fun h => by have := R.lt; omega); clear hg4; replace R := R.below hb; clear C; have C := R.out.cells; replace hu := hu.trans (Upg.of_below hb); clear hb)
         | (go_at_call 15; (with_reducible refine (PCr.blanksc HB.out hi hd R Hq.out).mono ?_); rintro e9 wn ⟨rfl, hq, haf⟩; replace hu := hu.trans hq; replace B4 := blk_upg B4 hq hne4; clear C hq R; obtain ⟨R, _⟩ : RR wn g T e 0 0 ∧ e ≤ T.size := haf; have C := R.out.cells)
         | (go_at_call 16; (with_reducible refine (rend_b R false d1).mono ?_); rintro e wn ⟨vn, rfl, rfl, hb⟩; replace R := R.below hb; clear C; have C := R.out.cells; replace hu := hu.trans (Upg.of_below hb); replace B4 := B4.below hb; clear hb)
         | (go_at_call 32; have hsz := B4.lt; have hsu := hu.size; (with_reducible refine (rlist_lst R hT hin hDD JHb JHn r Hr.out).mono ?_); rintro e9 wn ⟨vn, rfl, hq, haf, ⟨y, rfl, hgy, hfy, hey⟩⟩; replace hu := hu.trans hq; replace B4 := blk_upg B4 hq hne4; have hf1 : ∀ b ∈ footD y, w.heap.size ≤ b ∧ b ≠ g4 := (fun b hb => by have := hfy b hb; omega); have Hey := As.mk hey; have Haf := As.mk haf; clear C hq R hfy hey hsz hsu haf; obtain ⟨kind, n0, neg, A, c2, mag, text, Ai, ci, items, Ar, cr, rest⟩ := y)
         | ((with_reducible refine g_store 4 ?_); go_must (refine ev_store rfl rfl B4 (news := encD (.mk kind n0 neg A c2 mag text Ai ci items Ar cr rest)) (by rfl) infoD (by simp [encD]) (by simp [encD, Value.oneCell']) ?_); intro wn ho Bn; simp only [encD, zA, zB, zC, zD, zE, zF, zG, zH] at Bn; replace hu := hu.only_new ho hs4; replace hgy := good_only hgy ho (fun b hb => (hf1 b hb).2); have Haf2 := As.mk (Haf.out.only ho (Ne.symm hne4)); replace B4 := Bn; clear Bn ho))
        refine bodyPost_ret (results_cell_row rfl _ _ g4 35 (encD (.mk kind n0 neg A c2 mag text Ai ci items Ar cr rest)).toArray (0, 0) _ rfl B4.h Tryz.underlying35 rfl (by kernel_rfl)) rfl ?_
        exact ⟨_, rfl, hu, Haf2.out, .mk kind n0 neg A c2 mag text Ai ci items Ar cr rest, rfl, hgy, fun b hb => (hf1 b hb).1, Hey.out⟩
     · rw [if_neg hd9] at hrr
       have Hr := As.mk hrr
       have hDD : 100 < D := by omega
       clear hrr hcl h12 h13 hc hD0 hcv
       as_aux_lemma =>
        go_enter Tryz.func17, Tryz.ntmps17
        go_wp2_with (first
         | ((with_reducible refine g_dst 4 ?_); go_must (refine ev_alloc 4 rfl infoD (cs := [.int .i64 0, .int .i64 0, .bool false, .slice none 0 0, .string ⟨#[]⟩, .slice none 0 0, .slice none 0 0]) rfl ?_); intro g4 wn hb B4 hg4; have hs4 := Nat.le_trans hu.size hg4; have hne4 : g4 ≠ g := (fun h => by have := R.lt; omega); clear hg4; replace R := R.below hb; clear C; have C := R.out.cells; replace hu := hu.trans (Upg.of_below hb); clear hb)
         | (go_at_call 15; (with_reducible refine (PCr.blanksc HB.out hi hd R Hq.out).mono ?_); rintro e9 wn ⟨rfl, hq, haf⟩; replace hu := hu.trans hq; replace B4 := blk_upg B4 hq hne4; clear C hq R; obtain ⟨R, _⟩ : RR wn g T e 0 0 ∧ e ≤ T.size := haf; have C := R.out.cells)
         | (go_at_call 16; (with_reducible refine (rend_b R false d1).mono ?_); rintro e wn ⟨vn, rfl, rfl, hb⟩; replace R := R.below hb; clear C; have C := R.out.cells; replace hu := hu.trans (Upg.of_below hb); replace B4 := B4.below hb; clear hb)
         | (go_at_call 32; have hsz := B4.lt; have hsu := hu.size; (with_reducible refine (rlist_deep R D hDD false r Hr.out).mono ?_); rintro e9 wn ⟨vn, rfl, hq, haf, ⟨y, rfl, hgy, hfy, hey⟩⟩; replace hu := hu.trans hq; replace B4 := blk_upg B4 hq hne4; have hf1 : ∀ b ∈ footD y, w.heap.size ≤ b ∧ b ≠ g4 := (fun b hb => by have := hfy b hb; omega); have Hey := As.mk hey; have Haf := As.mk haf; clear C hq R hfy hey hsz hsu haf; obtain ⟨kind, n0, neg, A, c2, mag, text, Ai, ci, items, Ar, cr, rest⟩ := y)
         | ((with_reducible refine g_store 4 ?_); go_must (refine ev_store rfl rfl B4 (news := encD (.mk kind n0 neg A c2 mag text Ai ci items Ar cr rest)) (by rfl) infoD (by simp [encD]) (by simp [encD, Value.oneCell']) ?_); intro wn ho Bn; simp only [encD, zA, zB, zC, zD, zE, zF, zG, zH] at Bn; replace hu := hu.only_new ho hs4; replace hgy := good_only hgy ho (fun b hb => (hf1 b hb).2); have Haf2 := As.mk (Haf.out.only ho (Ne.symm hne4)); replace B4 := Bn; clear Bn ho))
        refine bodyPost_ret (results_cell_row rfl _ _ g4 35 (encD (.mk kind n0 neg A c2 mag text Ai ci items Ar cr rest)).toArray (0, 0) _ rfl B4.h Tryz.underlying35 rfl (by kernel_rfl)) rfl ?_
        exact ⟨_, rfl, hu, Haf2.out, .mk kind n0 neg A c2 mag text Ai ci items Ar cr rest, rfl, hgy, fun b hb => (hf1 b hb).1, Hey.out⟩
   · rw [hcl] at hrr
     simp only at hrr
     have hcv : c = 35 := by
      have := f3540
      rw [pre2_iff2 hc] at this
      exact (of_decide_eq_true this).1
     have e40 : ((c.toNat : Int) == 40) = false := by rw [hcv]; rfl
     have e41 : ((c.toNat : Int) == 41) = false := by rw [hcv]; rfl
     have e34 : ((c.toNat : Int) == 34) = false := by rw [hcv]; rfl
     have e39 : ((c.toNat : Int) == 39) = false := by rw [hcv]; rfl
     have e96 : ((c.toNat : Int) == 96) = false := by rw [hcv]; rfl
     have e44 : ((c.toNat : Int) == 44) = false := by rw [hcv]; rfl
     have e35 : ((c.toNat : Int) == 35) = true := by rw [hcv]; rfl
     have hin : e + 2 ≤ T.size := by
      have := f3540
      rw [pre2_iff2 hc] at this
      exact h12 (of_decide_eq_true this).2
     by_cases hd9 : d < 100
     · rw [if_pos hd9] at hrr
       have Hr : As (Run T.data.toList (.items true D (e + 2) []) r) := ⟨by rw [hD0]; exact hrr⟩
       have hDD : D ≤ 100 := by omega
       clear hrr hcl h12 h13 hc hD0 hcv
       as_aux_lemma =>
        go_enter Tryz.func17, Tryz.ntmps17
        go_wp2_with (first
         | ((with_reducible refine g_dst 4 ?_); go_must (refine ev_alloc 4 rfl infoD (cs := [.int .i64 0, .int .i64 0, .bool false, .slice none 0 0, .string ⟨#[]⟩, .slice none 0 0, .slice none 0 0]) rfl ?_); intro g4 wn hb B4 hg4; have hs4 := Nat.le_trans hu.size hg4; have hne4 : g4 ≠ g := (fun h => by have := R.lt; omega); clear hg4; replace R := R.below hb; clear C; have C := R.out.cells; replace hu := hu.trans (Upg.of_below hb); clear hb)
         | (go_at_call 15; (with_reducible refine (PCr.blanksc HB.out hi hd R Hq.out).mono ?_); rintro e9 wn ⟨rfl, hq, haf⟩; replace hu := hu.trans hq; replace B4 := blk_upg B4 hq hne4; clear C hq R; obtain ⟨R, _⟩ : RR wn g T e 0 0 ∧ e ≤ T.size := haf; have C := R.out.cells)
         | (go_at_call 16; (with_reducible refine (rend_b R false d1).mono ?_); rintro e wn ⟨vn, rfl, rfl, hb⟩; replace R := R.below hb; clear C; have C := R.out.cells; replace hu := hu.trans (Upg.of_below hb); replace B4 := B4.below hb; clear hb)
         | (go_at_call 29; (with_reducible refine (rtwo_b R hel2 hT 35 40 true f3540).mono ?_); rintro e wn ⟨vn, rfl, rfl, hb⟩; replace R := R.below hb; clear C; have C := R.out.cells; replace hu := hu.trans (Upg.of_below hb); replace B4 := B4.below hb; clear hb)
         | (go_at_call 32; have hsz := B4.lt; have hsu := hu.size; (with_reducible refine (rlist_vec R hT hin hDD JHb JHn r Hr.out).mono ?_); rintro e9 wn ⟨vn, rfl, hq, haf, ⟨y, rfl, hgy, hfy, hey⟩⟩; replace hu := hu.trans hq; replace B4 := blk_upg B4 hq hne4; have hf1 : ∀ b ∈ footD y, w.heap.size ≤ b ∧ b ≠ g4 := (fun b hb => by have := hfy b hb; omega); have Hey := As.mk hey; have Haf := As.mk haf; clear C hq R hfy hey hsz hsu haf; obtain ⟨kind, n0, neg, A, c2, mag, text, Ai, ci, items, Ar, cr, rest⟩ := y)
         | ((with_reducible refine g_store 4 ?_); go_must (refine ev_store rfl rfl B4 (news := encD (.mk kind n0 neg A c2 mag text Ai ci items Ar cr rest)) (by rfl) infoD (by simp [encD]) (by simp [encD, Value.oneCell']) ?_); intro wn ho Bn; simp only [encD, zA, zB, zC, zD, zE, zF, zG, zH] at Bn; replace hu := hu.only_new ho hs4; replace hgy := good_only hgy ho (fun b hb => (hf1 b hb).2); have Haf2 := As.mk (Haf.out.only ho (Ne.symm hne4)); replace B4 := Bn; clear Bn ho))
        refine bodyPost_ret (results_cell_row rfl _ _ g4 35 (encD (.mk kind n0 neg A c2 mag text Ai ci items Ar cr rest)).toArray (0, 0) _ rfl B4.h Tryz.underlying35 rfl (by kernel_rfl)) rfl ?_
        exact ⟨_, rfl, hu, Haf2.out, .mk kind n0 neg A c2 mag text Ai ci items Ar cr rest, rfl, hgy, fun b hb => (hf1 b hb).1, Hey.out⟩
     · rw [if_neg hd9] at hrr
       have Hr := As.mk hrr
       have hDD : 100 < D := by omega
       clear hrr hcl h12 h13 hc hD0 hcv
       as_aux_lemma =>
        go_enter Tryz.func17, Tryz.ntmps17
        go_wp2_with (first
         | ((with_reducible refine g_dst 4 ?_); go_must (refine ev_alloc 4 rfl infoD (cs := [.int .i64 0, .int .i64 0, .bool false, .slice none 0 0, .string ⟨#[]⟩, .slice none 0 0, .slice none 0 0]) rfl ?_); intro g4 wn hb B4 hg4; have hs4 := Nat.le_trans hu.size hg4; have hne4 : g4 ≠ g := (fun h => by have := R.lt; omega); clear hg4; replace R := R.below hb; clear C; have C := R.out.cells; replace hu := hu.trans (Upg.of_below hb); clear hb)
         | (go_at_call 15; (with_reducible refine (PCr.blanksc HB.out hi hd R Hq.out).mono ?_); rintro e9 wn ⟨rfl, hq, haf⟩; replace hu := hu.trans hq; replace B4 := blk_upg B4 hq hne4; clear C hq R; obtain ⟨R, _⟩ : RR wn g T e 0 0 ∧ e ≤ T.size := haf; have C := R.out.cells)
         | (go_at_call 16; (with_reducible refine (rend_b R false d1).mono ?_); rintro e wn ⟨vn, rfl, rfl, hb⟩; replace R := R.below hb; clear C; have C := R.out.cells; replace hu := hu.trans (Upg.of_below hb); replace B4 := B4.below hb; clear hb)
         | (go_at_call 29; (with_reducible refine (rtwo_b R hel2 hT 35 40 true f3540).mono ?_); rintro e wn ⟨vn, rfl, rfl, hb⟩; replace R := R.below hb; clear C; have C := R.out.cells; replace hu := hu.trans (Upg.of_below hb); replace B4 := B4.below hb; clear hb)
         | (go_at_call 32; have hsz := B4.lt; have hsu := hu.size; (with_reducible refine (rlist_deep R D hDD true r Hr.out).mono ?_); rintro e9 wn ⟨vn, rfl, hq, haf, ⟨y, rfl, hgy, hfy, hey⟩⟩; replace hu := hu.trans hq; replace B4 := blk_upg B4 hq hne4; have hf1 : ∀ b ∈ footD y, w.heap.size ≤ b ∧ b ≠ g4 := (fun b hb => by have := hfy b hb; omega); have Hey := As.mk hey; have Haf := As.mk haf; clear C hq R hfy hey hsz hsu haf; obtain ⟨kind, n0, neg, A, c2, mag, text, Ai, ci, items, Ar, cr, rest⟩ := y)
         | ((with_reducible refine g_store 4 ?_); go_must (refine ev_store rfl rfl B4 (news := encD (.mk kind n0 neg A c2 mag text Ai ci items Ar cr rest)) (by rfl) infoD (by simp [encD]) (by simp [encD, Value.oneCell']) ?_); intro wn ho Bn; simp only [encD, zA, zB, zC, zD, zE, zF, zG, zH] at Bn; replace hu := hu.only_new ho hs4; replace hgy := good_only hgy ho (fun b hb => (hf1 b hb).2); have Haf2 := As.mk (Haf.out.only ho (Ne.symm hne4)); replace B4 := Bn; clear Bn ho))
        refine bodyPost_ret (results_cell_row rfl _ _ g4 35 (encD (.mk kind n0 neg A c2 mag text Ai ci items Ar cr rest)).toArray (0, 0) _ rfl B4.h Tryz.underlying35 rfl (by kernel_rfl)) rfl ?_
        exact ⟨_, rfl, hu, Haf2.out, .mk kind n0 neg A c2 mag text Ai ci items Ar cr rest, rfl, hgy, fun b hb => (hf1 b hb).1, Hey.out⟩
   · rw [hcl] at hrr
     simp only at hrr
     have hcv : c = 41 := by
      have := f41
      rw [pre1_iff hc] at this
      exact of_decide_eq_true this
     have e40 : ((c.toNat : Int) == 40) = false := by rw [hcv]; rfl
     have e41 : ((c.toNat : Int) == 41) = true := by rw [hcv]; rfl
     have e34 : ((c.toNat : Int) == 34) = false := by rw [hcv]; rfl
     have e39 : ((c.toNat : Int) == 39) = false := by rw [hcv]; rfl
     have e96 : ((c.toNat : Int) == 96) = false := by rw [hcv]; rfl
     have e44 : ((c.toNat : Int) == 44) = false := by rw [hcv]; rfl
     have e35 : ((c.toNat : Int) == 35) = false := by rw [hcv]; rfl
     have Hr : As (r = .error (e, 11)) := ⟨hrr⟩
     clear hrr hcl h12 h13 hc hD0 hcv
     as_aux_lemma =>
      go_enter Tryz.func17, Tryz.ntmps17
      go_wp2_with (first
       | ((with_reducible refine g_dst 4 ?_); go_must (refine ev_alloc 4 rfl infoD (cs := [.int .i64 0, .int .i64 0, .bool false, .slice none 0 0, .string ⟨#[]⟩, .slice none 0 0, .slice none 0 0]) rfl ?_); intro g4 wn hb B4 hg4; have hs4 := Nat.le_trans hu.size hg4; have hne4 : g4 ≠ g := (fun h => by have := R.lt; omega); clear hg4; replace R := R.below hb; clear C; have C := R.out.cells; replace hu := hu.trans (Upg.of_below hb); clear hb)
       | (go_at_call 15; (with_reducible refine (PCr.blanksc HB.out hi hd R Hq.out).mono ?_); rintro e9 wn ⟨rfl, hq, haf⟩; replace hu := hu.trans hq; replace B4 := blk_upg B4 hq hne4; clear C hq R; obtain ⟨R, _⟩ : RR wn g T e 0 0 ∧ e ≤ T.size := haf; have C := R.out.cells)
       | (go_at_call 16; (with_reducible refine (rend_b R false d1).mono ?_); rintro e wn ⟨vn, rfl, rfl, hb⟩; replace R := R.below hb; clear C; have C := R.out.cells; replace hu := hu.trans (Upg.of_below hb); replace B4 := B4.below hb; clear hb)
       | (go_at_call 29; (with_reducible refine (rtwo_b R hel2 hT 35 40 false f3540).mono ?_); rintro e wn ⟨vn, rfl, rfl, hb⟩; replace R := R.below hb; clear C; have C := R.out.cells; replace hu := hu.trans (Upg.of_below hb); replace B4 := B4.below hb; clear hb)
       | (go_at_call 31; (with_reducible refine (rfail_ok R 11 (e : Int)).mono ?_); rintro e wn ⟨rfl, ho, R2⟩; have hq := Upg.of_only ho; clear C R; have R := R2; clear R2; have C := R.out.cells; replace hu := hu.trans hq; replace B4 := blk_upg B4 hq hne4; clear hq)
       | ((with_reducible refine g_store 4 ?_); go_must (refine ev_store rfl rfl B4 (news := [.int .i64 0, .int .i64 0, .bool false, .slice none 0 0, .string ⟨#[]⟩, .slice none 0 0, .slice none 0 0]) (by first | rfl | (go_simp; try rfl)) infoD (by simp) (by simp [Value.oneCell']) ?_); intro wn ho Bn; simp only [encD, zA, zB, zC, zD, zE, zF, zG, zH] at Bn; replace hu := hu.only_new ho hs4; have R2 : RR wn g T _ _ _ := ⟨R.out.only ho (Ne.symm hne4)⟩; clear C R; have R := R2; clear R2; have C := R.out.cells; replace B4 := Bn; clear Bn ho))
      refine bodyPost_ret (results_cell_row rfl _ _ g4 35 ([.int .i64 0, .int .i64 0, .bool false, .slice none 0 0, .string ⟨#[]⟩, .slice none 0 0, .slice none 0 0] : List Value).toArray (0, 0) _ rfl B4.h Tryz.underlying35 rfl (by kernel_rfl)) rfl ?_
      exact ⟨_, rfl, hu, by rw [Hr.out]; exact ⟨_, R, by decide⟩, ldZ, rfl, good_z _ _ _ (by decide) (by decide) _, fun b hb => (by rw [ldZ, foot_z] at hb; cases hb), fun x e h => by rw [Hr.out] at h; cases h⟩
   · rw [hcl] at hrr
     simp only at hrr
     have hcv : c = 39 := by
      have := f39
      rw [pre1_iff hc] at this
      exact of_decide_eq_true this
     have e40 : ((c.toNat : Int) == 40) = false := by rw [hcv]; rfl
     have e41 : ((c.toNat : Int) == 41) = false := by rw [hcv]; rfl
     have e34 : ((c.toNat : Int) == 34) = false := by rw [hcv]; rfl
     have e39 : ((c.toNat : Int) == 39) = true := by rw [hcv]; rfl
     have e96 : ((c.toNat : Int) == 96) = false := by rw [hcv]; rfl
     have e44 : ((c.toNat : Int) == 44) = false := by rw [hcv]; rfl
     have e35 : ((c.toNat : Int) == 35) = false := by rw [hcv]; rfl
     have hin : e + 1 ≤ T.size := by omega
     by_cases hd9 : d < 100
     · rw [if_pos hd9] at hrr
       obtain ⟨q, hq, hrr⟩ := hrr
       have Hq2 : As (Run T.data.toList (.next D (e + 1)) q) := ⟨by rw [hD0]; exact hq⟩
       have Hr : As (r = shortR [113, 117, 111, 116, 101] q) := ⟨by cases q <;> exact hrr⟩
       have hDD : D ≤ 100 := by omega
       have HN := As.mk (JHn.out (e + 1) (by omega))
       clear hrr hcl h12 h13 hc hD0 hcv hq
       as_aux_lemma =>
        go_enter Tryz.func17, Tryz.ntmps17
        go_wp2_with (first
         | ((with_reducible refine g_dst 4 ?_); go_must (refine ev_alloc 4 rfl infoD (cs := [.int .i64 0, .int .i64 0, .bool false, .slice none 0 0, .string ⟨#[]⟩, .slice none 0 0, .slice none 0 0]) rfl ?_); intro g4 wn hb B4 hg4; have hs4 := Nat.le_trans hu.size hg4; have hne4 : g4 ≠ g := (fun h => by have := R.lt; omega); clear hg4; replace R := R.below hb; clear C; have C := R.out.cells; replace hu := hu.trans (Upg.of_below hb); clear hb)
         | (go_at_call 15; (with_reducible refine (PCr.blanksc HB.out hi hd R Hq.out).mono ?_); rintro e9 wn ⟨rfl, hq, haf⟩; replace hu := hu.trans hq; replace B4 := blk_upg B4 hq hne4; clear C hq R; obtain ⟨R, _⟩ : RR wn g T e 0 0 ∧ e ≤ T.size := haf; have C := R.out.cells)
         | (go_at_call 16; (with_reducible refine (rend_b R false d1).mono ?_); rintro e wn ⟨vn, rfl, rfl, hb⟩; replace R := R.below hb; clear C; have C := R.out.cells; replace hu := hu.trans (Upg.of_below hb); replace B4 := B4.below hb; clear hb)
         | (go_at_call 29; (with_reducible refine (rtwo_b R hel2 hT 35 40 false f3540).mono ?_); rintro e wn ⟨vn, rfl, rfl, hb⟩; replace R := R.below hb; clear C; have C := R.out.cells; replace hu := hu.trans (Upg.of_below hb); replace B4 := B4.below hb; clear hb)
         | (go_at_call 34; have hsz := B4.lt; have hsu := hu.size; (refine (rshort_any (n := 1) R hT hin hDD [113, 117, 111, 116, 101] HN.out q r Hq2.out Hr.out).mono ?_); rintro e9 wn ⟨vn, rfl, hq, haf, ⟨y, rfl, hgy, hfy, hey⟩⟩; replace hu := hu.trans hq; replace B4 := blk_upg B4 hq hne4; have hf1 : ∀ b ∈ footD y, w.heap.size ≤ b ∧ b ≠ g4 := (fun b hb => by have := hfy b hb; omega); have Hey := As.mk hey; have Haf := As.mk haf; clear C hq R hfy hey hsz hsu haf; obtain ⟨kind, n0, neg, A, c2, mag, text, Ai, ci, items, Ar, cr, rest⟩ := y)
         | ((with_reducible refine g_store 4 ?_); go_must (refine ev_store rfl rfl B4 (news := encD (.mk kind n0 neg A c2 mag text Ai ci items Ar cr rest)) (by rfl) infoD (by simp [encD]) (by simp [encD, Value.oneCell']) ?_); intro wn ho Bn; simp only [encD, zA, zB, zC, zD, zE, zF, zG, zH] at Bn; replace hu := hu.only_new ho hs4; replace hgy := good_only hgy ho (fun b hb => (hf1 b hb).2); have Haf2 := As.mk (Haf.out.only ho (Ne.symm hne4)); replace B4 := Bn; clear Bn ho))
        refine bodyPost_ret (results_cell_row rfl _ _ g4 35 (encD (.mk kind n0 neg A c2 mag text Ai ci items Ar cr rest)).toArray (0, 0) _ rfl B4.h Tryz.underlying35 rfl (by kernel_rfl)) rfl ?_
        exact ⟨_, rfl, hu, Haf2.out, .mk kind n0 neg A c2 mag text Ai ci items Ar cr rest, rfl, hgy, fun b hb => (hf1 b hb).1, Hey.out⟩
     · rw [if_neg hd9] at hrr
       have Hr := As.mk hrr
       have hDD : 100 < D := by omega
       clear hrr hcl h12 h13 hc hD0 hcv
       as_aux_lemma =>
        go_enter Tryz.func17, Tryz.ntmps17
        go_wp2_with (first
         | ((with_reducible refine g_dst 4 ?_); go_must (refine ev_alloc 4 rfl infoD (cs := [.int .i64 0, .int .i64 0, .bool false, .slice none 0 0, .string ⟨#[]⟩, .slice none 0 0, .slice none 0 0]) rfl ?_); intro g4 wn hb B4 hg4; have hs4 := Nat.le_trans hu.size hg4; have hne4 : g4 ≠ g := (fun h => by have := R.lt; omega); clear hg4; replace R := R.below hb; clear C; have C := R.out.cells; replace hu := hu.trans (Upg.of_below hb); clear hb)
         | (go_at_call 15; (with_reducible refine (PCr.blanksc HB.out hi hd R Hq.out).mono ?_); rintro e9 wn ⟨rfl, hq, haf⟩; replace hu := hu.trans hq; replace B4 := blk_upg B4 hq hne4; clear C hq R; obtain ⟨R, _⟩ : RR wn g T e 0 0 ∧ e ≤ T.size := haf; have C := R.out.cells)
         | (go_at_call 16; (with_reducible refine (rend_b R false d1).mono ?_); rintro e wn ⟨vn, rfl, rfl, hb⟩; replace R := R.below hb; clear C; have C := R.out.cells; replace hu := hu.trans (Upg.of_below hb); replace B4 := B4.below hb; clear hb)
         | (go_at_call 29; (with_reducible refine (rtwo_b R hel2 hT 35 40 false f3540).mono ?_); rintro e wn ⟨vn, rfl, rfl, hb⟩; replace R := R.below hb; clear C; have C := R.out.cells; replace hu := hu.trans (Upg.of_below hb); replace B4 := B4.below hb; clear hb)
         | (go_at_call 34; have hsz := B4.lt; have hsu := hu.size; (refine (rshort_deep R D hDD 1 [113, 117, 111, 116, 101] r Hr.out).mono ?_); rintro e9 wn ⟨vn, rfl, hq, haf, ⟨y, rfl, hgy, hfy, hey⟩⟩; replace hu := hu.trans hq; replace B4 := blk_upg B4 hq hne4; have hf1 : ∀ b ∈ footD y, w.heap.size ≤ b ∧ b ≠ g4 := (fun b hb => by have := hfy b hb; omega); have Hey := As.mk hey; have Haf := As.mk haf; clear C hq R hfy hey hsz hsu haf; obtain ⟨kind, n0, neg, A, c2, mag, text, Ai, ci, items, Ar, cr, rest⟩ := y)
         | ((with_reducible refine g_store 4 ?_); go_must (refine ev_store rfl rfl B4 (news := encD (.mk kind n0 neg A c2 mag text Ai ci items Ar cr rest)) (by rfl) infoD (by simp [encD]) (by simp [encD, Value.oneCell']) ?_); intro wn ho Bn; simp only [encD, zA, zB, zC, zD, zE, zF, zG, zH] at Bn; replace hu := hu.only_new ho hs4; replace hgy := good_only hgy ho (fun b hb => (hf1 b hb).2); have Haf2 := As.mk (Haf.out.only ho (Ne.symm hne4)); replace B4 := Bn; clear Bn ho))
        refine bodyPost_ret (results_cell_row rfl _ _ g4 35 (encD (.mk kind n0 neg A c2 mag text Ai ci items Ar cr rest)).toArray (0, 0) _ rfl B4.h Tryz.underlying35 rfl (by kernel_rfl)) rfl ?_
        exact ⟨_, rfl, hu, Haf2.out, .mk kind n0 neg A c2 mag text Ai ci items Ar cr rest, rfl, hgy, fun b hb => (hf1 b hb).1, Hey.out⟩
   · rw [hcl] at hrr
     simp only at hrr
     have hcv : c = 96 := by
      have := f96
      rw [pre1_iff hc] at this
      exact of_decide_eq_true this
     have e40 : ((c.toNat : Int) == 40) = false := by rw [hcv]; rfl
     have e41 : ((c.toNat : Int) == 41) = false := by rw [hcv]; rfl
     have e34 : ((c.toNat : Int) == 34) = false := by rw [hcv]; rfl
     have e39 : ((c.toNat : Int) == 39) = false := by rw [hcv]; rfl
     have e96 : ((c.toNat : Int) == 96) = true := by rw [hcv]; rfl
     have e44 : ((c.toNat : Int) == 44) = false := by rw [hcv]; rfl
     have e35 : ((c.toNat : Int) == 35) = false := by rw [hcv]; rfl
     have hin : e + 1 ≤ T.size := by omega
     by_cases hd9 : d < 100
     · rw [if_pos hd9] at hrr
       obtain ⟨q, hq, hrr⟩ := hrr
       have Hq2 : As (Run T.data.toList (.next D (e + 1)) q) := ⟨by rw [hD0]; exact hq⟩
       have Hr : As (r = shortR [113, 117, 97, 115, 105, 113, 117, 111, 116, 101] q) := ⟨by cases q <;> exact hrr⟩
       have hDD : D ≤ 100 := by omega
       have HN := As.mk (JHn.out (e + 1) (by omega))
       clear hrr hcl h12 h13 hc hD0 hcv hq
       as_aux_lemma =>
        go_enter Tryz.func17, Tryz.ntmps17
        go_wp2_with (first
         | ((with_reducible refine g_dst 4 ?_); go_must (refine ev_alloc 4 rfl infoD (cs := [.int .i64 0, .int .i64 0, .bool false, .slice none 0 0, .string ⟨#[]⟩, .slice none 0 0, .slice none 0 0]) rfl ?_); intro g4 wn hb B4 hg4; have hs4 := Nat.le_trans hu.size hg4; have hne4 : g4 ≠ g := (fun h => by have := R.lt; omega); clear hg4; replace R := R.below hb; clear C; have C := R.out.cells; replace hu := hu.trans (Upg.of_below hb); clear hb)
         | (go_at_call 15; (with_reducible refine (PCr.blanksc HB.out hi hd R Hq.out).mono ?_); rintro e9 wn ⟨rfl, hq, haf⟩; replace hu := hu.trans hq; replace B4 := blk_upg B4 hq hne4; clear C hq R; obtain ⟨R, _⟩ : RR wn g T e 0 0 ∧ e ≤ T.size := haf; have C := R.out.cells)
         | (go_at_call 16; (with_reducible refine (rend_b R false d1).mono ?_); rintro e wn ⟨vn, rfl, rfl, hb⟩; replace R := R.below hb; clear C; have C := R.out.cells; replace hu := hu.trans (Upg.of_below hb); replace B4 := B4.below hb; clear hb)
         | (go_at_call 29; (with_reducible refine (rtwo_b R hel2 hT 35 40 false f3540).mono ?_); rintro e wn ⟨vn, rfl, rfl, hb⟩; replace R := R.below hb; clear C; have C := R.out.cells; replace hu := hu.trans (Upg.of_below hb); replace B4 := B4.below hb; clear hb)
         | (go_at_call 34; have hsz := B4.lt; have hsu := hu.size; (refine (rshort_any (n := 1) R hT hin hDD [113, 117, 97, 115, 105, 113, 117, 111, 116, 101] HN.out q r Hq2.out Hr.out).mono ?_); rintro e9 wn ⟨vn, rfl, hq, haf, ⟨y, rfl, hgy, hfy, hey⟩⟩; replace hu := hu.trans hq; replace B4 := blk_upg B4 hq hne4; have hf1 : ∀ b ∈ footD y, w.heap.size ≤ b ∧ b ≠ g4 := (fun b hb => by have := hfy b hb; omega); have Hey := As.mk hey; have Haf := As.mk haf; clear C hq R hfy hey hsz hsu haf; obtain ⟨kind, n0, neg, A, c2, mag, text, Ai, ci, items, Ar, cr, rest⟩ := y)
         | ((with_reducible refine g_store 4 ?_); go_must (refine ev_store rfl rfl B4 (news := encD (.mk kind n0 neg A c2 mag text Ai ci items Ar cr rest)) (by rfl) infoD (by simp [encD]) (by simp [encD, Value.oneCell']) ?_); intro wn ho Bn; simp only [encD, zA, zB, zC, zD, zE, zF, zG, zH] at Bn; replace hu := hu.only_new ho hs4; replace hgy := good_only hgy ho (fun b hb => (hf1 b hb).2); have Haf2 := As.mk (Haf.out.only ho (Ne.symm hne4)); replace B4 := Bn; clear Bn ho))
        refine bodyPost_ret (results_cell_row rfl _ _ g4 35 (encD (.mk kind n0 neg A c2 mag text Ai ci items Ar cr rest)).toArray (0, 0) _ rfl B4.h Tryz.underlying35 rfl (by kernel_rfl)) rfl ?_
        exact ⟨_, rfl, hu, Haf2.out, .mk kind n0 neg A c2 mag text Ai ci items Ar cr rest, rfl, hgy, fun b hb => (hf1 b hb).1, Hey.out⟩
     · rw [if_neg hd9] at hrr
       have Hr := As.mk hrr
       have hDD : 100 < D := by omega
       clear hrr hcl h12 h13 hc hD0 hcv
       as_aux_lemma =>
        go_enter Tryz.func17, Tryz.ntmps17
        go_wp2_with (first
         | ((with_reducible refine g_dst 4 ?_); go_must (refine ev_alloc 4 rfl infoD (cs := [.int .i64 0, .int .i64 0, .bool false, .slice none 0 0, .string ⟨#[]⟩, .slice none 0 0, .slice none 0 0]) rfl ?_); intro g4 wn hb B4 hg4; have hs4 := Nat.le_trans hu.size hg4; have hne4 : g4 ≠ g := (fun h => by have := R.lt; omega); clear hg4; replace R := R.below hb; clear C; have C := R.out.cells; replace hu := hu.trans (Upg.of_below hb); clear hb)
         | (go_at_call 15; (with_reducible refine (PCr.blanksc HB.out hi hd R Hq.out).mono ?_); rintro e9 wn ⟨rfl, hq, haf⟩; replace hu := hu.trans hq; replace B4 := blk_upg B4 hq hne4; clear C hq R; obtain ⟨R, _⟩ : RR wn g T e 0 0 ∧ e ≤ T.size := haf; have C := R.out.cells)
         | (go_at_call 16; (with_reducible refine (rend_b R false d1).mono ?_); rintro e wn ⟨vn, rfl, rfl, hb⟩; replace R := R.below hb; clear C; have C := R.out.cells; replace hu := hu.trans (Upg.of_below hb); replace B4 := B4.below hb; clear hb)
         | (go_at_call 29; (with_reducible refine (rtwo_b R hel2 hT 35 40 false f3540).mono ?_); rintro e wn ⟨vn, rfl, rfl, hb⟩; replace R := R.below hb; clear C; have C := R.out.cells; replace hu := hu.trans (Upg.of_below hb); replace B4 := B4.below hb; clear hb)
         | (go_at_call 34; have hsz := B4.lt; have hsu := hu.size; (refine (rshort_deep R D hDD 1 [113, 117, 97, 115, 105, 113, 117, 111, 116, 101] r Hr.out).mono ?_); rintro e9 wn ⟨vn, rfl, hq, haf, ⟨y, rfl, hgy, hfy, hey⟩⟩; replace hu := hu.trans hq; replace B4 := blk_upg B4 hq hne4; have hf1 : ∀ b ∈ footD y, w.heap.size ≤ b ∧ b ≠ g4 := (fun b hb => by have := hfy b hb; omega); have Hey := As.mk hey; have Haf := As.mk haf; clear C hq R hfy hey hsz hsu haf; obtain ⟨kind, n0, neg, A, c2, mag, text, Ai, ci, items, Ar, cr, rest⟩ := y)
         | ((with_reducible refine g_store 4 ?_); go_must (refine ev_store rfl rfl B4 (news := encD (.mk kind n0 neg A c2 mag text Ai ci items Ar cr rest)) (by rfl) infoD (by simp [encD]) (by simp [encD, Value.oneCell']) ?_); intro wn ho Bn; simp only [encD, zA, zB, zC, zD, zE, zF, zG, zH] at Bn; replace hu := hu.only_new ho hs4; replace hgy := good_only hgy ho (fun b hb => (hf1 b hb).2); have Haf2 := As.mk (Haf.out.only ho (Ne.symm hne4)); replace B4 := Bn; clear Bn ho))
        refine bodyPost_ret (results_cell_row rfl _ _ g4 35 (encD (.mk kind n0 neg A c2 mag text Ai ci items Ar cr rest)).toArray (0, 0) _ rfl B4.h Tryz.underlying35 rfl (by kernel_rfl)) rfl ?_
        exact ⟨_, rfl, hu, Haf2.out, .mk kind n0 neg A c2 mag text Ai ci items Ar cr rest, rfl, hgy, fun b hb => (hf1 b hb).1, Hey.out⟩
   · rw [hcl] at hrr
     simp only at hrr
     have hcv : c = 44 := by
      have := f4464
      rw [pre2_iff2 hc] at this
      exact (of_decide_eq_true this).1
     have e40 : ((c.toNat : Int) == 40) = false := by rw [hcv]; rfl
     have e41 : ((c.toNat : Int) == 41) = false := by rw [hcv]; rfl
     have e34 : ((c.toNat : Int) == 34) = false := by rw [hcv]; rfl
     have e39 : ((c.toNat : Int) == 39) = false := by rw [hcv]; rfl
     have e96 : ((c.toNat : Int) == 96) = false := by rw [hcv]; rfl
     have e44 : ((c.toNat : Int) == 44) = true := by rw [hcv]; rfl
     have e35 : ((c.toNat : Int) == 35) = false := by rw [hcv]; rfl
     have hin : e + 2 ≤ T.size := by
      have := f4464
      rw [pre2_iff2 hc] at this
      exact h13 (of_decide_eq_true this).2
     by_cases hd9 : d < 100
     · rw [if_pos hd9] at hrr
       obtain ⟨q, hq, hrr⟩ := hrr
       have Hq2 : As (Run T.data.toList (.next D (e + 2)) q) := ⟨by rw [hD0]; exact hq⟩
       have Hr : As (r = shortR [117, 110, 113, 117, 111, 116, 101, 45, 115, 112, 108, 105, 99, 105, 110, 103] q) := ⟨by cases q <;> exact hrr⟩
       have hDD : D ≤ 100 := by omega
       have HN := As.mk (JHn.out (e + 2) (by omega))
       clear hrr hcl h12 h13 hc hD0 hcv hq
       as_aux_lemma =>
        go_enter Tryz.func17, Tryz.ntmps17
        go_wp2_with (first
         | ((with_reducible refine g_dst 4 ?_); go_must (refine ev_alloc 4 rfl infoD (cs := [.int .i64 0, .int .i64 0, .bool false, .slice none 0 0, .string ⟨#[]⟩, .slice none 0 0, .slice none 0 0]) rfl ?_); intro g4 wn hb B4 hg4; have hs4 := Nat.le_trans hu.size hg4; have hne4 : g4 ≠ g := (fun h => by have := R.lt; omega); clear hg4; replace R := R.below hb; clear C; have C := R.out.cells; replace hu := hu.trans (Upg.of_below hb); clear hb)
         | (go_at_call 15; (with_reducible refine (PCr.blanksc HB.out hi hd R Hq.out).mono ?_); rintro e9 wn ⟨rfl, hq, haf⟩; replace hu := hu.trans hq; replace B4 := blk_upg B4 hq hne4; clear C hq R; obtain ⟨R, _⟩ : RR wn g T e 0 0 ∧ e ≤ T.size := haf; have C := R.out.cells)
         | (go_at_call 16; (with_reducible refine (rend_b R false d1).mono ?_); rintro e wn ⟨vn, rfl, rfl, hb⟩; replace R := R.below hb; clear C; have C := R.out.cells; replace hu := hu.trans (Upg.of_below hb); replace B4 := B4.below hb; clear hb)
         | (go_at_call 29; (with_reducible refine (rtwo_b R hel2 hT 35 40 false f3540).mono ?_); rintro e wn ⟨vn, rfl, rfl, hb⟩; replace R := R.below hb; clear C; have C := R.out.cells; replace hu := hu.trans (Upg.of_below hb); replace B4 := B4.below hb; clear hb)
         | (go_at_call 29; (with_reducible refine (rtwo_b R hel2 hT 44 64 true f4464).mono ?_); rintro e wn ⟨vn, rfl, rfl, hb⟩; replace R := R.below hb; clear C; have C := R.out.cells; replace hu := hu.trans (Upg.of_below hb); replace B4 := B4.below hb; clear hb)
         | (go_at_call 34; have hsz := B4.lt; have hsu := hu.size; (refine (rshort_any (n := 2) R hT hin hDD [117, 110, 113, 117, 111, 116, 101, 45, 115, 112, 108, 105, 99, 105, 110, 103] HN.out q r Hq2.out Hr.out).mono ?_); rintro e9 wn ⟨vn, rfl, hq, haf, ⟨y, rfl, hgy, hfy, hey⟩⟩; replace hu := hu.trans hq; replace B4 := blk_upg B4 hq hne4; have hf1 : ∀ b ∈ footD y, w.heap.size ≤ b ∧ b ≠ g4 := (fun b hb => by have := hfy b hb; omega); have Hey := As.mk hey; have Haf := As.mk haf; clear C hq R hfy hey hsz hsu haf; obtain ⟨kind, n0, neg, A, c2, mag, text, Ai, ci, items, Ar, cr, rest⟩ := y)
         | ((with_reducible refine g_store 4 ?_); go_must (refine ev_store rfl rfl B4 (news := encD (.mk kind n0 neg A c2 mag text Ai ci items Ar cr rest)) (by rfl) infoD (by simp [encD]) (by simp [encD, Value.oneCell']) ?_); intro wn ho Bn; simp only [encD, zA, zB, zC, zD, zE, zF, zG, zH] at Bn; replace hu := hu.only_new ho hs4; replace hgy := good_only hgy ho (fun b hb => (hf1 b hb).2); have Haf2 := As.mk (Haf.out.only ho (Ne.symm hne4)); replace B4 := Bn; clear Bn ho))
        refine bodyPost_ret (results_cell_row rfl _ _ g4 35 (encD (.mk kind n0 neg A c2 mag text Ai ci items Ar cr rest)).toArray (0, 0) _ rfl B4.h Tryz.underlying35 rfl (by kernel_rfl)) rfl ?_
        exact ⟨_, rfl, hu, Haf2.out, .mk kind n0 neg A c2 mag text Ai ci items Ar cr rest, rfl, hgy, fun b hb => (hf1 b hb).1, Hey.out⟩
     · rw [if_neg hd9] at hrr
       have Hr := As.mk hrr
       have hDD : 100 < D := by omega
       clear hrr hcl h12 h13 hc hD0 hcv
       as_aux_lemma =>
        go_enter Tryz.func17, Tryz.ntmps17
        go_wp2_with (first
         | ((with_reducible refine g_dst 4 ?_); go_must (refine ev_alloc 4 rfl infoD (cs := [.int .i64 0, .int .i64 0, .bool false, .slice none 0 0, .string ⟨#[]⟩, .slice none 0 0, .slice none 0 0]) rfl ?_); intro g4 wn hb B4 hg4; have hs4 := Nat.le_trans hu.size hg4; have hne4 : g4 ≠ g := (fun h => by have := R.lt; omega); clear hg4; replace R := R.below hb; clear C; have C := R.out.cells; replace hu := hu.trans (Upg.of_below hb); clear hb)
         | (go_at_call 15; (with_reducible refine (PCr.blanksc HB.out hi hd R Hq.out).mono ?_); rintro e9 wn ⟨rfl, hq, haf⟩; replace hu := hu.trans hq; replace B4 := blk_upg B4 hq hne4; clear C hq R; obtain ⟨R, _⟩ : RR wn g T e 0 0 ∧ e ≤ T.size := haf; have C := R.out.cells)
         | (go_at_call 16; (with_reducible refine (rend_b R false d1).mono ?_); rintro e wn ⟨vn, rfl, rfl, hb⟩; replace R := R.below hb; clear C; have C := R.out.cells; replace hu := hu.trans (Upg.of_below hb); replace B4 := B4.below hb; clear hb)
         | (go_at_call 29; (with_reducible refine (rtwo_b R hel2 hT 35 40 false f3540).mono ?_); rintro e wn ⟨vn, rfl, rfl, hb⟩; replace R := R.below hb; clear C; have C := R.out.cells; replace hu := hu.trans (Upg.of_below hb); replace B4 := B4.below hb; clear hb)
         | (go_at_call 29; (with_reducible refine (rtwo_b R hel2 hT 44 64 true f4464).mono ?_); rintro e wn ⟨vn, rfl, rfl, hb⟩; replace R := R.below hb; clear C; have C := R.out.cells; replace hu := hu.trans (Upg.of_below hb); replace B4 := B4.below hb; clear hb)
         | (go_at_call 34; have hsz := B4.lt; have hsu := hu.size; (refine (rshort_deep R D hDD 2 [117, 110, 113, 117, 111, 116, 101, 45, 115, 112, 108, 105, 99, 105, 110, 103] r Hr.out).mono ?_); rintro e9 wn ⟨vn, rfl, hq, haf, ⟨y, rfl, hgy, hfy, hey⟩⟩; replace hu := hu.trans hq; replace B4 := blk_upg B4 hq hne4; have hf1 : ∀ b ∈ footD y, w.heap.size ≤ b ∧ b ≠ g4 := (fun b hb => by have := hfy b hb; omega); have Hey := As.mk hey; have Haf := As.mk haf; clear C hq R hfy hey hsz hsu haf; obtain ⟨kind, n0, neg, A, c2, mag, text, Ai, ci, items, Ar, cr, rest⟩ := y)
         | ((with_reducible refine g_store 4 ?_); go_must (refine ev_store rfl rfl B4 (news := encD (.mk kind n0 neg A c2 mag text Ai ci items Ar cr rest)) (by rfl) infoD (by simp [encD]) (by simp [encD, Value.oneCell']) ?_); intro wn ho Bn; simp only [encD, zA, zB, zC, zD, zE, zF, zG, zH] at Bn; replace hu := hu.only_new ho hs4; replace hgy := good_only hgy ho (fun b hb => (hf1 b hb).2); have Haf2 := As.mk (Haf.out.only ho (Ne.symm hne4)); replace B4 := Bn; clear Bn ho))
        refine bodyPost_ret (results_cell_row rfl _ _ g4 35 (encD (.mk kind n0 neg A c2 mag text Ai ci items Ar cr rest)).toArray (0, 0) _ rfl B4.h Tryz.underlying35 rfl (by kernel_rfl)) rfl ?_
        exact ⟨_, rfl, hu, Haf2.out, .mk kind n0 neg A c2 mag text Ai ci items Ar cr rest, rfl, hgy, fun b hb => (hf1 b hb).1, Hey.out⟩
   · rw [hcl] at hrr
     simp only at hrr
     have hcv : c = 44 := by
      have := f44
      rw [pre1_iff hc] at this
      exact of_decide_eq_true this
     have e40 : ((c.toNat : Int) == 40) = false := by rw [hcv]; rfl
     have e41 : ((c.toNat : Int) == 41) = false := by rw [hcv]; rfl
     have e34 : ((c.toNat : Int) == 34) = false := by rw [hcv]; rfl
     have e39 : ((c.toNat : Int) == 39) = false := by rw [hcv]; rfl
     have e96 : ((c.toNat : Int) == 96) = false := by rw [hcv]; rfl
     have e44 : ((c.toNat : Int) == 44) = true := by rw [hcv]; rfl
     have e35 : ((c.toNat : Int) == 35) = false := by rw [hcv]; rfl
     have hin : e + 1 ≤ T.size := by omega
     by_cases hd9 : d < 100
     · rw [if_pos hd9] at hrr
       obtain ⟨q, hq, hrr⟩ := hrr
       have Hq2 : As (Run T.data.toList (.next D (e + 1)) q) := ⟨by rw [hD0]; exact hq⟩
       have Hr : As (r = shortR [117, 110, 113, 117, 111, 116, 101] q) := ⟨by cases q <;> exact hrr⟩
       have hDD : D ≤ 100 := by omega
       have HN := As.mk (JHn.out (e + 1) (by omega))
       clear hrr hcl h12 h13 hc hD0 hcv hq
       as_aux_lemma =>
        go_enter Tryz.func17, Tryz.ntmps17
        go_wp2_with (first
         | ((with_reducible refine g_dst 4 ?_); go_must (refine ev_alloc 4 rfl infoD (cs := [.int .i64 0, .int .i64 0, .bool false, .slice none 0 0, .string ⟨#[]⟩, .slice none 0 0, .slice none 0 0]) rfl ?_); intro g4 wn hb B4 hg4; have hs4 := Nat.le_trans hu.size hg4; have hne4 : g4 ≠ g := (fun h => by have := R.lt; omega); clear hg4; replace R := R.below hb; clear C; have C := R.out.cells; replace hu := hu.trans (Upg.of_below hb); clear hb)
         | (go_at_call 15; (with_reducible refine (PCr.blanksc HB.out hi hd R Hq.out).mono ?_); rintro e9 wn ⟨rfl, hq, haf⟩; replace hu := hu.trans hq; replace B4 := blk_upg B4 hq hne4; clear C hq R; obtain ⟨R, _⟩ : RR wn g T e 0 0 ∧ e ≤ T.size := haf; have C := R.out.cells)
         | (go_at_call 16; (with_reducible refine (rend_b R false d1).mono ?_); rintro e wn ⟨vn, rfl, rfl, hb⟩; replace R := R.below hb; clear C; have C := R.out.cells; replace hu := hu.trans (Upg.of_below hb); replace B4 := B4.below hb; clear hb)
         | (go_at_call 29; (with_reducible refine (rtwo_b R hel2 hT 35 40 false f3540).mono ?_); rintro e wn ⟨vn, rfl, rfl, hb⟩; replace R := R.below hb; clear C; have C := R.out.cells; replace hu := hu.trans (Upg.of_below hb); replace B4 := B4.below hb; clear hb)
         | (go_at_call 29; (with_reducible refine (rtwo_b R hel2 hT 44 64 false f4464).mono ?_); rintro e wn ⟨vn, rfl, rfl, hb⟩; replace R := R.below hb; clear C; have C := R.out.cells; replace hu := hu.trans (Upg.of_below hb); replace B4 := B4.below hb; clear hb)
         | (go_at_call 34; have hsz := B4.lt; have hsu := hu.size; (refine (rshort_any (n := 1) R hT hin hDD [117, 110, 113, 117, 111, 116, 101] HN.out q r Hq2.out Hr.out).mono ?_); rintro e9 wn ⟨vn, rfl, hq, haf, ⟨y, rfl, hgy, hfy, hey⟩⟩; replace hu := hu.trans hq; replace B4 := blk_upg B4 hq hne4; have hf1 : ∀ b ∈ footD y, w.heap.size ≤ b ∧ b ≠ g4 := (fun b hb => by have := hfy b hb; omega); have Hey := As.mk hey; have Haf := As.mk haf; clear C hq R hfy hey hsz hsu haf; obtain ⟨kind, n0, neg, A, c2, mag, text, Ai, ci, items, Ar, cr, rest⟩ := y)
         | ((with_reducible refine g_store 4 ?_); go_must (refine ev_store rfl rfl B4 (news := encD (.mk kind n0 neg A c2 mag text Ai ci items Ar cr rest)) (by rfl) infoD (by simp [encD]) (by simp [encD, Value.oneCell']) ?_); intro wn ho Bn; simp only [encD, zA, zB, zC, zD, zE, zF, zG, zH] at Bn; replace hu := hu.only_new ho hs4; replace hgy := good_only hgy ho (fun b hb => (hf1 b hb).2); have Haf2 := As.mk (Haf.out.only ho (Ne.symm hne4)); replace B4 := Bn; clear Bn ho))
        refine bodyPost_ret (results_cell_row rfl _ _ g4 35 (encD (.mk kind n0 neg A c2 mag text Ai ci items Ar cr rest)).toArray (0, 0) _ rfl B4.h Tryz.underlying35 rfl (by kernel_rfl)) rfl ?_
        exact ⟨_, rfl, hu, Haf2.out, .mk kind n0 neg A c2 mag text Ai ci items Ar cr rest, rfl, hgy, fun b hb => (hf1 b hb).1, Hey.out⟩
     · rw [if_neg hd9] at hrr
       have Hr := As.mk hrr
       have hDD : 100 < D := by omega
       clear hrr hcl h12 h13 hc hD0 hcv
       as_aux_lemma =>
        go_enter Tryz.func17, Tryz.ntmps17
        go_wp2_with (first
         | ((with_reducible refine g_dst 4 ?_); go_must (refine ev_alloc 4 rfl infoD (cs := [.int .i64 0, .int .i64 0, .bool false, .slice none 0 0, .string ⟨#[]⟩, .slice none 0 0, .slice none 0 0]) rfl ?_); intro g4 wn hb B4 hg4; have hs4 := Nat.le_trans hu.size hg4; have hne4 : g4 ≠ g := (fun h => by have := R.lt; omega); clear hg4; replace R := R.below hb; clear C; have C := R.out.cells; replace hu := hu.trans (Upg.of_below hb); clear hb)
         | (go_at_call 15; (with_reducible refine (PCr.blanksc HB.out hi hd R Hq.out).mono ?_); rintro e9 wn ⟨rfl, hq, haf⟩; replace hu := hu.trans hq; replace B4 := blk_upg B4 hq hne4; clear C hq R; obtain ⟨R, _⟩ : RR wn g T e 0 0 ∧ e ≤ T.size := haf; have C := R.out.cells)
         | (go_at_call 16; (with_reducible refine (rend_b R false d1).mono ?_); rintro e wn ⟨vn, rfl, rfl, hb⟩; replace R := R.below hb; clear C; have C := R.out.cells; replace hu := hu.trans (Upg.of_below hb); replace B4 := B4.below hb; clear hb)
         | (go_at_call 29; (with_reducible refine (rtwo_b R hel2 hT 35 40 false f3540).mono ?_); rintro e wn ⟨vn, rfl, rfl, hb⟩; replace R := R.below hb; clear C; have C := R.out.cells; replace hu := hu.trans (Upg.of_below hb); replace B4 := B4.below hb; clear hb)
         | (go_at_call 29; (with_reducible refine (rtwo_b R hel2 hT 44 64 false f4464).mono ?_); rintro e wn ⟨vn, rfl, rfl, hb⟩; replace R := R.below hb; clear C; have C := R.out.cells; replace hu := hu.trans (Upg.of_below hb); replace B4 := B4.below hb; clear hb)
         | (go_at_call 34; have hsz := B4.lt; have hsu := hu.size; (refine (rshort_deep R D hDD 1 [117, 110, 113, 117, 111, 116, 101] r Hr.out).mono ?_); rintro e9 wn ⟨vn, rfl, hq, haf, ⟨y, rfl, hgy, hfy, hey⟩⟩; replace hu := hu.trans hq; replace B4 := blk_upg B4 hq hne4; have hf1 : ∀ b ∈ footD y, w.heap.size ≤ b ∧ b ≠ g4 := (fun b hb => by have := hfy b hb; omega); have Hey := As.mk hey; have Haf := As.mk haf; clear C hq R hfy hey hsz hsu haf; obtain ⟨kind, n0, neg, A, c2, mag, text, Ai, ci, items, Ar, cr, rest⟩ := y)
         | ((with_reducible refine g_store 4 ?_); go_must (refine ev_store rfl rfl B4 (news := encD (.mk kind n0 neg A c2 mag text Ai ci items Ar cr rest)) (by rfl) infoD (by simp [encD]) (by simp [encD, Value.oneCell']) ?_); intro wn ho Bn; simp only [encD, zA, zB, zC, zD, zE, zF, zG, zH] at Bn; replace hu := hu.only_new ho hs4; replace hgy := good_only hgy ho (fun b hb => (hf1 b hb).2); have Haf2 := As.mk (Haf.out.only ho (Ne.symm hne4)); replace B4 := Bn; clear Bn ho))
        refine bodyPost_ret (results_cell_row rfl _ _ g4 35 (encD (.mk kind n0 neg A c2 mag text Ai ci items Ar cr rest)).toArray (0, 0) _ rfl B4.h Tryz.underlying35 rfl (by kernel_rfl)) rfl ?_
        exact ⟨_, rfl, hu, Haf2.out, .mk kind n0 neg A c2 mag text Ai ci items Ar cr rest, rfl, hgy, fun b hb => (hf1 b hb).1, Hey.out⟩
   · rw [hcl] at hrr
     simp only at hrr
     have hcv : c = 34 := by
      have := f34
      rw [pre1_iff hc] at this
      exact of_decide_eq_true this
     have e40 : ((c.toNat : Int) == 40) = false := by rw [hcv]; rfl
     have e41 : ((c.toNat : Int) == 41) = false := by rw [hcv]; rfl
     have e34 : ((c.toNat : Int) == 34) = true := by rw [hcv]; rfl
     have e39 : ((c.toNat : Int) == 39) = false := by rw [hcv]; rfl
     have e96 : ((c.toNat : Int) == 96) = false := by rw [hcv]; rfl
     have e44 : ((c.toNat : Int) == 44) = false := by rw [hcv]; rfl
     have e35 : ((c.toNat : Int) == 35) = false := by rw [hcv]; rfl
     have Hr := As.mk hrr
     clear hrr hcl h12 h13 hc hD0 hcv
     as_aux_lemma =>
      go_enter Tryz.func17, Tryz.ntmps17
      go_wp2_with (first
       | ((with_reducible refine g_dst 4 ?_); go_must (refine ev_alloc 4 rfl infoD (cs := [.int .i64 0, .int .i64 0, .bool false, .slice none 0 0, .string ⟨#[]⟩, .slice none 0 0, .slice none 0 0]) rfl ?_); intro g4 wn hb B4 hg4; have hs4 := Nat.le_trans hu.size hg4; have hne4 : g4 ≠ g := (fun h => by have := R.lt; omega); clear hg4; replace R := R.below hb; clear C; have C := R.out.cells; replace hu := hu.trans (Upg.of_below hb); clear hb)
       | (go_at_call 15; (with_reducible refine (PCr.blanksc HB.out hi hd R Hq.out).mono ?_); rintro e9 wn ⟨rfl, hq, haf⟩; replace hu := hu.trans hq; replace B4 := blk_upg B4 hq hne4; clear C hq R; obtain ⟨R, _⟩ : RR wn g T e 0 0 ∧ e ≤ T.size := haf; have C := R.out.cells)
       | (go_at_call 16; (with_reducible refine (rend_b R false d1).mono ?_); rintro e wn ⟨vn, rfl, rfl, hb⟩; replace R := R.below hb; clear C; have C := R.out.cells; replace hu := hu.trans (Upg.of_below hb); replace B4 := B4.below hb; clear hb)
       | (go_at_call 29; (with_reducible refine (rtwo_b R hel2 hT 35 40 false f3540).mono ?_); rintro e wn ⟨vn, rfl, rfl, hb⟩; replace R := R.below hb; clear C; have C := R.out.cells; replace hu := hu.trans (Upg.of_below hb); replace B4 := B4.below hb; clear hb)
       | (go_at_call 29; (with_reducible refine (rtwo_b R hel2 hT 44 64 false f4464).mono ?_); rintro e wn ⟨vn, rfl, rfl, hb⟩; replace R := R.below hb; clear C; have C := R.out.cells; replace hu := hu.trans (Upg.of_below hb); replace B4 := B4.below hb; clear hb)
       | (go_at_call 33; have hsz := B4.lt; have hsu := hu.size; (with_reducible refine (rstring_any R hm hT r Hr.out).mono ?_); rintro e9 wn ⟨vn, rfl, hq, haf, ⟨y, rfl, hgy, hfy, hey⟩⟩; replace hu := hu.trans hq; replace B4 := blk_upg B4 hq hne4; have hf1 : ∀ b ∈ footD y, w.heap.size ≤ b ∧ b ≠ g4 := (fun b hb => by have := hfy b hb; omega); have Hey := As.mk hey; have Haf := As.mk haf; clear C hq R hfy hey hsz hsu haf; obtain ⟨kind, n0, neg, A, c2, mag, text, Ai, ci, items, Ar, cr, rest⟩ := y)
       | ((with_reducible refine g_store 4 ?_); go_must (refine ev_store rfl rfl B4 (news := encD (.mk kind n0 neg A c2 mag text Ai ci items Ar cr rest)) (by rfl) infoD (by simp [encD]) (by simp [encD, Value.oneCell']) ?_); intro wn ho Bn; simp only [encD, zA, zB, zC, zD, zE, zF, zG, zH] at Bn; replace hu := hu.only_new ho hs4; replace hgy := good_only hgy ho (fun b hb => (hf1 b hb).2); have Haf2 := As.mk (Haf.out.only ho (Ne.symm hne4)); replace B4 := Bn; clear Bn ho))
      refine bodyPost_ret (results_cell_row rfl _ _ g4 35 (encD (.mk kind n0 neg A c2 mag text Ai ci items Ar cr rest)).toArray (0, 0) _ rfl B4.h Tryz.underlying35 rfl (by kernel_rfl)) rfl ?_
      exact ⟨_, rfl, hu, Haf2.out, .mk kind n0 neg A c2 mag text Ai ci items Ar cr rest, rfl, hgy, fun b hb => (hf1 b hb).1, Hey.out⟩
   · rw [hcl] at hrr
     simp only at hrr
     have e40 : ((c.toNat : Int) == 40) = false := by rw [← f40]; exact c_pre hc 40 (by omega)
     have e41 : ((c.toNat : Int) == 41) = false := by rw [← f41]; exact c_pre hc 41 (by omega)
     have e34 : ((c.toNat : Int) == 34) = false := by rw [← f34]; exact c_pre hc 34 (by omega)
     have e39 : ((c.toNat : Int) == 39) = false := by rw [← f39]; exact c_pre hc 39 (by omega)
     have e96 : ((c.toNat : Int) == 96) = false := by rw [← f96]; exact c_pre hc 96 (by omega)
     have e44 : ((c.toNat : Int) == 44) = false := by rw [← f44]; exact c_pre hc 44 (by omega)
     have Hr := As.mk hrr
     clear hrr hcl h12 h13 hc hD0
     as_aux_lemma =>
      go_enter Tryz.func17, Tryz.ntmps17
      go_wp2_with (first
       | ((with_reducible refine g_dst 4 ?_); go_must (refine ev_alloc 4 rfl infoD (cs := [.int .i64 0, .int .i64 0, .bool false, .slice none 0 0, .string ⟨#[]⟩, .slice none 0 0, .slice none 0 0]) rfl ?_); intro g4 wn hb B4 hg4; have hs4 := Nat.le_trans hu.size hg4; have hne4 : g4 ≠ g := (fun h => by have := R.lt; omega); clear hg4; replace R := R.below hb; clear C; have C := R.out.cells; replace hu := hu.trans (Upg.of_below hb); clear hb)
       | (go_at_call 15; (with_reducible refine (PCr.blanksc HB.out hi hd R Hq.out).mono ?_); rintro e9 wn ⟨rfl, hq, haf⟩; replace hu := hu.trans hq; replace B4 := blk_upg B4 hq hne4; clear C hq R; obtain ⟨R, _⟩ : RR wn g T e 0 0 ∧ e ≤ T.size := haf; have C := R.out.cells)
       | (go_at_call 16; (with_reducible refine (rend_b R false d1).mono ?_); rintro e wn ⟨vn, rfl, rfl, hb⟩; replace R := R.below hb; clear C; have C := R.out.cells; replace hu := hu.trans (Upg.of_below hb); replace B4 := B4.below hb; clear hb)
       | (go_at_call 29; (with_reducible refine (rtwo_b R hel2 hT 35 40 false f3540).mono ?_); rintro e wn ⟨vn, rfl, rfl, hb⟩; replace R := R.below hb; clear C; have C := R.out.cells; replace hu := hu.trans (Upg.of_below hb); replace B4 := B4.below hb; clear hb)
       | (go_at_call 29; (with_reducible refine (rtwo_b R hel2 hT 44 64 false f4464).mono ?_); rintro e wn ⟨vn, rfl, rfl, hb⟩; replace R := R.below hb; clear C; have C := R.out.cells; replace hu := hu.trans (Upg.of_below hb); replace B4 := B4.below hb; clear hb)
       | (go_at_call 35; have hsz := B4.lt; have hsu := hu.size; (with_reducible refine (rtoken_any R hm hT r Hr.out).mono ?_); rintro e9 wn ⟨vn, rfl, hq, haf, ⟨y, rfl, hgy, hfy, hey⟩⟩; replace hu := hu.trans hq; replace B4 := blk_upg B4 hq hne4; have hf1 : ∀ b ∈ footD y, w.heap.size ≤ b ∧ b ≠ g4 := (fun b hb => by have := hfy b hb; omega); have Hey := As.mk hey; have Haf := As.mk haf; clear C hq R hfy hey hsz hsu haf; obtain ⟨kind, n0, neg, A, c2, mag, text, Ai, ci, items, Ar, cr, rest⟩ := y)
       | ((with_reducible refine g_store 4 ?_); go_must (refine ev_store rfl rfl B4 (news := encD (.mk kind n0 neg A c2 mag text Ai ci items Ar cr rest)) (by rfl) infoD (by simp [encD]) (by simp [encD, Value.oneCell']) ?_); intro wn ho Bn; simp only [encD, zA, zB, zC, zD, zE, zF, zG, zH] at Bn; replace hu := hu.only_new ho hs4; replace hgy := good_only hgy ho (fun b hb => (hf1 b hb).2); have Haf2 := As.mk (Haf.out.only ho (Ne.symm hne4)); replace B4 := Bn; clear Bn ho))
      refine bodyPost_ret (results_cell_row rfl _ _ g4 35 (encD (.mk kind n0 neg A c2 mag text Ai ci items Ar cr rest)).toArray (0, 0) _ rfl B4.h Tryz.underlying35 rfl (by kernel_rfl)) rfl ?_
      exact ⟨_, rfl, hu, Haf2.out, .mk kind n0 neg A c2 mag text Ai ci items Ar cr rest, rfl, hgy, fun b hb => (hf1 b hb).1, Hey.out⟩
theorem pcr_all (T : ByteArray) (hT : T.size ≤ 65536) : ∀ (n : Nat) (j : J), wtJ T.data.toList j < n → PCr T j
 | 0, j, h => absurd h (by omega)
 | n + 1, .blanks d i, h => skip_pc T hT d i (fun j hj => pcr_all T hT n j (by omega))
 | n + 1, .next d i, h => rnext_pc T hT d i (fun j hj => pcr_all T hT n j (by omega))
 | n + 1, .datum d i, h => trivial
 | n + 1, .items .., h => trivial
theorem pcr (T : ByteArray) (hT : T.size ≤ 65536) (j : J) : PCr T j := pcr_all T hT _ j (Nat.lt_succ_self _)
end Go.Proofs.YtdapbegadhcpcaaGreatDoor
