/- A part of the proof. -/
import Derived.Deep.DeepCutAuto
import Derived.Test.YtdapbegadhcpcaaGreatDoorRfK
import Derived.Test.YtdapbegadhcpcaaGreatDoorRfL
set_option linter.unusedVariables false
set_option linter.unusedSimpArgs false
namespace Go.Proofs.YtdapbegadhcpcaaGreatDoor
open Go.RowKit Go.Proofs.YtdapbegadhcpcaaGreatDoorL Go.Proofs.YtdapbegadhcpcaaGreatDoorM
set_option maxRecDepth 16000 in
set_option maxHeartbeats 16000000 in
theorem rtoken_any {w : World} {g i : Nat} {T : ByteArray} (R : RR w g T i 0 0) (hi : i < T.size) (hT : T.size ≤ 65536) (r : Rs) (hr : r = tokR T.data.toList i) :
 Calls Tryz.prog 35 #[.pointer (some ⟨g, 0, none⟩)] w fun x w' => ∃ v, x = .returned v ∧ Upg g w w' ∧ AftR w' g T r ∧ IsD w.heap.size w' r v := by
 have C := R.out.cells
 have hu := Upg.refl g w
 have hj : i ≤ T.size := by omega
 have Hsl := As.mk (size_list T)
 have Hrr := As.mk hr
 clear hr
 cases f92 : pre T.data.toList i [35, 92] with
 | true =>
   go_enter Tryz.func35, Tryz.ntmps35
   go_wp2_with (first
    | ((with_reducible refine g_dst 2 ?_); go_must (refine ev_alloc 2 rfl infoD (cs := [.int .i64 0, .int .i64 0, .bool false, .slice none 0 0, .string ⟨#[]⟩, .slice none 0 0, .slice none 0 0]) rfl ?_); intro g2 wn hb B2 hg2; have hs2 := Nat.le_trans hu.size hg2; have hne2 : g2 ≠ g := (fun h => by have := R.lt; omega); clear hg2; replace R := R.below hb; clear C; have C := R.out.cells; replace hu := hu.trans (Upg.of_below hb); clear hb)
    | (go_at_call 29; (with_reducible refine (rtwo_b R hj hT 35 92 true f92).mono ?_); rintro e wn ⟨vn, rfl, rfl, hb⟩; replace R := R.below hb; clear C; have C := R.out.cells; replace hu := hu.trans (Upg.of_below hb); replace B2 := B2.below hb; clear hb)
    | (go_at_call 51; have hsz := B2.lt; have hsu := hu.size; (with_reducible refine (rchar_any R hT f92 _ Hrr.out).mono ?_); rintro e wn ⟨vn, rfl, hq, haf, ⟨y, rfl, hgy, hfy, hey⟩⟩; replace hu := hu.trans hq; replace B2 := blk_upg B2 hq hne2; have hf1 : ∀ b ∈ footD y, w.heap.size ≤ b ∧ b ≠ g2 := (fun b hb => by have := hfy b hb; omega); have Hey := As.mk hey; have Haf := As.mk haf; clear C hq R hfy hey hsz hsu haf; obtain ⟨kind, n0, neg, A, c, mag, text, Ai, ci, items, Ar, cr, rest⟩ := y)
    | ((with_reducible refine g_store 2 ?_); go_must (refine ev_store rfl rfl B2 (news := encD (.mk kind n0 neg A c mag text Ai ci items Ar cr rest)) (by rfl) infoD (by simp [encD]) (by simp [encD, Value.oneCell']) ?_); intro wn ho Bn; simp only [encD, zA, zB, zC, zD, zE, zF, zG, zH] at Bn; replace hu := hu.only_new ho hs2; replace hgy := good_only hgy ho (fun b hb => (hf1 b hb).2); replace Haf := As.mk (Haf.out.only ho (Ne.symm hne2)); replace B2 := Bn; clear Bn ho))
   refine bodyPost_ret (results_cell_row rfl _ _ g2 35 (encD (.mk kind n0 neg A c mag text Ai ci items Ar cr rest)).toArray (0, 0) _ rfl B2.h Tryz.underlying35 rfl (by kernel_rfl)) rfl ?_
   exact ⟨_, rfl, hu, Haf.out, .mk kind n0 neg A c mag text Ai ci items Ar cr rest, rfl, hgy, fun b hb => (hf1 b hb).1, Hey.out⟩
 | false =>
   have hp : ¬ (T.data.toList[i]? = some 35 ∧ T.data.toList[i + 1]? = some 92) := fun h => by
    rw [pre2 h.1, h.2] at f92
    simp at f92
   obtain ⟨E, hE⟩ : ∃ E, E = tokEnd T.data.toList i := ⟨_, rfl⟩
   have hts : tokStop T.data.toList i = E := by rw [tokStop, if_neg hp, hE]
   have hEi : i ≤ E := by rw [hE]; exact tokEnd_ge _ i
   have hEl : E ≤ T.data.toList.length := by rw [hE]; exact tokEnd_le _ _ i (Nat.lt_succ_self _) (by have := Hsl.out; omega)
   have hEs : E ≤ T.size := by have := Hsl.out; omega
   have hEii : (i : Int) ≤ (E : Int) := by omega
   have hEsi : (E : Int) ≤ (T.size : Int) := by omega
   have HE := As.mk hE.symm
   have HF : As ((T.extract i E).data.toList = cut T.data.toList i E ∧ (T.extract i E).size ≤ 65536) := ⟨by rw [ext_list, cut, List.drop_take], by rw [ByteArray.size_extract]; omega⟩
   have HO0 := As.mk (fun d (h : plainF (cut T.data.toList i E) = .ok d) => (show r = .ok (d, E) by rw [Hrr.out, tokR, if_neg hp, hts, h]))
   have HR0 := As.mk (fun e (h : plainF (cut T.data.toList i E) = .error e) => (show r = .error (i, e) by rw [Hrr.out, tokR, if_neg hp, hts, h]))
   clear hE hts hp
   go_enter Tryz.func35, Tryz.ntmps35
   go_wp2_with (first
    | ((with_reducible refine g_dst 2 ?_); go_must (refine ev_alloc 2 rfl infoD (cs := [.int .i64 0, .int .i64 0, .bool false, .slice none 0 0, .string ⟨#[]⟩, .slice none 0 0, .slice none 0 0]) rfl ?_); intro g2 wn hb B2 hg2; have hs2 := Nat.le_trans hu.size hg2; have hne2 : g2 ≠ g := (fun h => by have := R.lt; omega); clear hg2; replace R := R.below hb; clear C; have C := R.out.cells; replace hu := hu.trans (Upg.of_below hb); clear hb)
    | (go_at_call 29; (with_reducible refine (rtwo_b R hj hT 35 92 false f92).mono ?_); rintro e wn ⟨vn, rfl, rfl, hb⟩; replace R := R.below hb; clear C; have C := R.out.cells; replace hu := hu.trans (Upg.of_below hb); replace B2 := B2.below hb; clear hb))
   go_loopw [] (fun wr => ∃ k : Nat, i ≤ k ∧ k ≤ T.size ∧ As (tokEnd T.data.toList k = E) ∧ RR wr g T k 0 0 ∧ Upg g w wr ∧ Blk wr g2 [.int .i64 0, .int .i64 0, .bool false, .slice none 0 0, .string ⟨#[]⟩, .slice none 0 0, .slice none 0 0] 35) (fun wr => T.size - atOf wr g)
   case atStart => exact ⟨i, Nat.le_refl _, hj, HE, R, hu, B2⟩
   case round =>
    clear R hu B2 C
    obtain ⟨k, hik, hk, hke, R, hu, B2⟩ := hrel
    have C := R.out.cells
    have hatk := As.mk R.at_
    by_cases hmk : k < T.size
    case' pos =>
     have d2 : decide (T.size ≤ k) = false := decide_eq_false (by omega)
     obtain ⟨ck, hck⟩ := get_size T hmk
     have hckx := get_c hmk hck
     have hmki : (k : Int) < (T.size : Int) := by omega
     have Hck := As.mk hck
     clear hck
     cases hdl : isDl ck
     case' true =>
      have HkE : As (k = E) := ⟨by rw [← hke.out, tokEnd_at Hck.out hdl]⟩
      (try go_wp2)
      have hd := (Below.refl (World.heap wr).size wr).drew
      replace R := R.below hd
      replace hu := hu.trans (Upg.of_below hd)
      replace B2 := B2.below hd
      clear C
      have C := R.out.cells
      have hS : ∀ W, RR W g T k 0 0 → W.cell? ⟨g, 0, none⟩ = some (.string T) ∧ W.cell? ⟨g, 1, none⟩ = some (.int .i64 (k : Int)) := fun W R => ⟨R.out.cells 0, R.out.cells 1⟩
      have hS0 := hS _ R
      go_region_held3 (fun W => W.cell? ⟨g, 0, none⟩ = some (.string T) ∧ W.cell? ⟨g, 1, none⟩ = some (.int .i64 (k : Int))) (first | assumption | exact hS _ R) (first
       | (go_at_call 16; (with_reducible refine (rend_b R false d2).mono ?_); rintro e wn ⟨vn, rfl, rfl, hb⟩; replace R := R.below hb; clear C; have C := R.out.cells; replace hu := hu.trans (Upg.of_below hb); replace B2 := B2.below hb; clear hb)
       | (go_at_call 52; (with_reducible refine (rdelim_b _ true hdl _).mono ?_); rintro e wn ⟨vn, rfl, rfl, hb⟩; replace R := R.below hb; clear C; have C := R.out.cells; replace hu := hu.trans (Upg.of_below hb); replace B2 := B2.below hb; clear hb))
      clear hS hS0 hd
      go_wp2
     case false =>
      have Hke : As (tokEnd T.data.toList (k + 1) = E) := ⟨by rw [← hke.out, tokEnd_on Hck.out hdl]⟩
      (try go_wp2)
      have hd := (Below.refl (World.heap wr).size wr).drew
      replace R := R.below hd
      replace hu := hu.trans (Upg.of_below hd)
      replace B2 := B2.below hd
      clear C
      have C := R.out.cells
      have hS : ∀ W, RR W g T k 0 0 → W.cell? ⟨g, 0, none⟩ = some (.string T) ∧ W.cell? ⟨g, 1, none⟩ = some (.int .i64 (k : Int)) := fun W R => ⟨R.out.cells 0, R.out.cells 1⟩
      have hS0 := hS _ R
      go_region_held3 (fun W => W.cell? ⟨g, 0, none⟩ = some (.string T) ∧ W.cell? ⟨g, 1, none⟩ = some (.int .i64 (k : Int))) (first | assumption | exact hS _ R) (first
       | (go_at_call 16; (with_reducible refine (rend_b R false d2).mono ?_); rintro e wn ⟨vn, rfl, rfl, hb⟩; replace R := R.below hb; clear C; have C := R.out.cells; replace hu := hu.trans (Upg.of_below hb); replace B2 := B2.below hb; clear hb)
       | (go_at_call 52; (with_reducible refine (rdelim_b _ false hdl _).mono ?_); rintro e wn ⟨vn, rfl, rfl, hb⟩; replace R := R.below hb; clear C; have C := R.out.cells; replace hu := hu.trans (Upg.of_below hb); replace B2 := B2.below hb; clear hb))
      clear hS hS0 hd
      go_wp2_with (first
       | ((with_reducible refine g_store 37 ?_); go_must (refine ev_store rfl rfl R.out (news := [.int .i64 ((k + 1 : Nat) : Int)]) (by first | rfl | (go_simp; first | rfl | go_num | (simp; omega))) infoI (by simp) (by simp [Value.oneCell']) ?_); intro wn ho Bn; simp only [zI, zA, zC, zD, zE, zF, zH, zB, zG, Nat.reduceAdd] at Bn; have R2 : RR wn g T (k + 1) 0 0 := ⟨Bn⟩; clear Bn; have hq := Upg.of_only ho; clear C R; have R := R2; clear R2; have C := R.out.cells; replace hu := hu.trans hq; replace B2 := blk_upg B2 hq hne2; clear hq; clear ho))
      go_roundw
      case rel => exact ⟨k + 1, by omega, by omega, Hke, R, hu, B2⟩
      case measure => rw [R.at_, hatk.out]; omega
    case' neg =>
     have d2 : decide (T.size ≤ k) = true := decide_eq_true (by omega)
     have HkE : As (k = E) := ⟨by rw [← hke.out, tokEnd_len (by have := Hsl.out; omega)]⟩
     (try go_wp2)
     have hd := (Below.refl (World.heap wr).size wr).drew
     replace R := R.below hd
     replace hu := hu.trans (Upg.of_below hd)
     replace B2 := B2.below hd
     clear C
     have C := R.out.cells
     have hS : ∀ W, RR W g T k 0 0 → W.cell? ⟨g, 0, none⟩ = some (.string T) ∧ W.cell? ⟨g, 1, none⟩ = some (.int .i64 (k : Int)) := fun W R => ⟨R.out.cells 0, R.out.cells 1⟩
     have hS0 := hS _ R
     refine wp_gen2 (fun Q7 hQ7 => ?_)
     refine wp_region_held_drew (S := fun W => W.cell? ⟨g, 0, none⟩ = some (.string T) ∧ W.cell? ⟨g, 1, none⟩ = some (.int .i64 (k : Int))) (by kernel_rfl) (hS0) (fun hHeld => ?_)
     refine ta 0 (.pointer (some ⟨g, 0, none⟩)) ?_
     refine wpAnyH_ready (rs := [1]) (by decide +kernel) (by simp) ?_
     refine AllReadyH.cons (o := _) (by simp only [List.getElem?_toArray, List.getElem?_cons_succ, List.getElem?_cons_zero]; rfl) (fun K hK => ?_) AllReadyH.nil
     refine gI ?_
     (with_reducible refine s_dst 16 ?_); go_simp; (with_reducible refine (rend_b R true d2).mono ?_); rintro e wn ⟨vn, rfl, rfl, hb⟩; replace R := R.below hb; clear C; have C := R.out.cells; replace hu := hu.trans (Upg.of_below hb); replace B2 := B2.below hb; clear hb
     refine hK.out _ _ (hS _ R) (fun hHeld => ?_); clear hK K; (try simp only [Act.put, pA, pB, pC, pD, pE, pF])
     refine ta 2 (.bool false) ?_
     refine ta 3 (.bool false) ?_
     refine tu 4 ?_
     refine tu 5 ?_
     refine tu 6 ?_
     refine tu 7 ?_
     refine tu 8 ?_
     refine tu 9 ?_
     refine tu 10 ?_
     refine tu 11 ?_
     refine tu 12 ?_
     refine tu 13 ?_
     refine tu 14 ?_
     refine ta 15 (.bool false) ?_
     refine wpAnyH_done (by kernel_rfl) ?_ _
     refine NoPanic.normal ?_
     obtain ⟨rfl⟩ := hQ7
     clear hS hS0 hd
     go_wp2
    all_goals as_aux_lemma =>
     have hkE := HkE.out.symm
     subst hkE
     clear C
     have C := R.out.cells
     go_quiet (fail)
     have hb := dr (Below.refl (World.heap wn).size wn) nq
     generalize T.extract i E = U at HF ⊢
     generalize World.drewN wn nq = w9 at hb ⊢
     replace R := R.below hb
     clear C
     have C := R.out.cells
     replace hu := hu.trans (Upg.of_below hb)
     replace B2 := B2.below hb
     clear hb
     have HO : As (∀ d, plainF U.data.toList = .ok d → r = .ok (d, E)) := ⟨fun d h => HO0.out d (by rw [← HF.out.1]; exact h)⟩
     have HR : As (∀ e, plainF U.data.toList = .error e → r = .error (i, e)) := ⟨fun e h => HR0.out e (by rw [← HF.out.1]; exact h)⟩
     have hus2 : U.size ≤ 65536 := HF.out.2
     have htl : ∀ l, (U.toList == l) = decide (U.data.toList = l) := fun l => by rw [Lib.toList_data, beqD]
     by_cases c_dot : U.data.toList = [46]
     · have e_dot := htl [46]
       rw [decide_eq_true c_dot] at e_dot
       have Hr := As.mk (HR.out _ (show plainF U.data.toList = .error 15 by rw [c_dot]; rfl))
       clear htl c_dot
       go_wp2_with (first
        | (go_at_call 31; (with_reducible refine (rfail_ok R 15 (i : Int)).mono ?_); rintro e wn ⟨rfl, ho, R2⟩; have hq := Upg.of_only ho; clear C R; have R := R2; clear R2; have C := R.out.cells; replace hu := hu.trans hq; replace B2 := blk_upg B2 hq hne2; clear hq)
        | ((with_reducible refine g_store 2 ?_); go_must (refine ev_store rfl rfl B2 (news := [.int .i64 0, .int .i64 0, .bool false, .slice none 0 0, .string ⟨#[]⟩, .slice none 0 0, .slice none 0 0]) (by first | rfl | (go_simp; try rfl)) infoD (by simp) (by simp [Value.oneCell']) ?_); intro wn ho Bn; simp only [encD, zA, zB, zC, zD, zE, zF, zG, zH] at Bn; replace hu := hu.only_new ho hs2; have R2 : RR wn g T _ _ _ := ⟨R.out.only ho (Ne.symm hne2)⟩; clear C R; have R := R2; clear R2; have C := R.out.cells; replace B2 := Bn; clear Bn ho))
       refine bodyPost_ret (results_cell_row rfl _ _ g2 35 ([.int .i64 0, .int .i64 0, .bool false, .slice none 0 0, .string ⟨#[]⟩, .slice none 0 0, .slice none 0 0] : List Value).toArray (0, 0) _ rfl B2.h Tryz.underlying35 rfl (by kernel_rfl)) rfl ?_
       exact ⟨_, rfl, hu, by rw [Hr.out]; exact ⟨_, R, by decide⟩, ldZ, rfl, good_z _ _ _ (by decide) (by decide) _, fun b hb => (by rw [ldZ, foot_z] at hb; cases hb), fun x e h => by rw [Hr.out] at h; cases h⟩
     have e_dot := htl [46]
     rw [decide_eq_false c_dot] at e_dot
     obtain ⟨u2, neg, hsh⟩ := shape_ex U
     have hnF := numF_shape hsh
     have hu2 : u2.size ≤ 65536 := Nat.le_trans hsh.le hus2
     have HNP := As.mk (fun W => rNumParse_any U u2 neg W (by omega) hsh)
     have HLen : As ((digB 4294967296 (pz u2 neg).natAbs).length ≤ 274877906944) := ⟨Nat.le_trans (Sm.len (pz_sm5 u2 neg)) (by omega)⟩
     clear hsh
     cases hok : okD u2 with
     | true =>
       rw [hok] at hnF HNP
       have hpl : plainF U.data.toList = .ok (dInt (pz u2 neg)) := by
        have hx : ∀ l : List UInt8, numF l = none → U.data.toList ≠ l := fun l hl h => by rw [h, hl] at hnF; cases hnF
        unfold plainF
        rw [if_neg (fun h => h.elim (hx _ (by decide)) (hx _ (by decide))), if_neg (fun h => h.elim (hx _ (by decide)) (hx _ (by decide))), if_neg c_dot, hnF]
        rfl
       have Hr := As.mk (HO.out _ hpl)
       obtain ⟨z, hz⟩ : ∃ z, z = pz u2 neg := ⟨_, rfl⟩
       rw [← hz] at Hr HNP HLen
       clear hnF hok hz hpl htl c_dot
       go_wp2_with (first
        | (go_at_call 53; have hsb := hu.size; have hs2b := B2.lt; (with_reducible refine (HNP.out _).mono ?_); rintro e wn ⟨vn, rfl, ⟨q, rfl, ht⟩, hb⟩; obtain ⟨A, c, L, rfl, ho, HL, hc1⟩ := told_sl ht; clear ht; have hgy : Good wn (.mk 1 0 (decide (z < 0)) A c L [] none 0 [] none 0 []) := good_num wn _ _ (by omega) (by omega) _ ⟨ho.rd lenU, (by rw [HL.out]; exact digB_lt _ (by omega) _), hc1, ho.none, (by rw [HL.out]; exact HLen.out)⟩ _; have hf1 : ∀ b ∈ footD (.mk 1 0 (decide (z < 0)) A c L [] none 0 [] none 0 []), w.heap.size ≤ b ∧ b ≠ g2 := (fun b hb => by have := own_block_ge ho b (foot_num hb); omega); clear ho hsb hs2b hc1; replace R := R.below hb; clear C; have C := R.out.cells; replace hu := hu.trans (Upg.of_below hb); replace B2 := B2.below hb; clear hb)
        | ((with_reducible refine g_dst 5 ?_); go_must (refine ev_alloc 5 rfl infoNum (cs := [.bool false, .slice none 0 0]) rfl ?_); intro g5 wn hb B5 hg5; have hs5 := Nat.le_trans hu.size hg5; have hne5 : g5 ≠ g := (fun h => by have := R.lt; omega); have hne52 : g5 ≠ g2 := (fun h => by have := B2.lt; omega); have hf5 : ∀ b ∈ footD (.mk 1 0 (decide (z < 0)) A c L [] none 0 [] none 0 []), b ≠ g5 := (fun b hb => by have := good_lt hgy b hb; omega); clear hg5; replace R := R.below hb; clear C; have C := R.out.cells; replace hu := hu.trans (Upg.of_below hb); replace B2 := B2.below hb; replace hgy := hgy.to hb; clear hb)
        | ((with_reducible refine g_store 5 ?_); go_must (refine ev_store rfl rfl B5 (news := [.bool (decide (z < 0)), .slice A L.length c]) (by rfl) infoNum (by simp) (by simp [Value.oneCell']) ?_); intro wn ho Bn; simp only [encD, zA, zB, zC, zD, zE, zF, zG, zH] at Bn; replace hu := hu.only_new ho hs5; have R2 : RR wn g T _ _ _ := ⟨R.out.only ho (Ne.symm hne5)⟩; replace B2 := B2.only ho (Ne.symm hne52); replace hgy := good_only hgy ho hf5; clear C R; have R := R2; clear R2; have C := R.out.cells; replace B5 := Bn; clear Bn ho; have C5 := B5.cells)
        | ((with_reducible refine g_store 2 ?_); go_must (refine ev_store rfl rfl B2 (news := [.int .i64 1, .int .i64 0, .bool (decide (z < 0)), .slice A L.length c, .string ⟨#[]⟩, .slice none 0 0, .slice none 0 0]) (by first | rfl | (go_simp; try rfl)) infoD (by simp) (by simp [Value.oneCell']) ?_); intro wn ho Bn; simp only [encD, zA, zB, zC, zD, zE, zF, zG, zH] at Bn; replace hu := hu.only_new ho hs2; replace hgy := good_only hgy ho (fun b hb => (hf1 b hb).2); clear C5; have R2 : RR wn g T _ _ _ := ⟨R.out.only ho (Ne.symm hne2)⟩; clear C R; have R := R2; clear R2; have C := R.out.cells; replace B2 := Bn; clear Bn ho))
       refine bodyPost_ret (results_cell_row rfl _ _ g2 35 ([.int .i64 1, .int .i64 0, .bool (decide (z < 0)), .slice A L.length c, .string ⟨#[]⟩, .slice none 0 0, .slice none 0 0] : List Value).toArray (0, 0) _ rfl B2.h Tryz.underlying35 rfl (by kernel_rfl)) rfl ?_
       exact ⟨_, rfl, hu, by rw [Hr.out]; exact ⟨R, by rw [← Hsl.out]; exact hEl⟩, .mk 1 0 (decide (z < 0)) A c L [] none 0 [] none 0 [], rfl, hgy, fun b hb => (hf1 b hb).1, fun x e h => by rw [Hr.out] at h; cases h; simp [erD, erAll, dInt, HL.out]⟩
     | false =>
       rw [hok] at hnF HNP
       have Hn : As (numF U.data.toList = none) := ⟨by rw [hnF]; rfl⟩
       obtain ⟨z, hz⟩ : ∃ z, z = pz u2 neg := ⟨_, rfl⟩
       rw [← hz] at HNP
       clear hnF hok hz
       by_cases c_t : U.data.toList = [35, 116]
       · have e_t := htl [35, 116]
         rw [decide_eq_true c_t] at e_t
         have Hr := As.mk (HO.out _ (show plainF U.data.toList = .ok (dBool true) by rw [c_t]; rfl))
         clear htl c_dot c_t 
         go_wp2_with (first
          | (go_at_call 53; (with_reducible refine (HNP.out _).mono ?_); rintro e wn ⟨vn, rfl, ⟨q, rfl, ht⟩, hb⟩; obtain ⟨A, c, L, rfl, ho, HL, hc1⟩ := told_sl ht; clear ht ho HL hc1; replace R := R.below hb; clear C; have C := R.out.cells; replace hu := hu.trans (Upg.of_below hb); replace B2 := B2.below hb; clear hb)
          | ((with_reducible refine g_dst 5 ?_); go_must (refine ev_alloc 5 rfl infoNum (cs := [.bool false, .slice none 0 0]) rfl ?_); intro g5 wn hb B5 hg5; have hs5 := Nat.le_trans hu.size hg5; have hne5 : g5 ≠ g := (fun h => by have := R.lt; omega); have hne52 : g5 ≠ g2 := (fun h => by have := B2.lt; omega); clear hg5; replace R := R.below hb; clear C; have C := R.out.cells; replace hu := hu.trans (Upg.of_below hb); replace B2 := B2.below hb; clear hb)
          | ((with_reducible refine g_store 5 ?_); go_must (refine ev_store rfl rfl B5 (news := [.bool (decide (z < 0)), .slice A L.length c]) (by rfl) infoNum (by simp) (by simp [Value.oneCell']) ?_); intro wn ho Bn; simp only [encD, zA, zB, zC, zD, zE, zF, zG, zH] at Bn; replace hu := hu.only_new ho hs5; have R2 : RR wn g T _ _ _ := ⟨R.out.only ho (Ne.symm hne5)⟩; replace B2 := B2.only ho (Ne.symm hne52); clear C R; have R := R2; clear R2; have C := R.out.cells; replace B5 := Bn; clear Bn ho)
          | ((with_reducible refine g_store 2 ?_); go_must (refine ev_store rfl rfl B2 (news := [.int .i64 2, .int .i64 1, .bool false, .slice none 0 0, .string ⟨#[]⟩, .slice none 0 0, .slice none 0 0]) (by first | rfl | (go_simp; try rfl)) infoD (by simp) (by simp [Value.oneCell']) ?_); intro wn ho Bn; simp only [encD, zA, zB, zC, zD, zE, zF, zG, zH] at Bn; replace hu := hu.only_new ho hs2; have R2 : RR wn g T _ _ _ := ⟨R.out.only ho (Ne.symm hne2)⟩; clear C R; have R := R2; clear R2; have C := R.out.cells; replace B2 := Bn; clear Bn ho))
         refine bodyPost_ret (results_cell_row rfl _ _ g2 35 ([.int .i64 2, .int .i64 1, .bool false, .slice none 0 0, .string ⟨#[]⟩, .slice none 0 0, .slice none 0 0] : List Value).toArray (0, 0) _ rfl B2.h Tryz.underlying35 rfl (by kernel_rfl)) rfl ?_
         exact ⟨_, rfl, hu, by rw [Hr.out]; exact ⟨R, by rw [← Hsl.out]; exact hEl⟩, .mk 2 1 false none 0 [] [] none 0 [] none 0 [], rfl, good_z _ _ _ (by omega) (by omega) _, fun b hb => (by rw [foot_z] at hb; cases hb), fun x e h => by rw [Hr.out] at h; cases h; rfl⟩
       have e_t := htl [35, 116]
       rw [decide_eq_false c_t] at e_t
       by_cases c_true : U.data.toList = [35, 116, 114, 117, 101]
       · have e_true := htl [35, 116, 114, 117, 101]
         rw [decide_eq_true c_true] at e_true
         have Hr := As.mk (HO.out _ (show plainF U.data.toList = .ok (dBool true) by rw [c_true]; rfl))
         clear htl c_dot c_true c_t
         go_wp2_with (first
          | (go_at_call 53; (with_reducible refine (HNP.out _).mono ?_); rintro e wn ⟨vn, rfl, ⟨q, rfl, ht⟩, hb⟩; obtain ⟨A, c, L, rfl, ho, HL, hc1⟩ := told_sl ht; clear ht ho HL hc1; replace R := R.below hb; clear C; have C := R.out.cells; replace hu := hu.trans (Upg.of_below hb); replace B2 := B2.below hb; clear hb)
          | ((with_reducible refine g_dst 5 ?_); go_must (refine ev_alloc 5 rfl infoNum (cs := [.bool false, .slice none 0 0]) rfl ?_); intro g5 wn hb B5 hg5; have hs5 := Nat.le_trans hu.size hg5; have hne5 : g5 ≠ g := (fun h => by have := R.lt; omega); have hne52 : g5 ≠ g2 := (fun h => by have := B2.lt; omega); clear hg5; replace R := R.below hb; clear C; have C := R.out.cells; replace hu := hu.trans (Upg.of_below hb); replace B2 := B2.below hb; clear hb)
          | ((with_reducible refine g_store 5 ?_); go_must (refine ev_store rfl rfl B5 (news := [.bool (decide (z < 0)), .slice A L.length c]) (by rfl) infoNum (by simp) (by simp [Value.oneCell']) ?_); intro wn ho Bn; simp only [encD, zA, zB, zC, zD, zE, zF, zG, zH] at Bn; replace hu := hu.only_new ho hs5; have R2 : RR wn g T _ _ _ := ⟨R.out.only ho (Ne.symm hne5)⟩; replace B2 := B2.only ho (Ne.symm hne52); clear C R; have R := R2; clear R2; have C := R.out.cells; replace B5 := Bn; clear Bn ho)
          | ((with_reducible refine g_store 2 ?_); go_must (refine ev_store rfl rfl B2 (news := [.int .i64 2, .int .i64 1, .bool false, .slice none 0 0, .string ⟨#[]⟩, .slice none 0 0, .slice none 0 0]) (by first | rfl | (go_simp; try rfl)) infoD (by simp) (by simp [Value.oneCell']) ?_); intro wn ho Bn; simp only [encD, zA, zB, zC, zD, zE, zF, zG, zH] at Bn; replace hu := hu.only_new ho hs2; have R2 : RR wn g T _ _ _ := ⟨R.out.only ho (Ne.symm hne2)⟩; clear C R; have R := R2; clear R2; have C := R.out.cells; replace B2 := Bn; clear Bn ho))
         refine bodyPost_ret (results_cell_row rfl _ _ g2 35 ([.int .i64 2, .int .i64 1, .bool false, .slice none 0 0, .string ⟨#[]⟩, .slice none 0 0, .slice none 0 0] : List Value).toArray (0, 0) _ rfl B2.h Tryz.underlying35 rfl (by kernel_rfl)) rfl ?_
         exact ⟨_, rfl, hu, by rw [Hr.out]; exact ⟨R, by rw [← Hsl.out]; exact hEl⟩, .mk 2 1 false none 0 [] [] none 0 [] none 0 [], rfl, good_z _ _ _ (by omega) (by omega) _, fun b hb => (by rw [foot_z] at hb; cases hb), fun x e h => by rw [Hr.out] at h; cases h; rfl⟩
       have e_true := htl [35, 116, 114, 117, 101]
       rw [decide_eq_false c_true] at e_true
       by_cases c_f : U.data.toList = [35, 102]
       · have e_f := htl [35, 102]
         rw [decide_eq_true c_f] at e_f
         have Hr := As.mk (HO.out _ (show plainF U.data.toList = .ok (dBool false) by rw [c_f]; rfl))
         clear htl c_dot c_f c_t c_true
         go_wp2_with (first
          | (go_at_call 53; (with_reducible refine (HNP.out _).mono ?_); rintro e wn ⟨vn, rfl, ⟨q, rfl, ht⟩, hb⟩; obtain ⟨A, c, L, rfl, ho, HL, hc1⟩ := told_sl ht; clear ht ho HL hc1; replace R := R.below hb; clear C; have C := R.out.cells; replace hu := hu.trans (Upg.of_below hb); replace B2 := B2.below hb; clear hb)
          | ((with_reducible refine g_dst 5 ?_); go_must (refine ev_alloc 5 rfl infoNum (cs := [.bool false, .slice none 0 0]) rfl ?_); intro g5 wn hb B5 hg5; have hs5 := Nat.le_trans hu.size hg5; have hne5 : g5 ≠ g := (fun h => by have := R.lt; omega); have hne52 : g5 ≠ g2 := (fun h => by have := B2.lt; omega); clear hg5; replace R := R.below hb; clear C; have C := R.out.cells; replace hu := hu.trans (Upg.of_below hb); replace B2 := B2.below hb; clear hb)
          | ((with_reducible refine g_store 5 ?_); go_must (refine ev_store rfl rfl B5 (news := [.bool (decide (z < 0)), .slice A L.length c]) (by rfl) infoNum (by simp) (by simp [Value.oneCell']) ?_); intro wn ho Bn; simp only [encD, zA, zB, zC, zD, zE, zF, zG, zH] at Bn; replace hu := hu.only_new ho hs5; have R2 : RR wn g T _ _ _ := ⟨R.out.only ho (Ne.symm hne5)⟩; replace B2 := B2.only ho (Ne.symm hne52); clear C R; have R := R2; clear R2; have C := R.out.cells; replace B5 := Bn; clear Bn ho)
          | ((with_reducible refine g_store 2 ?_); go_must (refine ev_store rfl rfl B2 (news := [.int .i64 2, .int .i64 0, .bool false, .slice none 0 0, .string ⟨#[]⟩, .slice none 0 0, .slice none 0 0]) (by first | rfl | (go_simp; try rfl)) infoD (by simp) (by simp [Value.oneCell']) ?_); intro wn ho Bn; simp only [encD, zA, zB, zC, zD, zE, zF, zG, zH] at Bn; replace hu := hu.only_new ho hs2; have R2 : RR wn g T _ _ _ := ⟨R.out.only ho (Ne.symm hne2)⟩; clear C R; have R := R2; clear R2; have C := R.out.cells; replace B2 := Bn; clear Bn ho))
         refine bodyPost_ret (results_cell_row rfl _ _ g2 35 ([.int .i64 2, .int .i64 0, .bool false, .slice none 0 0, .string ⟨#[]⟩, .slice none 0 0, .slice none 0 0] : List Value).toArray (0, 0) _ rfl B2.h Tryz.underlying35 rfl (by kernel_rfl)) rfl ?_
         exact ⟨_, rfl, hu, by rw [Hr.out]; exact ⟨R, by rw [← Hsl.out]; exact hEl⟩, .mk 2 0 false none 0 [] [] none 0 [] none 0 [], rfl, good_z _ _ _ (by omega) (by omega) _, fun b hb => (by rw [foot_z] at hb; cases hb), fun x e h => by rw [Hr.out] at h; cases h; rfl⟩
       have e_f := htl [35, 102]
       rw [decide_eq_false c_f] at e_f
       by_cases c_false : U.data.toList = [35, 102, 97, 108, 115, 101]
       · have e_false := htl [35, 102, 97, 108, 115, 101]
         rw [decide_eq_true c_false] at e_false
         have Hr := As.mk (HO.out _ (show plainF U.data.toList = .ok (dBool false) by rw [c_false]; rfl))
         clear htl c_dot c_false c_t c_true c_f
         go_wp2_with (first
          | (go_at_call 53; (with_reducible refine (HNP.out _).mono ?_); rintro e wn ⟨vn, rfl, ⟨q, rfl, ht⟩, hb⟩; obtain ⟨A, c, L, rfl, ho, HL, hc1⟩ := told_sl ht; clear ht ho HL hc1; replace R := R.below hb; clear C; have C := R.out.cells; replace hu := hu.trans (Upg.of_below hb); replace B2 := B2.below hb; clear hb)
          | ((with_reducible refine g_dst 5 ?_); go_must (refine ev_alloc 5 rfl infoNum (cs := [.bool false, .slice none 0 0]) rfl ?_); intro g5 wn hb B5 hg5; have hs5 := Nat.le_trans hu.size hg5; have hne5 : g5 ≠ g := (fun h => by have := R.lt; omega); have hne52 : g5 ≠ g2 := (fun h => by have := B2.lt; omega); clear hg5; replace R := R.below hb; clear C; have C := R.out.cells; replace hu := hu.trans (Upg.of_below hb); replace B2 := B2.below hb; clear hb)
          | ((with_reducible refine g_store 5 ?_); go_must (refine ev_store rfl rfl B5 (news := [.bool (decide (z < 0)), .slice A L.length c]) (by rfl) infoNum (by simp) (by simp [Value.oneCell']) ?_); intro wn ho Bn; simp only [encD, zA, zB, zC, zD, zE, zF, zG, zH] at Bn; replace hu := hu.only_new ho hs5; have R2 : RR wn g T _ _ _ := ⟨R.out.only ho (Ne.symm hne5)⟩; replace B2 := B2.only ho (Ne.symm hne52); clear C R; have R := R2; clear R2; have C := R.out.cells; replace B5 := Bn; clear Bn ho)
          | ((with_reducible refine g_store 2 ?_); go_must (refine ev_store rfl rfl B2 (news := [.int .i64 2, .int .i64 0, .bool false, .slice none 0 0, .string ⟨#[]⟩, .slice none 0 0, .slice none 0 0]) (by first | rfl | (go_simp; try rfl)) infoD (by simp) (by simp [Value.oneCell']) ?_); intro wn ho Bn; simp only [encD, zA, zB, zC, zD, zE, zF, zG, zH] at Bn; replace hu := hu.only_new ho hs2; have R2 : RR wn g T _ _ _ := ⟨R.out.only ho (Ne.symm hne2)⟩; clear C R; have R := R2; clear R2; have C := R.out.cells; replace B2 := Bn; clear Bn ho))
         refine bodyPost_ret (results_cell_row rfl _ _ g2 35 ([.int .i64 2, .int .i64 0, .bool false, .slice none 0 0, .string ⟨#[]⟩, .slice none 0 0, .slice none 0 0] : List Value).toArray (0, 0) _ rfl B2.h Tryz.underlying35 rfl (by kernel_rfl)) rfl ?_
         exact ⟨_, rfl, hu, by rw [Hr.out]; exact ⟨R, by rw [← Hsl.out]; exact hEl⟩, .mk 2 0 false none 0 [] [] none 0 [] none 0 [], rfl, good_z _ _ _ (by omega) (by omega) _, fun b hb => (by rw [foot_z] at hb; cases hb), fun x e h => by rw [Hr.out] at h; cases h; rfl⟩
       have e_false := htl [35, 102, 97, 108, 115, 101]
       rw [decide_eq_false c_false] at e_false
       have HPl : As (plainF U.data.toList = (if symF U.data.toList then .ok (dSym U.data.toList) else .error 12)) := ⟨by
        unfold plainF
        rw [if_neg (fun h => h.elim c_t c_true), if_neg (fun h => h.elim c_f c_false), if_neg c_dot, Hn.out]⟩
       clear htl c_t c_true c_f c_false
       cases hsy : symF U.data.toList with
       | true =>
         have Hr := As.mk (HO.out (dSym U.data.toList) (by rw [HPl.out, hsy]; rfl))
         go_wp2_with (first
          | (go_at_call 53; (with_reducible refine (HNP.out _).mono ?_); rintro e wn ⟨vn, rfl, ⟨q, rfl, ht⟩, hb⟩; obtain ⟨A, c, L, rfl, ho, HL, hc1⟩ := told_sl ht; clear ht ho HL hc1; replace R := R.below hb; clear C; have C := R.out.cells; replace hu := hu.trans (Upg.of_below hb); replace B2 := B2.below hb; clear hb)
          | ((with_reducible refine g_dst 5 ?_); go_must (refine ev_alloc 5 rfl infoNum (cs := [.bool false, .slice none 0 0]) rfl ?_); intro g5 wn hb B5 hg5; have hs5 := Nat.le_trans hu.size hg5; have hne5 : g5 ≠ g := (fun h => by have := R.lt; omega); have hne52 : g5 ≠ g2 := (fun h => by have := B2.lt; omega); clear hg5; replace R := R.below hb; clear C; have C := R.out.cells; replace hu := hu.trans (Upg.of_below hb); replace B2 := B2.below hb; clear hb)
          | ((with_reducible refine g_store 5 ?_); go_must (refine ev_store rfl rfl B5 (news := [.bool (decide (z < 0)), .slice A L.length c]) (by rfl) infoNum (by simp) (by simp [Value.oneCell']) ?_); intro wn ho Bn; simp only [encD, zA, zB, zC, zD, zE, zF, zG, zH] at Bn; replace hu := hu.only_new ho hs5; have R2 : RR wn g T _ _ _ := ⟨R.out.only ho (Ne.symm hne5)⟩; replace B2 := B2.only ho (Ne.symm hne52); clear C R; have R := R2; clear R2; have C := R.out.cells; replace B5 := Bn; clear Bn ho)
          | (go_at_call 54; (with_reducible refine (rplain_b U _ hus2 c_dot true hsy).mono ?_); rintro e wn ⟨vn, rfl, rfl, hb⟩; replace R := R.below hb; clear C; have C := R.out.cells; replace hu := hu.trans (Upg.of_below hb); replace B2 := B2.below hb; replace B5 := B5.below hb; clear hb)
          | (go_at_call 50; (with_reducible refine (rsymbol_any U _).mono ?_); rintro e wn ⟨vn, rfl, rfl, hb⟩; replace R := R.below hb; clear C; have C := R.out.cells; replace hu := hu.trans (Upg.of_below hb); replace B2 := B2.below hb; replace B5 := B5.below hb; clear hb)
          | ((with_reducible refine g_store 2 ?_); go_must (refine ev_store rfl rfl B2 (news := [.int .i64 5, .int .i64 0, .bool false, .slice none 0 0, .string U, .slice none 0 0, .slice none 0 0]) (by first | rfl | (go_simp; try rfl)) infoD (by simp) (by simp [Value.oneCell']) ?_); intro wn ho Bn; simp only [encD, zA, zB, zC, zD, zE, zF, zG, zH] at Bn; replace hu := hu.only_new ho hs2; have R2 : RR wn g T _ _ _ := ⟨R.out.only ho (Ne.symm hne2)⟩; clear C R; have R := R2; clear R2; have C := R.out.cells; replace B2 := Bn; clear Bn ho))
         refine bodyPost_ret (results_cell_row rfl _ _ g2 35 ([.int .i64 5, .int .i64 0, .bool false, .slice none 0 0, .string U, .slice none 0 0, .slice none 0 0] : List Value).toArray (0, 0) _ rfl B2.h Tryz.underlying35 rfl (by kernel_rfl)) rfl ?_
         exact ⟨_, rfl, hu, by rw [Hr.out]; exact ⟨R, by rw [← Hsl.out]; exact hEl⟩, .mk 5 0 false none 0 [] U.data.toList none 0 [] none 0 [], by simp [encD], good_z _ _ _ (by omega) (by omega) _, fun b hb => (by rw [foot_z] at hb; cases hb), fun x e h => by rw [Hr.out] at h; cases h; rfl⟩
       | false =>
         have Hr := As.mk (HR.out 12 (by rw [HPl.out, hsy]; rfl))
         go_wp2_with (first
          | (go_at_call 53; (with_reducible refine (HNP.out _).mono ?_); rintro e wn ⟨vn, rfl, ⟨q, rfl, ht⟩, hb⟩; obtain ⟨A, c, L, rfl, ho, HL, hc1⟩ := told_sl ht; clear ht ho HL hc1; replace R := R.below hb; clear C; have C := R.out.cells; replace hu := hu.trans (Upg.of_below hb); replace B2 := B2.below hb; clear hb)
          | ((with_reducible refine g_dst 5 ?_); go_must (refine ev_alloc 5 rfl infoNum (cs := [.bool false, .slice none 0 0]) rfl ?_); intro g5 wn hb B5 hg5; have hs5 := Nat.le_trans hu.size hg5; have hne5 : g5 ≠ g := (fun h => by have := R.lt; omega); have hne52 : g5 ≠ g2 := (fun h => by have := B2.lt; omega); clear hg5; replace R := R.below hb; clear C; have C := R.out.cells; replace hu := hu.trans (Upg.of_below hb); replace B2 := B2.below hb; clear hb)
          | ((with_reducible refine g_store 5 ?_); go_must (refine ev_store rfl rfl B5 (news := [.bool (decide (z < 0)), .slice A L.length c]) (by rfl) infoNum (by simp) (by simp [Value.oneCell']) ?_); intro wn ho Bn; simp only [encD, zA, zB, zC, zD, zE, zF, zG, zH] at Bn; replace hu := hu.only_new ho hs5; have R2 : RR wn g T _ _ _ := ⟨R.out.only ho (Ne.symm hne5)⟩; replace B2 := B2.only ho (Ne.symm hne52); clear C R; have R := R2; clear R2; have C := R.out.cells; replace B5 := Bn; clear Bn ho)
          | (go_at_call 54; (with_reducible refine (rplain_b U _ hus2 c_dot false hsy).mono ?_); rintro e wn ⟨vn, rfl, rfl, hb⟩; replace R := R.below hb; clear C; have C := R.out.cells; replace hu := hu.trans (Upg.of_below hb); replace B2 := B2.below hb; replace B5 := B5.below hb; clear hb)
          | (go_at_call 31; (with_reducible refine (rfail_ok R 12 (i : Int)).mono ?_); rintro e wn ⟨rfl, ho, R2⟩; have hq := Upg.of_only ho; clear C R; have R := R2; clear R2; have C := R.out.cells; replace hu := hu.trans hq; replace B2 := blk_upg B2 hq hne2; replace B5 := blk_upg B5 hq hne5; clear hq)
          | ((with_reducible refine g_store 2 ?_); go_must (refine ev_store rfl rfl B2 (news := [.int .i64 0, .int .i64 0, .bool false, .slice none 0 0, .string ⟨#[]⟩, .slice none 0 0, .slice none 0 0]) (by first | rfl | (go_simp; try rfl)) infoD (by simp) (by simp [Value.oneCell']) ?_); intro wn ho Bn; simp only [encD, zA, zB, zC, zD, zE, zF, zG, zH] at Bn; replace hu := hu.only_new ho hs2; have R2 : RR wn g T _ _ _ := ⟨R.out.only ho (Ne.symm hne2)⟩; clear C R; have R := R2; clear R2; have C := R.out.cells; replace B2 := Bn; clear Bn ho))
         refine bodyPost_ret (results_cell_row rfl _ _ g2 35 ([.int .i64 0, .int .i64 0, .bool false, .slice none 0 0, .string ⟨#[]⟩, .slice none 0 0, .slice none 0 0] : List Value).toArray (0, 0) _ rfl B2.h Tryz.underlying35 rfl (by kernel_rfl)) rfl ?_
         exact ⟨_, rfl, hu, by rw [Hr.out]; exact ⟨_, R, by decide⟩, ldZ, rfl, good_z _ _ _ (by decide) (by decide) _, fun b hb => (by rw [ldZ, foot_z] at hb; cases hb), fun x e h => by rw [Hr.out] at h; cases h⟩
end Go.Proofs.YtdapbegadhcpcaaGreatDoor
