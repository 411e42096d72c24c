/- A part of the proof. -/
import Derived.Test.YtdapbegadhcpcaaGreatDoorRdG
import Derived.Test.YtdapbegadhcpcaaGreatDoorML
import Derived.Test.YtdapbegadhcpcaaGreatDoorMH
set_option linter.unusedVariables false
set_option linter.unusedSimpArgs false
namespace Go.Proofs.YtdapbegadhcpcaaGreatDoor
open Go.RowKit Go.Proofs.YtdapbegadhcpcaaGreatDoorL Go.Proofs.YtdapbegadhcpcaaGreatDoorM
theorem cut_len {s : List UInt8} {i e : Nat} (h : i ≤ e) (he : e ≤ s.length) : (cut s i e).length = e - i := by
 rw [cut, List.length_take, List.length_drop]; omega
theorem cut_get {s : List UInt8} {i e j : Nat} (h : i + j < e) : (cut s i e)[j]? = s[i + j]? := by
 rw [cut, List.getElem?_take_of_lt (by omega), List.getElem?_drop]
theorem pre_cut {s : List UInt8} {i : Nat} (hi : i < s.length) : ([35, 92] : List UInt8).isPrefixOf (cut s i (tokStop s i)) = true ↔ (s[i]? = some 35 ∧ s[i + 1]? = some 92) := by
 have hge := tokStop_ge (s := s) i (by omega)
 have hle := tokStop_le s i (by omega)
 constructor
 · intro h
   rw [List.isPrefixOf_iff_prefix] at h
   obtain ⟨r, hr⟩ := h
   have hl := cut_len hge hle
   rw [← hr] at hl
   simp at hl
   have h0 := cut_get (s := s) (i := i) (e := tokStop s i) (j := 0) (by omega)
   have h1 := cut_get (s := s) (i := i) (e := tokStop s i) (j := 1) (by omega)
   rw [← hr] at h0 h1
   exact ⟨by rw [Nat.add_zero] at h0; rw [← h0]; rfl, by rw [← h1]; rfl⟩
 · rintro ⟨h0, h1⟩
   have hl := (List.getElem?_eq_some_iff.1 h1).1
   have hs : i + 2 ≤ tokStop s i := by
    rw [tokStop, if_pos ⟨h0, h1⟩]
    split
    · have := tokEnd_ge s (i + 3); omega
    · omega
   rw [cut, drop_at h0, drop_at h1, show tokStop s i - i = (tokStop s i - (i + 2)) + 1 + 1 by omega]
   simp [List.isPrefixOf]
theorem pz_sm5 (u : ByteArray) (neg : Bool) : Sm u.size (pz u neg) := by
 unfold pz Sm
 split
 · rw [sval_abs]; exact valD_lt u
 · exact Nat.pow_pos (by omega)
theorem drop_cut {s : List UInt8} {i e : Nat} : (cut s i e).drop 2 = cut s (i + 2) e := by
 rw [cut, cut, List.drop_take, List.drop_drop]
 congr 1 <;> omega
theorem numF_shape {t u : ByteArray} {neg : Bool} (h : Shape t u neg) : numF t.data.toList = if okD u then some (pz u neg) else none := by
 have key : ∀ (l : List UInt8) (b : Bool), u.data.toList = l → (if l ≠ [] ∧ l.all isD = true then some (sval b (numV 0 l)) else none) = if okD u then some (pz u b) else none := by
  intro l b hl
  unfold pz okD valD allD
  rw [← size_list, hl]
  by_cases h1 : l.all isD = true
  · cases l with
    | nil => simp
    | cons c r => simp [h1]
  · rw [if_neg (fun h => h1 h.2)]
    have h2 : l.all isD = false := by simpa using h1
    rw [h2]; rfl
 have hd1 : ∀ (h : 0 < t.size), (t.extract 1 t.size).data.toList = t.data.toList.drop 1 := fun h => extract_drop t 1 h
 have hg : ∀ (h : 0 < t.size), t.data.toList = (t[0]'h) :: t.data.toList.drop 1 := fun h => by
  have := drop_at (Lib.data_getElem? t 0 h)
  simpa using this
 cases h with
 | empty h =>
   have hn : t.data.toList = [] := List.eq_nil_of_length_eq_zero (by rw [size_list]; exact h)
   rw [← key _ false rfl, hn]
   simp [numF]
 | plus h h0 =>
   rw [← key _ false rfl, hd1 h, hg h]
   have hc : t[0]'h = 43 := UInt8.toNat_inj.1 (by rw [h0]; rfl)
   simp [numF, hc]
 | minus h h0 =>
   rw [← key _ true rfl, hd1 h, hg h]
   have hc : t[0]'h = 45 := UInt8.toNat_inj.1 (by rw [h0]; rfl)
   simp [numF, hc]
 | other h h0 h1 =>
   rw [← key _ false rfl, hg h]
   have hc : ¬ t[0]'h = 43 := fun e => h0 (by rw [e]; rfl)
   have hc2 : ¬ t[0]'h = 45 := fun e => h1 (by rw [e]; rfl)
   simp [numF, hc, hc2]
set_option maxRecDepth 16000 in
set_option maxHeartbeats 4000000 in
theorem token_any {w : World} {g i : Nat} {T : ByteArray} (R : RB w g T i 0 0) (hi : i < T.size) (hT : T.size ≤ 65536) (r : Rs) (hr : r = tokR T.data.toList i) :
 Calls Tryz.prog 27 #[.pointer (some ⟨g, 0, none⟩)] w fun x w' => ∃ v, x = .returned v ∧ Upg g w w' ∧ Aft w' g T r ∧ IsD w.heap.size w' r v := by
 have C := R.out.cells
 have hu := Upg.refl g w
 have hi2 : i ≤ T.size := by omega
 have hsl := size_list T
 obtain ⟨E, hE⟩ : ∃ E, E = tokStop T.data.toList i := ⟨_, rfl⟩
 have hEi : i ≤ tokStop T.data.toList i := tokStop_ge i (by omega)
 have hEl : tokStop T.data.toList i ≤ T.data.toList.length := tokStop_le _ i (by omega)
 have hEl2 : E ≤ T.data.toList.length := by rw [hE]; exact hEl
 have hpc := pre_cut (s := T.data.toList) (i := i) (by omega)
 have HE := As.mk hE.symm
 have Hrr := As.mk hr
 have Hpc := As.mk hpc
 clear hE hr hpc
 go_enter Tryz.func27, Tryz.ntmps27
 go_wp2_with (first
  | ((with_reducible refine g_dst 2 ?_); go_must (refine ev_alloc 2 rfl infoD (cs := [.int .i64 0, .int .i64 0, .bool false, .slice none 0 0, .string ⟨#[]⟩, .slice none 0 0, .slice none 0 0]) rfl ?_); intro g2 wn hb B2 hg2; have hs2 := Nat.le_trans hu.size hg2; have hne2 : g2 ≠ g := (fun h => by have := R.lt; omega); clear hg2; replace R := R.below hb; clear C; have C := R.out.cells; replace hu := hu.trans (Upg.of_below hb); clear hb)
  | (go_at_call 43; (with_reducible refine (token1_any R hi2 hT).mono ?_); rintro e wn ⟨vn, rfl, ⟨u, rfl, hul⟩, hb⟩; have hsz : (i : Int) + (u.size : Int) = (E : Int) := (by rw [← size_list, hul, ← HE.out, cut_len hEi hEl]; omega); have Hul := As.mk hul; clear hul; replace R := R.below hb; clear C; have C := R.out.cells; replace hu := hu.trans (Upg.of_below hb); replace B2 := B2.below hb; clear hb)
  | ((with_reducible refine g_store 26 ?_); go_must (refine ev_store rfl rfl R.out (news := [.int .i64 ((E : Nat) : Int)]) (by first | rfl | (go_simp; first | rfl | go_num | (simp; omega))) infoI (by simp) (by simp [Value.oneCell']) ?_); intro wn ho Bn; simp only [zI, zA, zC, zD, zE, zF, zH, zB, zG, Nat.reduceAdd] at Bn; have R2 : RB wn g T (E) 0 0 := ⟨Bn⟩; clear Bn; have hq := Upg.of_only ho; clear C R; have R := R2; clear R2; have C := R.out.cells; replace hu := hu.trans hq; replace B2 := blk_upg B2 hq hne2; clear hq; clear ho))
 clear hsz
 rw [HE.out] at Hul Hpc
 rw [HE.out] at hEi hEl
 have hus : u.size = E - i := by rw [← size_list, Hul.out, cut_len hEi hEl]
 have Hus := As.mk hus
 have hus2 : u.size ≤ 65536 := by omega
 have huE : u.size + i = E := by omega
 clear hus
 by_cases hp : T.data.toList[i]? = some 35 ∧ T.data.toList[i + 1]? = some 92
 · have Hp : As (([35, 92] : List UInt8).isPrefixOf u.data.toList = true) := ⟨by rw [Hul.out]; exact Hpc.out.2 hp⟩
   have hl2 := (List.getElem?_eq_some_iff.1 hp.2).1
   have hs2' : i + 2 ≤ E := by
    have := HE.out
    rw [tokStop, if_pos hp] at this
    split at this
    · have := tokEnd_ge T.data.toList (i + 3); omega
    · omega
   have h2u : (2 : Int) ≤ (u.size : Int) := by omega
   have Hx : As ((u.extract 2 u.size).data.toList = cut T.data.toList (i + 2) E) := ⟨by rw [extract_drop u 2 (by omega), Hul.out, drop_cut]⟩
   have HCh := As.mk (fun W => char_any5 (u.extract 2 u.size) W (by rw [ByteArray.size_extract]; omega))
   rw [Hx.out] at HCh
   cases hc : charF (cut T.data.toList (i + 2) E) with
   | some v =>
     have Hr : As (r = .ok (dChar v, E)) := ⟨by rw [Hrr.out, tokR, if_pos hp, HE.out, hc]⟩
     rw [(chr_some hc).1, (chr_some hc).2] at HCh
     have hv := charF_lt hc
     clear hc hp hl2 huE
     go_wp2_with (first
      | (go_at_call 39; (with_reducible refine (hp_b u [35, 92] true Hp.out _).mono ?_); rintro e wn ⟨rfl, rfl⟩)
      | (go_at_call 44; (with_reducible refine (HCh.out _).mono ?_); rintro e wn ⟨vn, rfl, rfl, hb⟩; replace R := R.below hb; clear C; have C := R.out.cells; replace hu := hu.trans (Upg.of_below hb); replace B2 := B2.below hb; clear hb)
      | ((with_reducible refine g_store 2 ?_); go_must (refine ev_store rfl rfl B2 (news := [.int .i64 3, .int .i64 (v : Int), .bool false, .slice none 0 0, .string ⟨#[]⟩, .slice none 0 0, .slice none 0 0]) (by first | rfl | (go_simp; try rfl)) infoD (by simp) (by simp [Value.oneCell']) ?_); intro wn ho Bn; simp only [encD, zA, zB, zC, zD, zE, zF, zG, zH] at Bn; replace hu := hu.only_new ho hs2; have R2 : RB wn g T _ _ _ := ⟨R.out.only ho (Ne.symm hne2)⟩; clear C R; have R := R2; clear R2; have C := R.out.cells; replace B2 := Bn; clear Bn ho))
     refine bodyPost_ret (results_cell_row rfl _ _ g2 35 ([.int .i64 3, .int .i64 (v : Int), .bool false, .slice none 0 0, .string ⟨#[]⟩, .slice none 0 0, .slice none 0 0] : List Value).toArray (0, 0) _ rfl B2.h Tryz.underlying35 rfl (by kernel_rfl)) rfl ?_
     exact ⟨_, rfl, hu, by rw [Hr.out]; exact ⟨R, by rw [← hsl]; exact hEl⟩, .mk 3 (v : Int) false none 0 [] [] none 0 [] none 0 [], rfl, good_z _ _ _ (by omega) (by omega) _, fun b hb => (by rw [foot_z] at hb; cases hb), fun x e h => by rw [Hr.out] at h; cases h; rfl⟩
   | none =>
     have Hr : As (r = .error (i, 14)) := ⟨by rw [Hrr.out, tokR, if_pos hp, HE.out, hc]⟩
     rw [(chr_none hc).1, (chr_none hc).2] at HCh
     clear hc hp hl2 huE
     go_wp2_with (first
      | (go_at_call 39; (with_reducible refine (hp_b u [35, 92] true Hp.out _).mono ?_); rintro e wn ⟨rfl, rfl⟩)
      | (go_at_call 44; (with_reducible refine (HCh.out _).mono ?_); rintro e wn ⟨vn, rfl, rfl, hb⟩; replace R := R.below hb; clear C; have C := R.out.cells; replace hu := hu.trans (Upg.of_below hb); replace B2 := B2.below hb; clear hb)
      | (go_at_call 24; (with_reducible refine (fail_ok R (i : Int) 14).mono ?_); rintro e wn ⟨rfl, ho, R2⟩; have hq := Upg.of_only ho; clear C R; have R := R2; clear R2; have C := R.out.cells; replace hu := hu.trans hq; replace B2 := blk_upg B2 hq hne2; clear hq)
      | ((with_reducible refine g_store 2 ?_); go_must (refine ev_store rfl rfl B2 (news := [.int .i64 3, .int .i64 0, .bool false, .slice none 0 0, .string ⟨#[]⟩, .slice none 0 0, .slice none 0 0]) (by first | rfl | (go_simp; try rfl)) infoD (by simp) (by simp [Value.oneCell']) ?_); intro wn ho Bn; simp only [encD, zA, zB, zC, zD, zE, zF, zG, zH] at Bn; replace hu := hu.only_new ho hs2; have R2 : RB wn g T _ _ _ := ⟨R.out.only ho (Ne.symm hne2)⟩; clear C R; have R := R2; clear R2; have C := R.out.cells; replace B2 := Bn; clear Bn ho))
     refine bodyPost_ret (results_cell_row rfl _ _ g2 35 ([.int .i64 3, .int .i64 0, .bool false, .slice none 0 0, .string ⟨#[]⟩, .slice none 0 0, .slice none 0 0] : List Value).toArray (0, 0) _ rfl B2.h Tryz.underlying35 rfl (by kernel_rfl)) rfl ?_
     exact ⟨_, rfl, hu, by rw [Hr.out]; exact ⟨_, R, by decide⟩, .mk 3 0 false none 0 [] [] none 0 [] none 0 [], rfl, good_z _ _ _ (by omega) (by omega) _, fun b hb => (by rw [foot_z] at hb; cases hb), fun x e h => by rw [Hr.out] at h; cases h⟩
 · have Hp : As (([35, 92] : List UInt8).isPrefixOf u.data.toList = false) := ⟨by
    cases h : ([35, 92] : List UInt8).isPrefixOf u.data.toList with
    | false => rfl
    | true => rw [Hul.out] at h; exact absurd (Hpc.out.1 h) hp⟩
   have HO := As.mk (fun d (h : plainF u.data.toList = .ok d) => (show r = .ok (d, E) by rw [Hrr.out, tokR, if_neg hp, HE.out, ← Hul.out, h]))
   have HR := As.mk (fun e (h : plainF u.data.toList = .error e) => (show r = .error (i, e) by rw [Hrr.out, tokR, if_neg hp, HE.out, ← Hul.out, h]))
   have htl : ∀ l, (u.toList == l) = decide (u.data.toList = l) := fun l => by rw [Lib.toList_data, beqD]
   clear hp huE
   by_cases c_t : u.data.toList = [35, 116]
   · have e_t := htl [35, 116]
     rw [decide_eq_true c_t] at e_t
     have Hr := As.mk (HO.out _ (show plainF u.data.toList = .ok (dBool true) by rw [c_t]; rfl))
     clear htl c_t 
     go_wp2_with (first
      | (go_at_call 39; (with_reducible refine (hp_b u [35, 92] false Hp.out _).mono ?_); rintro e wn ⟨rfl, rfl⟩)
      | ((with_reducible refine g_store 2 ?_); go_must (refine ev_store rfl rfl B2 (news := [.int .i64 2, .int .i64 1, .bool false, .slice none 0 0, .string ⟨#[]⟩, .slice none 0 0, .slice none 0 0]) (by first | rfl | (go_simp; try rfl)) infoD (by simp) (by simp [Value.oneCell']) ?_); intro wn ho Bn; simp only [encD, zA, zB, zC, zD, zE, zF, zG, zH] at Bn; replace hu := hu.only_new ho hs2; have R2 : RB wn g T _ _ _ := ⟨R.out.only ho (Ne.symm hne2)⟩; clear C R; have R := R2; clear R2; have C := R.out.cells; replace B2 := Bn; clear Bn ho))
     refine bodyPost_ret (results_cell_row rfl _ _ g2 35 ([.int .i64 2, .int .i64 1, .bool false, .slice none 0 0, .string ⟨#[]⟩, .slice none 0 0, .slice none 0 0] : List Value).toArray (0, 0) _ rfl B2.h Tryz.underlying35 rfl (by kernel_rfl)) rfl ?_
     exact ⟨_, rfl, hu, by rw [Hr.out]; exact ⟨R, by rw [← hsl]; exact hEl⟩, .mk 2 1 false none 0 [] [] none 0 [] none 0 [], rfl, good_z _ _ _ (by omega) (by omega) _, fun b hb => (by rw [foot_z] at hb; cases hb), fun x e h => by rw [Hr.out] at h; cases h; rfl⟩
   have e_t := htl [35, 116]
   rw [decide_eq_false c_t] at e_t
   by_cases c_true : u.data.toList = [35, 116, 114, 117, 101]
   · have e_true := htl [35, 116, 114, 117, 101]
     rw [decide_eq_true c_true] at e_true
     have Hr := As.mk (HO.out _ (show plainF u.data.toList = .ok (dBool true) by rw [c_true]; rfl))
     clear htl c_true c_t
     go_wp2_with (first
      | (go_at_call 39; (with_reducible refine (hp_b u [35, 92] false Hp.out _).mono ?_); rintro e wn ⟨rfl, rfl⟩)
      | ((with_reducible refine g_store 2 ?_); go_must (refine ev_store rfl rfl B2 (news := [.int .i64 2, .int .i64 1, .bool false, .slice none 0 0, .string ⟨#[]⟩, .slice none 0 0, .slice none 0 0]) (by first | rfl | (go_simp; try rfl)) infoD (by simp) (by simp [Value.oneCell']) ?_); intro wn ho Bn; simp only [encD, zA, zB, zC, zD, zE, zF, zG, zH] at Bn; replace hu := hu.only_new ho hs2; have R2 : RB wn g T _ _ _ := ⟨R.out.only ho (Ne.symm hne2)⟩; clear C R; have R := R2; clear R2; have C := R.out.cells; replace B2 := Bn; clear Bn ho))
     refine bodyPost_ret (results_cell_row rfl _ _ g2 35 ([.int .i64 2, .int .i64 1, .bool false, .slice none 0 0, .string ⟨#[]⟩, .slice none 0 0, .slice none 0 0] : List Value).toArray (0, 0) _ rfl B2.h Tryz.underlying35 rfl (by kernel_rfl)) rfl ?_
     exact ⟨_, rfl, hu, by rw [Hr.out]; exact ⟨R, by rw [← hsl]; exact hEl⟩, .mk 2 1 false none 0 [] [] none 0 [] none 0 [], rfl, good_z _ _ _ (by omega) (by omega) _, fun b hb => (by rw [foot_z] at hb; cases hb), fun x e h => by rw [Hr.out] at h; cases h; rfl⟩
   have e_true := htl [35, 116, 114, 117, 101]
   rw [decide_eq_false c_true] at e_true
   by_cases c_f : u.data.toList = [35, 102]
   · have e_f := htl [35, 102]
     rw [decide_eq_true c_f] at e_f
     have Hr := As.mk (HO.out _ (show plainF u.data.toList = .ok (dBool false) by rw [c_f]; rfl))
     clear htl c_f c_t c_true
     go_wp2_with (first
      | (go_at_call 39; (with_reducible refine (hp_b u [35, 92] false Hp.out _).mono ?_); rintro e wn ⟨rfl, rfl⟩)
      | ((with_reducible refine g_store 2 ?_); go_must (refine ev_store rfl rfl B2 (news := [.int .i64 2, .int .i64 0, .bool false, .slice none 0 0, .string ⟨#[]⟩, .slice none 0 0, .slice none 0 0]) (by first | rfl | (go_simp; try rfl)) infoD (by simp) (by simp [Value.oneCell']) ?_); intro wn ho Bn; simp only [encD, zA, zB, zC, zD, zE, zF, zG, zH] at Bn; replace hu := hu.only_new ho hs2; have R2 : RB wn g T _ _ _ := ⟨R.out.only ho (Ne.symm hne2)⟩; clear C R; have R := R2; clear R2; have C := R.out.cells; replace B2 := Bn; clear Bn ho))
     refine bodyPost_ret (results_cell_row rfl _ _ g2 35 ([.int .i64 2, .int .i64 0, .bool false, .slice none 0 0, .string ⟨#[]⟩, .slice none 0 0, .slice none 0 0] : List Value).toArray (0, 0) _ rfl B2.h Tryz.underlying35 rfl (by kernel_rfl)) rfl ?_
     exact ⟨_, rfl, hu, by rw [Hr.out]; exact ⟨R, by rw [← hsl]; exact hEl⟩, .mk 2 0 false none 0 [] [] none 0 [] none 0 [], rfl, good_z _ _ _ (by omega) (by omega) _, fun b hb => (by rw [foot_z] at hb; cases hb), fun x e h => by rw [Hr.out] at h; cases h; rfl⟩
   have e_f := htl [35, 102]
   rw [decide_eq_false c_f] at e_f
   by_cases c_false : u.data.toList = [35, 102, 97, 108, 115, 101]
   · have e_false := htl [35, 102, 97, 108, 115, 101]
     rw [decide_eq_true c_false] at e_false
     have Hr := As.mk (HO.out _ (show plainF u.data.toList = .ok (dBool false) by rw [c_false]; rfl))
     clear htl c_false c_t c_true c_f
     go_wp2_with (first
      | (go_at_call 39; (with_reducible refine (hp_b u [35, 92] false Hp.out _).mono ?_); rintro e wn ⟨rfl, rfl⟩)
      | ((with_reducible refine g_store 2 ?_); go_must (refine ev_store rfl rfl B2 (news := [.int .i64 2, .int .i64 0, .bool false, .slice none 0 0, .string ⟨#[]⟩, .slice none 0 0, .slice none 0 0]) (by first | rfl | (go_simp; try rfl)) infoD (by simp) (by simp [Value.oneCell']) ?_); intro wn ho Bn; simp only [encD, zA, zB, zC, zD, zE, zF, zG, zH] at Bn; replace hu := hu.only_new ho hs2; have R2 : RB wn g T _ _ _ := ⟨R.out.only ho (Ne.symm hne2)⟩; clear C R; have R := R2; clear R2; have C := R.out.cells; replace B2 := Bn; clear Bn ho))
     refine bodyPost_ret (results_cell_row rfl _ _ g2 35 ([.int .i64 2, .int .i64 0, .bool false, .slice none 0 0, .string ⟨#[]⟩, .slice none 0 0, .slice none 0 0] : List Value).toArray (0, 0) _ rfl B2.h Tryz.underlying35 rfl (by kernel_rfl)) rfl ?_
     exact ⟨_, rfl, hu, by rw [Hr.out]; exact ⟨R, by rw [← hsl]; exact hEl⟩, .mk 2 0 false none 0 [] [] none 0 [] none 0 [], rfl, good_z _ _ _ (by omega) (by omega) _, fun b hb => (by rw [foot_z] at hb; cases hb), fun x e h => by rw [Hr.out] at h; cases h; rfl⟩
   have e_false := htl [35, 102, 97, 108, 115, 101]
   rw [decide_eq_false c_false] at e_false
   by_cases c_dot : u.data.toList = [46]
   · have e_dot := htl [46]
     rw [decide_eq_true c_dot] at e_dot
     have Hr := As.mk (HR.out _ (show plainF u.data.toList = .error 15 by rw [c_dot]; rfl))
     clear htl c_dot c_t c_true c_f c_false
     go_wp2_with (first
      | (go_at_call 39; (with_reducible refine (hp_b u [35, 92] false Hp.out _).mono ?_); rintro e wn ⟨rfl, rfl⟩)
      | (go_at_call 24; (with_reducible refine (fail_ok R (i : Int) 15).mono ?_); rintro e wn ⟨rfl, ho, R2⟩; have hq := Upg.of_only ho; clear C R; have R := R2; clear R2; have C := R.out.cells; replace hu := hu.trans hq; replace B2 := blk_upg B2 hq hne2; clear hq)
      | ((with_reducible refine g_store 2 ?_); go_must (refine ev_store rfl rfl B2 (news := [.int .i64 0, .int .i64 0, .bool false, .slice none 0 0, .string ⟨#[]⟩, .slice none 0 0, .slice none 0 0]) (by first | rfl | (go_simp; try rfl)) infoD (by simp) (by simp [Value.oneCell']) ?_); intro wn ho Bn; simp only [encD, zA, zB, zC, zD, zE, zF, zG, zH] at Bn; replace hu := hu.only_new ho hs2; have R2 : RB wn g T _ _ _ := ⟨R.out.only ho (Ne.symm hne2)⟩; clear C R; have R := R2; clear R2; have C := R.out.cells; replace B2 := Bn; clear Bn ho))
     refine bodyPost_ret (results_cell_row rfl _ _ g2 35 ([.int .i64 0, .int .i64 0, .bool false, .slice none 0 0, .string ⟨#[]⟩, .slice none 0 0, .slice none 0 0] : List Value).toArray (0, 0) _ rfl B2.h Tryz.underlying35 rfl (by kernel_rfl)) rfl ?_
     exact ⟨_, rfl, hu, by rw [Hr.out]; exact ⟨_, R, by decide⟩, .mk 0 0 false none 0 [] [] none 0 [] none 0 [], rfl, good_z _ _ _ (by omega) (by omega) _, fun b hb => (by rw [foot_z] at hb; cases hb), fun x e h => by rw [Hr.out] at h; cases h⟩
   have e_dot := htl [46]
   rw [decide_eq_false c_dot] at e_dot
   have HPl : As (plainF u.data.toList = (match numF u.data.toList with | some z => .ok (dInt z) | none => if symF u.data.toList then .ok (dSym u.data.toList) else .error 12)) := ⟨by
    unfold plainF
    rw [if_neg (fun h => h.elim c_t c_true), if_neg (fun h => h.elim c_f c_false), if_neg c_dot]
    cases numF u.data.toList <;> rfl⟩
   obtain ⟨u2, neg, hsh⟩ := shape_ex u
   have hnF := numF_shape hsh
   have hu2 : u2.size ≤ 65536 := Nat.le_trans hsh.le hus2
   have HNP := As.mk (fun W => numParse_any u u2 neg W (by omega) hsh)
   have HLen : As ((digB 4294967296 (pz u2 neg).natAbs).length ≤ 274877906944) := ⟨Nat.le_trans (Sm.len (pz_sm5 u2 neg)) (by omega)⟩
   clear htl c_t c_true c_f c_false c_dot hsh
   cases hok : okD u2 with
   | true =>
     rw [hok] at hnF HNP
     have Hr := As.mk (HO.out (dInt (pz u2 neg)) (by rw [HPl.out, hnF]; rfl))
     obtain ⟨z, hz⟩ : ∃ z, z = pz u2 neg := ⟨_, rfl⟩
     rw [← hz] at Hr HNP HLen
     clear hnF hok hz
     go_wp2_with (first
      | (go_at_call 39; (with_reducible refine (hp_b u [35, 92] false Hp.out _).mono ?_); rintro e wn ⟨rfl, rfl⟩)
      | (go_at_call 45; have hsb := hu.size; have hs2b := B2.lt; (with_reducible refine (HNP.out _).mono ?_); rintro e wn ⟨vn, rfl, ⟨q, rfl, ht⟩, hb⟩; obtain ⟨A, c, L, rfl, ho, HL, hc1⟩ := told_sl ht; clear ht; have hgy : Good wn (.mk 1 0 (decide (z < 0)) A c L [] none 0 [] none 0 []) := good_num wn _ _ (by omega) (by omega) _ ⟨ho.rd lenU, (by rw [HL.out]; exact digB_lt _ (by omega) _), hc1, ho.none, (by rw [HL.out]; exact HLen.out)⟩ _; have hf1 : ∀ b ∈ footD (.mk 1 0 (decide (z < 0)) A c L [] none 0 [] none 0 []), w.heap.size ≤ b ∧ b ≠ g2 := (fun b hb => by have := own_block_ge ho b (foot_num hb); omega); clear ho hsb hs2b hc1; replace R := R.below hb; clear C; have C := R.out.cells; replace hu := hu.trans (Upg.of_below hb); replace B2 := B2.below hb; clear hb)
      | ((with_reducible refine g_dst 7 ?_); go_must (refine ev_alloc 7 rfl infoNum (cs := [.bool false, .slice none 0 0]) rfl ?_); intro g7 wn hb B7 hg7; have hs7 := Nat.le_trans hu.size hg7; have hne7 : g7 ≠ g := (fun h => by have := R.lt; omega); have hne72 : g7 ≠ g2 := (fun h => by have := B2.lt; omega); have hf7 : ∀ b ∈ footD (.mk 1 0 (decide (z < 0)) A c L [] none 0 [] none 0 []), b ≠ g7 := (fun b hb => by have := good_lt hgy b hb; omega); clear hg7; replace R := R.below hb; clear C; have C := R.out.cells; replace hu := hu.trans (Upg.of_below hb); replace B2 := B2.below hb; replace hgy := hgy.to hb; clear hb)
      | ((with_reducible refine g_store 7 ?_); go_must (refine ev_store rfl rfl B7 (news := [.bool (decide (z < 0)), .slice A L.length c]) (by rfl) infoNum (by simp) (by simp [Value.oneCell']) ?_); intro wn ho Bn; simp only [encD, zA, zB, zC, zD, zE, zF, zG, zH] at Bn; replace hu := hu.only_new ho hs7; have R2 : RB wn g T _ _ _ := ⟨R.out.only ho (Ne.symm hne7)⟩; replace B2 := B2.only ho (Ne.symm hne72); replace hgy := good_only hgy ho hf7; clear C R; have R := R2; clear R2; have C := R.out.cells; replace B7 := Bn; clear Bn ho; have C7 := B7.cells)
      | ((with_reducible refine g_store 2 ?_); go_must (refine ev_store rfl rfl B2 (news := [.int .i64 1, .int .i64 0, .bool (decide (z < 0)), .slice A L.length c, .string ⟨#[]⟩, .slice none 0 0, .slice none 0 0]) (by first | rfl | (go_simp; try rfl)) infoD (by simp) (by simp [Value.oneCell']) ?_); intro wn ho Bn; simp only [encD, zA, zB, zC, zD, zE, zF, zG, zH] at Bn; replace hu := hu.only_new ho hs2; replace hgy := good_only hgy ho (fun b hb => (hf1 b hb).2); clear C7; have R2 : RB wn g T _ _ _ := ⟨R.out.only ho (Ne.symm hne2)⟩; clear C R; have R := R2; clear R2; have C := R.out.cells; replace B2 := Bn; clear Bn ho))
     refine bodyPost_ret (results_cell_row rfl _ _ g2 35 ([.int .i64 1, .int .i64 0, .bool (decide (z < 0)), .slice A L.length c, .string ⟨#[]⟩, .slice none 0 0, .slice none 0 0] : List Value).toArray (0, 0) _ rfl B2.h Tryz.underlying35 rfl (by kernel_rfl)) rfl ?_
     exact ⟨_, rfl, hu, by rw [Hr.out]; exact ⟨R, by rw [← hsl]; exact hEl⟩, .mk 1 0 (decide (z < 0)) A c L [] none 0 [] none 0 [], rfl, hgy, fun b hb => (hf1 b hb).1, fun x e h => by rw [Hr.out] at h; cases h; simp [erD, erAll, dInt, HL.out]⟩
   | false =>
     rw [hok] at hnF HNP
     have HSy := As.mk (fun W => symbol_any u W hus2)
     have Hn : As (numF u.data.toList = none) := ⟨by rw [hnF]; rfl⟩
     obtain ⟨z, hz⟩ : ∃ z, z = pz u2 neg := ⟨_, rfl⟩
     rw [← hz] at HNP
     clear hnF hok hz
     cases hsy : symF u.data.toList with
     | true =>
       rw [hsy] at HSy
       have Hr := As.mk (HO.out (dSym u.data.toList) (by rw [HPl.out, Hn.out, hsy]; rfl))
       clear hsy
       go_wp2_with (first
        | (go_at_call 39; (with_reducible refine (hp_b u [35, 92] false Hp.out _).mono ?_); rintro e wn ⟨rfl, rfl⟩)
        | (go_at_call 45; (with_reducible refine (HNP.out _).mono ?_); rintro e wn ⟨vn, rfl, ⟨q, rfl, ht⟩, hb⟩; obtain ⟨A, c, L, rfl, ho, HL, hc1⟩ := told_sl ht; clear ht ho HL hc1; replace R := R.below hb; clear C; have C := R.out.cells; replace hu := hu.trans (Upg.of_below hb); replace B2 := B2.below hb; clear hb)
        | ((with_reducible refine g_dst 7 ?_); go_must (refine ev_alloc 7 rfl infoNum (cs := [.bool false, .slice none 0 0]) rfl ?_); intro g7 wn hb B7 hg7; have hs7 := Nat.le_trans hu.size hg7; have hne7 : g7 ≠ g := (fun h => by have := R.lt; omega); have hne72 : g7 ≠ g2 := (fun h => by have := B2.lt; omega); clear hg7; replace R := R.below hb; clear C; have C := R.out.cells; replace hu := hu.trans (Upg.of_below hb); replace B2 := B2.below hb; clear hb)
        | ((with_reducible refine g_store 7 ?_); go_must (refine ev_store rfl rfl B7 (news := [.bool (decide (z < 0)), .slice A L.length c]) (by rfl) infoNum (by simp) (by simp [Value.oneCell']) ?_); intro wn ho Bn; simp only [encD, zA, zB, zC, zD, zE, zF, zG, zH] at Bn; replace hu := hu.only_new ho hs7; have R2 : RB wn g T _ _ _ := ⟨R.out.only ho (Ne.symm hne7)⟩; replace B2 := B2.only ho (Ne.symm hne72); clear C R; have R := R2; clear R2; have C := R.out.cells; replace B7 := Bn; clear Bn ho)
        | (go_at_call 46; (with_reducible refine (HSy.out _).mono ?_); rintro e wn ⟨vn, rfl, rfl, hb⟩; replace R := R.below hb; clear C; have C := R.out.cells; replace hu := hu.trans (Upg.of_below hb); replace B2 := B2.below hb; replace B7 := B7.below hb; clear hb)
        | ((with_reducible refine g_store 2 ?_); go_must (refine ev_store rfl rfl B2 (news := [.int .i64 5, .int .i64 0, .bool false, .slice none 0 0, .string u, .slice none 0 0, .slice none 0 0]) (by first | rfl | (go_simp; try rfl)) infoD (by simp) (by simp [Value.oneCell']) ?_); intro wn ho Bn; simp only [encD, zA, zB, zC, zD, zE, zF, zG, zH] at Bn; replace hu := hu.only_new ho hs2; have R2 : RB wn g T _ _ _ := ⟨R.out.only ho (Ne.symm hne2)⟩; clear C R; have R := R2; clear R2; have C := R.out.cells; replace B2 := Bn; clear Bn ho))
       refine bodyPost_ret (results_cell_row rfl _ _ g2 35 ([.int .i64 5, .int .i64 0, .bool false, .slice none 0 0, .string u, .slice none 0 0, .slice none 0 0] : List Value).toArray (0, 0) _ rfl B2.h Tryz.underlying35 rfl (by kernel_rfl)) rfl ?_
       exact ⟨_, rfl, hu, by rw [Hr.out]; exact ⟨R, by rw [← hsl]; exact hEl⟩, .mk 5 0 false none 0 [] u.data.toList none 0 [] none 0 [], by simp [encD], good_z _ _ _ (by omega) (by omega) _, fun b hb => (by rw [foot_z] at hb; cases hb), fun x e h => by rw [Hr.out] at h; cases h; rfl⟩
     | false =>
       rw [hsy] at HSy
       have Hr := As.mk (HR.out 12 (by rw [HPl.out, Hn.out, hsy]; rfl))
       clear hsy
       go_wp2_with (first
        | (go_at_call 39; (with_reducible refine (hp_b u [35, 92] false Hp.out _).mono ?_); rintro e wn ⟨rfl, rfl⟩)
        | (go_at_call 45; (with_reducible refine (HNP.out _).mono ?_); rintro e wn ⟨vn, rfl, ⟨q, rfl, ht⟩, hb⟩; obtain ⟨A, c, L, rfl, ho, HL, hc1⟩ := told_sl ht; clear ht ho HL hc1; replace R := R.below hb; clear C; have C := R.out.cells; replace hu := hu.trans (Upg.of_below hb); replace B2 := B2.below hb; clear hb)
        | ((with_reducible refine g_dst 7 ?_); go_must (refine ev_alloc 7 rfl infoNum (cs := [.bool false, .slice none 0 0]) rfl ?_); intro g7 wn hb B7 hg7; have hs7 := Nat.le_trans hu.size hg7; have hne7 : g7 ≠ g := (fun h => by have := R.lt; omega); have hne72 : g7 ≠ g2 := (fun h => by have := B2.lt; omega); clear hg7; replace R := R.below hb; clear C; have C := R.out.cells; replace hu := hu.trans (Upg.of_below hb); replace B2 := B2.below hb; clear hb)
        | ((with_reducible refine g_store 7 ?_); go_must (refine ev_store rfl rfl B7 (news := [.bool (decide (z < 0)), .slice A L.length c]) (by rfl) infoNum (by simp) (by simp [Value.oneCell']) ?_); intro wn ho Bn; simp only [encD, zA, zB, zC, zD, zE, zF, zG, zH] at Bn; replace hu := hu.only_new ho hs7; have R2 : RB wn g T _ _ _ := ⟨R.out.only ho (Ne.symm hne7)⟩; replace B2 := B2.only ho (Ne.symm hne72); clear C R; have R := R2; clear R2; have C := R.out.cells; replace B7 := Bn; clear Bn ho)
        | (go_at_call 46; (with_reducible refine (HSy.out _).mono ?_); rintro e wn ⟨vn, rfl, rfl, hb⟩; replace R := R.below hb; clear C; have C := R.out.cells; replace hu := hu.trans (Upg.of_below hb); replace B2 := B2.below hb; replace B7 := B7.below hb; clear hb)
        | (go_at_call 24; (with_reducible refine (fail_ok R (i : Int) 12).mono ?_); rintro e wn ⟨rfl, ho, R2⟩; have hq := Upg.of_only ho; clear C R; have R := R2; clear R2; have C := R.out.cells; replace hu := hu.trans hq; replace B2 := blk_upg B2 hq hne2; replace B7 := blk_upg B7 hq hne7; clear hq)
        | ((with_reducible refine g_store 2 ?_); go_must (refine ev_store rfl rfl B2 (news := [.int .i64 5, .int .i64 0, .bool false, .slice none 0 0, .string u, .slice none 0 0, .slice none 0 0]) (by first | rfl | (go_simp; try rfl)) infoD (by simp) (by simp [Value.oneCell']) ?_); intro wn ho Bn; simp only [encD, zA, zB, zC, zD, zE, zF, zG, zH] at Bn; replace hu := hu.only_new ho hs2; have R2 : RB wn g T _ _ _ := ⟨R.out.only ho (Ne.symm hne2)⟩; clear C R; have R := R2; clear R2; have C := R.out.cells; replace B2 := Bn; clear Bn ho))
       refine bodyPost_ret (results_cell_row rfl _ _ g2 35 ([.int .i64 5, .int .i64 0, .bool false, .slice none 0 0, .string u, .slice none 0 0, .slice none 0 0] : List Value).toArray (0, 0) _ rfl B2.h Tryz.underlying35 rfl (by kernel_rfl)) rfl ?_
       exact ⟨_, rfl, hu, by rw [Hr.out]; exact ⟨_, R, by decide⟩, .mk 5 0 false none 0 [] u.data.toList none 0 [] none 0 [], by simp [encD], good_z _ _ _ (by omega) (by omega) _, fun b hb => (by rw [foot_z] at hb; cases hb), fun x e h => by rw [Hr.out] at h; cases h⟩
end Go.Proofs.YtdapbegadhcpcaaGreatDoor
