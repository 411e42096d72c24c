/- A part of the proof. -/
import Derived.Test.YtdapbegadhcpcaaGreatDoorRdN
import Derived.Test.YtdapbegadhcpcaaGreatDoorRdO
import Derived.Test.YtdapbegadhcpcaaGreatDoorRdH
import Derived.Test.YtdapbegadhcpcaaGreatDoorRdJ
set_option linter.unusedVariables false
set_option linter.unusedSimpArgs false
namespace Go.Proofs.YtdapbegadhcpcaaGreatDoor
open Go.RowKit Go.Proofs.YtdapbegadhcpcaaGreatDoorL Go.Proofs.YtdapbegadhcpcaaGreatDoorM
theorem pre1_iff {s : List UInt8} {i : Nat} {c : UInt8} (h : s[i]? = some c) (x : UInt8) : pre s i [x] = decide (c = x) := by
 rw [pre1 h]
 by_cases h2 : c = x
 · simp [h2]
 · have h3 : ¬ x = c := fun h => h2 h.symm
   simp [h2, h3]
theorem pre2_iff2 {s : List UInt8} {i : Nat} {c : UInt8} (h : s[i]? = some c) (x y : UInt8) : pre s i [x, y] = decide (c = x ∧ s[i + 1]? = some y) := by
 rw [pre2 h]
 by_cases h2 : c = x
 · subst h2
   by_cases h3 : s[i + 1]? = some y <;> simp [h3]
 · have h3 : ¬ x = c := fun h => h2 h.symm
   simp [h2, h3]
theorem dcls_facts {s : List UInt8} {i : Nat} {c : UInt8} (h : s[i]? = some c) :
 (dcls s i = .list ∧ pre s i [40] = true) ∨ (dcls s i = .vec ∧ pre s i [40] = false ∧ pre s i [35, 40] = true) ∨ (dcls s i = .close ∧ pre s i [40] = false ∧ pre s i [35, 40] = false ∧ pre s i [41] = true) ∨ (dcls s i = .short sQuote 1 ∧ pre s i [40] = false ∧ pre s i [35, 40] = false ∧ pre s i [41] = false ∧ pre s i [39] = true) ∨ (dcls s i = .short sQuasi 1 ∧ pre s i [40] = false ∧ pre s i [35, 40] = false ∧ pre s i [41] = false ∧ pre s i [39] = false ∧ pre s i [96] = true) ∨ (dcls s i = .short sSpl 2 ∧ pre s i [40] = false ∧ pre s i [35, 40] = false ∧ pre s i [41] = false ∧ pre s i [39] = false ∧ pre s i [96] = false ∧ pre s i [44, 64] = true) ∨ (dcls s i = .short sUnq 1 ∧ pre s i [40] = false ∧ pre s i [35, 40] = false ∧ pre s i [41] = false ∧ pre s i [39] = false ∧ pre s i [96] = false ∧ pre s i [44, 64] = false ∧ pre s i [44] = true) ∨ (dcls s i = .str ∧ pre s i [40] = false ∧ pre s i [35, 40] = false ∧ pre s i [41] = false ∧ pre s i [39] = false ∧ pre s i [96] = false ∧ pre s i [44, 64] = false ∧ pre s i [44] = false ∧ pre s i [34] = true) ∨ (dcls s i = .tok ∧ pre s i [40] = false ∧ pre s i [35, 40] = false ∧ pre s i [41] = false ∧ pre s i [39] = false ∧ pre s i [96] = false ∧ pre s i [44, 64] = false ∧ pre s i [44] = false ∧ pre s i [34] = false) := by
 have e : dcls s i = (if c = 40 then DC.list else if c = 35 ∧ s[i + 1]? = some 40 then .vec else if c = 41 then .close else if c = 39 then .short sQuote 1 else if c = 96 then .short sQuasi 1
  else if c = 44 then (if s[i + 1]? = some 64 then .short sSpl 2 else .short sUnq 1) else if c = 34 then .str else .tok) := by rw [dcls, h]
 simp only [pre1_iff h, pre2_iff2 h, e, decide_eq_true_eq, decide_eq_false_iff_not]
 by_cases h1 : c = 40
 · exact .inl ⟨by rw [if_pos h1], h1⟩
 by_cases h2 : c = 35 ∧ s[i + 1]? = some 40
 · exact .inr (.inl ⟨by rw [if_neg h1, if_pos h2], h1, h2⟩)
 by_cases h3 : c = 41
 · exact .inr (.inr (.inl ⟨by rw [if_neg h1, if_neg h2, if_pos h3], h1, h2, h3⟩))
 by_cases h4 : c = 39
 · exact .inr (.inr (.inr (.inl ⟨by rw [if_neg h1, if_neg h2, if_neg h3, if_pos h4], h1, h2, h3, h4⟩)))
 by_cases h5 : c = 96
 · exact .inr (.inr (.inr (.inr (.inl ⟨by rw [if_neg h1, if_neg h2, if_neg h3, if_neg h4, if_pos h5], h1, h2, h3, h4, h5⟩))))
 by_cases h6 : c = 44
 · by_cases h7 : s[i + 1]? = some 64
   · exact .inr (.inr (.inr (.inr (.inr (.inl ⟨by rw [if_neg h1, if_neg h2, if_neg h3, if_neg h4, if_neg h5, if_pos h6, if_pos h7], h1, h2, h3, h4, h5, h6, h7⟩)))))
   · exact .inr (.inr (.inr (.inr (.inr (.inr (.inl ⟨by rw [if_neg h1, if_neg h2, if_neg h3, if_neg h4, if_neg h5, if_pos h6, if_neg h7], h1, h2, h3, h4, h5, fun h => h7 h.2, h6⟩))))))
 by_cases h8 : c = 34
 · exact .inr (.inr (.inr (.inr (.inr (.inr (.inr (.inl ⟨by rw [if_neg h1, if_neg h2, if_neg h3, if_neg h4, if_neg h5, if_neg h6, if_pos h8], h1, h2, h3, h4, h5, fun h => h6 h.1, h6, h8⟩)))))))
 · exact .inr (.inr (.inr (.inr (.inr (.inr (.inr (.inr ⟨by rw [if_neg h1, if_neg h2, if_neg h3, if_neg h4, if_neg h5, if_neg h6, if_neg h8], h1, h2, h3, h4, h5, fun h => h6 h.1, h6, h8⟩)))))))
set_option maxRecDepth 8000 in
set_option maxHeartbeats 40000000 in
theorem datum_pc (T : ByteArray) (hT : T.size ≤ 65536) (d i : Nat) (IH : ∀ j, wtJ T.data.toList j < wtJ T.data.toList (.datum d i) → PC T j) : PC T (.datum d i) := by
 intro w g r hi hd R hr
 have hsl := size_list T
 have hi2 : i ≤ T.size := by omega
 have IHb : As (∀ k, i < k → PC T (.blanks (d + 1) k)) := ⟨fun k hk => IH _ (by simp only [wtJ]; omega)⟩
 have IHn : As (∀ k, i < k → PC T (.next (d + 1) k)) := ⟨fun k hk => IH _ (by simp only [wtJ]; omega)⟩
 have IHd : As (∀ k, i < k → PC T (.datum (d + 1) k)) := ⟨fun k hk => IH _ (by simp only [wtJ]; omega)⟩
 clear IH
 obtain ⟨c, hc⟩ := get_size T hi
 have hdf := dcls_facts hc
 have hrr := inv_datum hr
 have C := R.out.cells
 have hu := Upg.refl g w
 obtain ⟨D, hD0⟩ : ∃ D, D = d + 1 := ⟨_, rfl⟩
 rw [← hD0] at IHb IHn IHd
 have hdD : (d : Int) + 1 = (D : Int) := by omega
 have h35 := pre1_iff hc 35
 have h12 : T.data.toList[i + 1]? = some 40 → i + 2 ≤ T.size := fun h => by have := (List.getElem?_eq_some_iff.1 h).1; omega
 have h13 : T.data.toList[i + 1]? = some 64 → i + 2 ≤ T.size := fun h => by have := (List.getElem?_eq_some_iff.1 h).1; omega
 rcases hdf with ⟨hcl, f40⟩ | ⟨hcl, f40, f3540⟩ | ⟨hcl, f40, f3540, f41⟩ | ⟨hcl, f40, f3540, f41, f39⟩ | ⟨hcl, f40, f3540, f41, f39, f96⟩ | ⟨hcl, f40, f3540, f41, f39, f96, f4464⟩ | ⟨hcl, f40, f3540, f41, f39, f96, f4464, f44⟩ | ⟨hcl, f40, f3540, f41, f39, f96, f4464, f44, f34⟩ | ⟨hcl, f40, f3540, f41, f39, f96, f4464, f44, f34⟩
 · rw [hcl] at hrr
   simp only at hrr
   have g35 : pre T.data.toList i [35] = false := by
    rw [h35]
    have := f40
    rw [pre1_iff hc] at this
    have h40 : c = 40 := of_decide_eq_true this
    rw [h40]; rfl
   have hin : i + 1 ≤ T.size := by omega
   by_cases hd9 : d < 100
   · rw [if_pos hd9] at hrr
     have Hr : As (Run T.data.toList (.items false D (i + 1) []) r) := ⟨by rw [hD0]; exact hrr⟩
     have hDD : D ≤ 100 := by omega
     clear hrr hr hcl h35 h12 h13 hc hD0
     go_enter Tryz.func14, Tryz.ntmps14
     go_wp2_with (first
      | ((with_reducible refine g_dst 4 ?_); go_must (refine ev_alloc 4 rfl infoD (cs := [.int .i64 0, .int .i64 0, .bool false, .slice none 0 0, .string ⟨#[]⟩, .slice none 0 0, .slice none 0 0]) rfl ?_); intro g4 wn hb B4 hg4; have hs4 := Nat.le_trans hu.size hg4; have hne4 : g4 ≠ g := (fun h => by have := R.lt; omega); clear hg4; replace R := R.below hb; clear C; have C := R.out.cells; replace hu := hu.trans (Upg.of_below hb); clear hb)
      | (go_at_call 21; (with_reducible refine (sees_b R hi2 [40] true f40).mono ?_); rintro e wn ⟨vn, rfl, rfl, hb⟩; replace R := R.below hb; clear C; have C := R.out.cells; replace hu := hu.trans (Upg.of_below hb); replace B4 := B4.below hb; clear hb)
      | (go_at_call 23; have hsz := B4.lt; have hsu := hu.size; (with_reducible refine (list_lst R hT hin hDD g35 IHb IHn IHd r Hr.out).mono ?_); rintro e wn ⟨vn, rfl, hq, haf, ⟨y, rfl, hgy, hfy, hey⟩⟩; replace hu := hu.trans hq; replace B4 := blk_upg B4 hq hne4; have hf1 : ∀ b ∈ footD y, w.heap.size ≤ b ∧ b ≠ g4 := (fun b hb => by have := hfy b hb; omega); have Hey := As.mk hey; have Haf := As.mk haf; clear C hq R hfy hey hsz hsu haf; obtain ⟨kind, n, neg, A, c, mag, text, Ai, ci, items, Ar, cr, rest⟩ := y)
      | ((with_reducible refine g_store 4 ?_); go_must (refine ev_store rfl rfl B4 (news := encD (.mk kind n neg A c mag text Ai ci items Ar cr rest)) (by rfl) infoD (by simp [encD]) (by simp [encD, Value.oneCell']) ?_); intro wn ho Bn; simp only [encD, zA, zB, zC, zD, zE, zF, zG, zH] at Bn; replace hu := hu.only_new ho hs4; replace hgy := good_only hgy ho (fun b hb => (hf1 b hb).2); have Haf2 := As.mk (Haf.out.only ho (Ne.symm hne4)); replace B4 := Bn; clear Bn ho))
     refine bodyPost_ret (results_cell_row rfl _ _ g4 35 (encD (.mk kind n neg A c mag text Ai ci items Ar cr rest)).toArray (0, 0) _ rfl B4.h Tryz.underlying35 rfl (by kernel_rfl)) rfl ?_
     exact ⟨_, rfl, hu, Haf2.out, .mk kind n neg A c mag text Ai ci items Ar cr rest, rfl, hgy, fun b hb => (hf1 b hb).1, Hey.out⟩
   · rw [if_neg hd9] at hrr
     have Hr := As.mk hrr
     have hDD : 100 < D := by omega
     clear hrr hr hcl h35 h12 h13 hc hD0
     go_enter Tryz.func14, Tryz.ntmps14
     go_wp2_with (first
      | ((with_reducible refine g_dst 4 ?_); go_must (refine ev_alloc 4 rfl infoD (cs := [.int .i64 0, .int .i64 0, .bool false, .slice none 0 0, .string ⟨#[]⟩, .slice none 0 0, .slice none 0 0]) rfl ?_); intro g4 wn hb B4 hg4; have hs4 := Nat.le_trans hu.size hg4; have hne4 : g4 ≠ g := (fun h => by have := R.lt; omega); clear hg4; replace R := R.below hb; clear C; have C := R.out.cells; replace hu := hu.trans (Upg.of_below hb); clear hb)
      | (go_at_call 21; (with_reducible refine (sees_b R hi2 [40] true f40).mono ?_); rintro e wn ⟨vn, rfl, rfl, hb⟩; replace R := R.below hb; clear C; have C := R.out.cells; replace hu := hu.trans (Upg.of_below hb); replace B4 := B4.below hb; clear hb)
      | (go_at_call 23; have hsz := B4.lt; have hsu := hu.size; (with_reducible refine (list_deep R D hDD r Hr.out).mono ?_); rintro e wn ⟨vn, rfl, hq, haf, ⟨y, rfl, hgy, hfy, hey⟩⟩; replace hu := hu.trans hq; replace B4 := blk_upg B4 hq hne4; have hf1 : ∀ b ∈ footD y, w.heap.size ≤ b ∧ b ≠ g4 := (fun b hb => by have := hfy b hb; omega); have Hey := As.mk hey; have Haf := As.mk haf; clear C hq R hfy hey hsz hsu haf; obtain ⟨kind, n, neg, A, c, mag, text, Ai, ci, items, Ar, cr, rest⟩ := y)
      | ((with_reducible refine g_store 4 ?_); go_must (refine ev_store rfl rfl B4 (news := encD (.mk kind n neg A c mag text Ai ci items Ar cr rest)) (by rfl) infoD (by simp [encD]) (by simp [encD, Value.oneCell']) ?_); intro wn ho Bn; simp only [encD, zA, zB, zC, zD, zE, zF, zG, zH] at Bn; replace hu := hu.only_new ho hs4; replace hgy := good_only hgy ho (fun b hb => (hf1 b hb).2); have Haf2 := As.mk (Haf.out.only ho (Ne.symm hne4)); replace B4 := Bn; clear Bn ho))
     refine bodyPost_ret (results_cell_row rfl _ _ g4 35 (encD (.mk kind n neg A c mag text Ai ci items Ar cr rest)).toArray (0, 0) _ rfl B4.h Tryz.underlying35 rfl (by kernel_rfl)) rfl ?_
     exact ⟨_, rfl, hu, Haf2.out, .mk kind n neg A c mag text Ai ci items Ar cr rest, rfl, hgy, fun b hb => (hf1 b hb).1, Hey.out⟩
 · rw [hcl] at hrr
   simp only at hrr
   have g35 : pre T.data.toList i [35] = true := by
    rw [h35]
    have := f3540
    rw [pre2_iff2 hc] at this
    exact decide_eq_true (of_decide_eq_true this).1
   have hin : i + 2 ≤ T.size := by
    have := f3540
    rw [pre2_iff2 hc] at this
    exact h12 (of_decide_eq_true this).2
   by_cases hd9 : d < 100
   · rw [if_pos hd9] at hrr
     have Hr : As (Run T.data.toList (.items true D (i + 2) []) r) := ⟨by rw [hD0]; exact hrr⟩
     have hDD : D ≤ 100 := by omega
     clear hrr hr hcl h35 h12 h13 hc hD0
     go_enter Tryz.func14, Tryz.ntmps14
     go_wp2_with (first
      | ((with_reducible refine g_dst 4 ?_); go_must (refine ev_alloc 4 rfl infoD (cs := [.int .i64 0, .int .i64 0, .bool false, .slice none 0 0, .string ⟨#[]⟩, .slice none 0 0, .slice none 0 0]) rfl ?_); intro g4 wn hb B4 hg4; have hs4 := Nat.le_trans hu.size hg4; have hne4 : g4 ≠ g := (fun h => by have := R.lt; omega); clear hg4; replace R := R.below hb; clear C; have C := R.out.cells; replace hu := hu.trans (Upg.of_below hb); clear hb)
      | (go_at_call 21; (with_reducible refine (sees_b R hi2 [40] false f40).mono ?_); rintro e wn ⟨vn, rfl, rfl, hb⟩; replace R := R.below hb; clear C; have C := R.out.cells; replace hu := hu.trans (Upg.of_below hb); replace B4 := B4.below hb; clear hb)
      | (go_at_call 21; (with_reducible refine (sees_b R hi2 [35, 40] true f3540).mono ?_); rintro e wn ⟨vn, rfl, rfl, hb⟩; replace R := R.below hb; clear C; have C := R.out.cells; replace hu := hu.trans (Upg.of_below hb); replace B4 := B4.below hb; clear hb)
      | (go_at_call 23; have hsz := B4.lt; have hsu := hu.size; (with_reducible refine (list_vec R hT hin hDD g35 IHb IHn IHd r Hr.out).mono ?_); rintro e wn ⟨vn, rfl, hq, haf, ⟨y, rfl, hgy, hfy, hey⟩⟩; replace hu := hu.trans hq; replace B4 := blk_upg B4 hq hne4; have hf1 : ∀ b ∈ footD y, w.heap.size ≤ b ∧ b ≠ g4 := (fun b hb => by have := hfy b hb; omega); have Hey := As.mk hey; have Haf := As.mk haf; clear C hq R hfy hey hsz hsu haf; obtain ⟨kind, n, neg, A, c, mag, text, Ai, ci, items, Ar, cr, rest⟩ := y)
      | ((with_reducible refine g_store 4 ?_); go_must (refine ev_store rfl rfl B4 (news := encD (.mk kind n neg A c mag text Ai ci items Ar cr rest)) (by rfl) infoD (by simp [encD]) (by simp [encD, Value.oneCell']) ?_); intro wn ho Bn; simp only [encD, zA, zB, zC, zD, zE, zF, zG, zH] at Bn; replace hu := hu.only_new ho hs4; replace hgy := good_only hgy ho (fun b hb => (hf1 b hb).2); have Haf2 := As.mk (Haf.out.only ho (Ne.symm hne4)); replace B4 := Bn; clear Bn ho))
     refine bodyPost_ret (results_cell_row rfl _ _ g4 35 (encD (.mk kind n neg A c mag text Ai ci items Ar cr rest)).toArray (0, 0) _ rfl B4.h Tryz.underlying35 rfl (by kernel_rfl)) rfl ?_
     exact ⟨_, rfl, hu, Haf2.out, .mk kind n neg A c mag text Ai ci items Ar cr rest, rfl, hgy, fun b hb => (hf1 b hb).1, Hey.out⟩
   · rw [if_neg hd9] at hrr
     have Hr := As.mk hrr
     have hDD : 100 < D := by omega
     clear hrr hr hcl h35 h12 h13 hc hD0
     go_enter Tryz.func14, Tryz.ntmps14
     go_wp2_with (first
      | ((with_reducible refine g_dst 4 ?_); go_must (refine ev_alloc 4 rfl infoD (cs := [.int .i64 0, .int .i64 0, .bool false, .slice none 0 0, .string ⟨#[]⟩, .slice none 0 0, .slice none 0 0]) rfl ?_); intro g4 wn hb B4 hg4; have hs4 := Nat.le_trans hu.size hg4; have hne4 : g4 ≠ g := (fun h => by have := R.lt; omega); clear hg4; replace R := R.below hb; clear C; have C := R.out.cells; replace hu := hu.trans (Upg.of_below hb); clear hb)
      | (go_at_call 21; (with_reducible refine (sees_b R hi2 [40] false f40).mono ?_); rintro e wn ⟨vn, rfl, rfl, hb⟩; replace R := R.below hb; clear C; have C := R.out.cells; replace hu := hu.trans (Upg.of_below hb); replace B4 := B4.below hb; clear hb)
      | (go_at_call 21; (with_reducible refine (sees_b R hi2 [35, 40] true f3540).mono ?_); rintro e wn ⟨vn, rfl, rfl, hb⟩; replace R := R.below hb; clear C; have C := R.out.cells; replace hu := hu.trans (Upg.of_below hb); replace B4 := B4.below hb; clear hb)
      | (go_at_call 23; have hsz := B4.lt; have hsu := hu.size; (with_reducible refine (list_deep R D hDD r Hr.out).mono ?_); rintro e wn ⟨vn, rfl, hq, haf, ⟨y, rfl, hgy, hfy, hey⟩⟩; replace hu := hu.trans hq; replace B4 := blk_upg B4 hq hne4; have hf1 : ∀ b ∈ footD y, w.heap.size ≤ b ∧ b ≠ g4 := (fun b hb => by have := hfy b hb; omega); have Hey := As.mk hey; have Haf := As.mk haf; clear C hq R hfy hey hsz hsu haf; obtain ⟨kind, n, neg, A, c, mag, text, Ai, ci, items, Ar, cr, rest⟩ := y)
      | ((with_reducible refine g_store 4 ?_); go_must (refine ev_store rfl rfl B4 (news := encD (.mk kind n neg A c mag text Ai ci items Ar cr rest)) (by rfl) infoD (by simp [encD]) (by simp [encD, Value.oneCell']) ?_); intro wn ho Bn; simp only [encD, zA, zB, zC, zD, zE, zF, zG, zH] at Bn; replace hu := hu.only_new ho hs4; replace hgy := good_only hgy ho (fun b hb => (hf1 b hb).2); have Haf2 := As.mk (Haf.out.only ho (Ne.symm hne4)); replace B4 := Bn; clear Bn ho))
     refine bodyPost_ret (results_cell_row rfl _ _ g4 35 (encD (.mk kind n neg A c mag text Ai ci items Ar cr rest)).toArray (0, 0) _ rfl B4.h Tryz.underlying35 rfl (by kernel_rfl)) rfl ?_
     exact ⟨_, rfl, hu, Haf2.out, .mk kind n neg A c mag text Ai ci items Ar cr rest, rfl, hgy, fun b hb => (hf1 b hb).1, Hey.out⟩
 · rw [hcl] at hrr
   simp only at hrr
   have Hr : As (r = .error (i, 11)) := ⟨hrr⟩
   clear hrr hr hcl h35 h12 h13 hc hD0
   go_enter Tryz.func14, Tryz.ntmps14
   go_wp2_with (first
    | ((with_reducible refine g_dst 4 ?_); go_must (refine ev_alloc 4 rfl infoD (cs := [.int .i64 0, .int .i64 0, .bool false, .slice none 0 0, .string ⟨#[]⟩, .slice none 0 0, .slice none 0 0]) rfl ?_); intro g4 wn hb B4 hg4; have hs4 := Nat.le_trans hu.size hg4; have hne4 : g4 ≠ g := (fun h => by have := R.lt; omega); clear hg4; replace R := R.below hb; clear C; have C := R.out.cells; replace hu := hu.trans (Upg.of_below hb); clear hb)
    | (go_at_call 21; (with_reducible refine (sees_b R hi2 [40] false f40).mono ?_); rintro e wn ⟨vn, rfl, rfl, hb⟩; replace R := R.below hb; clear C; have C := R.out.cells; replace hu := hu.trans (Upg.of_below hb); replace B4 := B4.below hb; clear hb)
    | (go_at_call 21; (with_reducible refine (sees_b R hi2 [35, 40] false f3540).mono ?_); rintro e wn ⟨vn, rfl, rfl, hb⟩; replace R := R.below hb; clear C; have C := R.out.cells; replace hu := hu.trans (Upg.of_below hb); replace B4 := B4.below hb; clear hb)
    | (go_at_call 21; (with_reducible refine (sees_b R hi2 [41] true f41).mono ?_); rintro e wn ⟨vn, rfl, rfl, hb⟩; replace R := R.below hb; clear C; have C := R.out.cells; replace hu := hu.trans (Upg.of_below hb); replace B4 := B4.below hb; clear hb)
    | (go_at_call 24; (with_reducible refine (fail_ok R (i : Int) 11).mono ?_); rintro e wn ⟨rfl, ho, R2⟩; have hq := Upg.of_only ho; clear C R; have R := R2; clear R2; have C := R.out.cells; replace hu := hu.trans hq; replace B4 := blk_upg B4 hq hne4; clear hq)
    | ((with_reducible refine g_store 4 ?_); go_must (refine ev_store rfl rfl B4 (news := [.int .i64 0, .int .i64 0, .bool false, .slice none 0 0, .string ⟨#[]⟩, .slice none 0 0, .slice none 0 0]) (by rfl) infoD (by simp) (by simp [Value.oneCell']) ?_); intro wn ho Bn; simp only [encD, zA, zB, zC, zD, zE, zF, zG, zH] at Bn; replace hu := hu.only_new ho hs4; have R2 : RB wn g T _ _ _ := ⟨R.out.only ho (Ne.symm hne4)⟩; clear C R; have R := R2; clear R2; have C := R.out.cells; replace B4 := Bn; clear Bn ho))
   refine bodyPost_ret (results_cell_row rfl _ _ g4 35 ([.int .i64 0, .int .i64 0, .bool false, .slice none 0 0, .string ⟨#[]⟩, .slice none 0 0, .slice none 0 0] : List Value).toArray (0, 0) _ rfl B4.h Tryz.underlying35 rfl (by kernel_rfl)) rfl ?_
   exact ⟨_, rfl, hu, by rw [Hr.out]; exact ⟨_, R, by decide⟩, ldZ, rfl, good_z _ _ _ (by decide) (by decide) _, fun b hb => (by rw [ldZ, foot_z] at hb; cases hb), fun x e h => by rw [Hr.out] at h; cases h⟩
 · rw [hcl] at hrr
   simp only at hrr
   have hin : i + 1 ≤ T.size := by omega
   by_cases hd9 : d < 100
   · rw [if_pos hd9] at hrr
     obtain ⟨q, hq, hrr⟩ := hrr
     have Hq : As (Run T.data.toList (.next D (i + 1)) q) := ⟨by rw [hD0]; exact hq⟩
     have Hr : As (r = shortR [113, 117, 111, 116, 101] q) := ⟨by cases q <;> exact hrr⟩
     have hDD : D ≤ 100 := by omega
     have HN := As.mk (IHn.out (i + 1) (by omega))
     clear hrr hr hcl h35 h12 h13 hc hD0 hq
     go_enter Tryz.func14, Tryz.ntmps14
     go_wp2_with (first
      | ((with_reducible refine g_dst 4 ?_); go_must (refine ev_alloc 4 rfl infoD (cs := [.int .i64 0, .int .i64 0, .bool false, .slice none 0 0, .string ⟨#[]⟩, .slice none 0 0, .slice none 0 0]) rfl ?_); intro g4 wn hb B4 hg4; have hs4 := Nat.le_trans hu.size hg4; have hne4 : g4 ≠ g := (fun h => by have := R.lt; omega); clear hg4; replace R := R.below hb; clear C; have C := R.out.cells; replace hu := hu.trans (Upg.of_below hb); clear hb)
      | (go_at_call 21; (with_reducible refine (sees_b R hi2 [40] false f40).mono ?_); rintro e wn ⟨vn, rfl, rfl, hb⟩; replace R := R.below hb; clear C; have C := R.out.cells; replace hu := hu.trans (Upg.of_below hb); replace B4 := B4.below hb; clear hb)
      | (go_at_call 21; (with_reducible refine (sees_b R hi2 [35, 40] false f3540).mono ?_); rintro e wn ⟨vn, rfl, rfl, hb⟩; replace R := R.below hb; clear C; have C := R.out.cells; replace hu := hu.trans (Upg.of_below hb); replace B4 := B4.below hb; clear hb)
      | (go_at_call 21; (with_reducible refine (sees_b R hi2 [41] false f41).mono ?_); rintro e wn ⟨vn, rfl, rfl, hb⟩; replace R := R.below hb; clear C; have C := R.out.cells; replace hu := hu.trans (Upg.of_below hb); replace B4 := B4.below hb; clear hb)
      | (go_at_call 21; (with_reducible refine (sees_b R hi2 [39] true f39).mono ?_); rintro e wn ⟨vn, rfl, rfl, hb⟩; replace R := R.below hb; clear C; have C := R.out.cells; replace hu := hu.trans (Upg.of_below hb); replace B4 := B4.below hb; clear hb)
      | (go_at_call 25; have hsz := B4.lt; have hsu := hu.size; (with_reducible refine (short_any R hT hin hDD ⟨#[39]⟩ rfl [113, 117, 111, 116, 101] HN.out q r Hq.out Hr.out).mono ?_); rintro e wn ⟨vn, rfl, hq, haf, ⟨y, rfl, hgy, hfy, hey⟩⟩; replace hu := hu.trans hq; replace B4 := blk_upg B4 hq hne4; have hf1 : ∀ b ∈ footD y, w.heap.size ≤ b ∧ b ≠ g4 := (fun b hb => by have := hfy b hb; omega); have Hey := As.mk hey; have Haf := As.mk haf; clear C hq R hfy hey hsz hsu haf; obtain ⟨kind, n, neg, A, c, mag, text, Ai, ci, items, Ar, cr, rest⟩ := y)
      | ((with_reducible refine g_store 4 ?_); go_must (refine ev_store rfl rfl B4 (news := encD (.mk kind n neg A c mag text Ai ci items Ar cr rest)) (by rfl) infoD (by simp [encD]) (by simp [encD, Value.oneCell']) ?_); intro wn ho Bn; simp only [encD, zA, zB, zC, zD, zE, zF, zG, zH] at Bn; replace hu := hu.only_new ho hs4; replace hgy := good_only hgy ho (fun b hb => (hf1 b hb).2); have Haf2 := As.mk (Haf.out.only ho (Ne.symm hne4)); replace B4 := Bn; clear Bn ho))
     refine bodyPost_ret (results_cell_row rfl _ _ g4 35 (encD (.mk kind n neg A c mag text Ai ci items Ar cr rest)).toArray (0, 0) _ rfl B4.h Tryz.underlying35 rfl (by kernel_rfl)) rfl ?_
     exact ⟨_, rfl, hu, Haf2.out, .mk kind n neg A c mag text Ai ci items Ar cr rest, rfl, hgy, fun b hb => (hf1 b hb).1, Hey.out⟩
   · rw [if_neg hd9] at hrr
     have Hr := As.mk hrr
     have hDD : 100 < D := by omega
     clear hrr hr hcl h35 h12 h13 hc hD0
     go_enter Tryz.func14, Tryz.ntmps14
     go_wp2_with (first
      | ((with_reducible refine g_dst 4 ?_); go_must (refine ev_alloc 4 rfl infoD (cs := [.int .i64 0, .int .i64 0, .bool false, .slice none 0 0, .string ⟨#[]⟩, .slice none 0 0, .slice none 0 0]) rfl ?_); intro g4 wn hb B4 hg4; have hs4 := Nat.le_trans hu.size hg4; have hne4 : g4 ≠ g := (fun h => by have := R.lt; omega); clear hg4; replace R := R.below hb; clear C; have C := R.out.cells; replace hu := hu.trans (Upg.of_below hb); clear hb)
      | (go_at_call 21; (with_reducible refine (sees_b R hi2 [40] false f40).mono ?_); rintro e wn ⟨vn, rfl, rfl, hb⟩; replace R := R.below hb; clear C; have C := R.out.cells; replace hu := hu.trans (Upg.of_below hb); replace B4 := B4.below hb; clear hb)
      | (go_at_call 21; (with_reducible refine (sees_b R hi2 [35, 40] false f3540).mono ?_); rintro e wn ⟨vn, rfl, rfl, hb⟩; replace R := R.below hb; clear C; have C := R.out.cells; replace hu := hu.trans (Upg.of_below hb); replace B4 := B4.below hb; clear hb)
      | (go_at_call 21; (with_reducible refine (sees_b R hi2 [41] false f41).mono ?_); rintro e wn ⟨vn, rfl, rfl, hb⟩; replace R := R.below hb; clear C; have C := R.out.cells; replace hu := hu.trans (Upg.of_below hb); replace B4 := B4.below hb; clear hb)
      | (go_at_call 21; (with_reducible refine (sees_b R hi2 [39] true f39).mono ?_); rintro e wn ⟨vn, rfl, rfl, hb⟩; replace R := R.below hb; clear C; have C := R.out.cells; replace hu := hu.trans (Upg.of_below hb); replace B4 := B4.below hb; clear hb)
      | (go_at_call 25; have hsz := B4.lt; have hsu := hu.size; (with_reducible refine (short_deep R D hDD ⟨#[39]⟩ [113, 117, 111, 116, 101] r Hr.out).mono ?_); rintro e wn ⟨vn, rfl, hq, haf, ⟨y, rfl, hgy, hfy, hey⟩⟩; replace hu := hu.trans hq; replace B4 := blk_upg B4 hq hne4; have hf1 : ∀ b ∈ footD y, w.heap.size ≤ b ∧ b ≠ g4 := (fun b hb => by have := hfy b hb; omega); have Hey := As.mk hey; have Haf := As.mk haf; clear C hq R hfy hey hsz hsu haf; obtain ⟨kind, n, neg, A, c, mag, text, Ai, ci, items, Ar, cr, rest⟩ := y)
      | ((with_reducible refine g_store 4 ?_); go_must (refine ev_store rfl rfl B4 (news := encD (.mk kind n neg A c mag text Ai ci items Ar cr rest)) (by rfl) infoD (by simp [encD]) (by simp [encD, Value.oneCell']) ?_); intro wn ho Bn; simp only [encD, zA, zB, zC, zD, zE, zF, zG, zH] at Bn; replace hu := hu.only_new ho hs4; replace hgy := good_only hgy ho (fun b hb => (hf1 b hb).2); have Haf2 := As.mk (Haf.out.only ho (Ne.symm hne4)); replace B4 := Bn; clear Bn ho))
     refine bodyPost_ret (results_cell_row rfl _ _ g4 35 (encD (.mk kind n neg A c mag text Ai ci items Ar cr rest)).toArray (0, 0) _ rfl B4.h Tryz.underlying35 rfl (by kernel_rfl)) rfl ?_
     exact ⟨_, rfl, hu, Haf2.out, .mk kind n neg A c mag text Ai ci items Ar cr rest, rfl, hgy, fun b hb => (hf1 b hb).1, Hey.out⟩
 · rw [hcl] at hrr
   simp only at hrr
   have hin : i + 1 ≤ T.size := by omega
   by_cases hd9 : d < 100
   · rw [if_pos hd9] at hrr
     obtain ⟨q, hq, hrr⟩ := hrr
     have Hq : As (Run T.data.toList (.next D (i + 1)) q) := ⟨by rw [hD0]; exact hq⟩
     have Hr : As (r = shortR [113, 117, 97, 115, 105, 113, 117, 111, 116, 101] q) := ⟨by cases q <;> exact hrr⟩
     have hDD : D ≤ 100 := by omega
     have HN := As.mk (IHn.out (i + 1) (by omega))
     clear hrr hr hcl h35 h12 h13 hc hD0 hq
     go_enter Tryz.func14, Tryz.ntmps14
     go_wp2_with (first
      | ((with_reducible refine g_dst 4 ?_); go_must (refine ev_alloc 4 rfl infoD (cs := [.int .i64 0, .int .i64 0, .bool false, .slice none 0 0, .string ⟨#[]⟩, .slice none 0 0, .slice none 0 0]) rfl ?_); intro g4 wn hb B4 hg4; have hs4 := Nat.le_trans hu.size hg4; have hne4 : g4 ≠ g := (fun h => by have := R.lt; omega); clear hg4; replace R := R.below hb; clear C; have C := R.out.cells; replace hu := hu.trans (Upg.of_below hb); clear hb)
      | (go_at_call 21; (with_reducible refine (sees_b R hi2 [40] false f40).mono ?_); rintro e wn ⟨vn, rfl, rfl, hb⟩; replace R := R.below hb; clear C; have C := R.out.cells; replace hu := hu.trans (Upg.of_below hb); replace B4 := B4.below hb; clear hb)
      | (go_at_call 21; (with_reducible refine (sees_b R hi2 [35, 40] false f3540).mono ?_); rintro e wn ⟨vn, rfl, rfl, hb⟩; replace R := R.below hb; clear C; have C := R.out.cells; replace hu := hu.trans (Upg.of_below hb); replace B4 := B4.below hb; clear hb)
      | (go_at_call 21; (with_reducible refine (sees_b R hi2 [41] false f41).mono ?_); rintro e wn ⟨vn, rfl, rfl, hb⟩; replace R := R.below hb; clear C; have C := R.out.cells; replace hu := hu.trans (Upg.of_below hb); replace B4 := B4.below hb; clear hb)
      | (go_at_call 21; (with_reducible refine (sees_b R hi2 [39] false f39).mono ?_); rintro e wn ⟨vn, rfl, rfl, hb⟩; replace R := R.below hb; clear C; have C := R.out.cells; replace hu := hu.trans (Upg.of_below hb); replace B4 := B4.below hb; clear hb)
      | (go_at_call 21; (with_reducible refine (sees_b R hi2 [96] true f96).mono ?_); rintro e wn ⟨vn, rfl, rfl, hb⟩; replace R := R.below hb; clear C; have C := R.out.cells; replace hu := hu.trans (Upg.of_below hb); replace B4 := B4.below hb; clear hb)
      | (go_at_call 25; have hsz := B4.lt; have hsu := hu.size; (with_reducible refine (short_any R hT hin hDD ⟨#[96]⟩ rfl [113, 117, 97, 115, 105, 113, 117, 111, 116, 101] HN.out q r Hq.out Hr.out).mono ?_); rintro e wn ⟨vn, rfl, hq, haf, ⟨y, rfl, hgy, hfy, hey⟩⟩; replace hu := hu.trans hq; replace B4 := blk_upg B4 hq hne4; have hf1 : ∀ b ∈ footD y, w.heap.size ≤ b ∧ b ≠ g4 := (fun b hb => by have := hfy b hb; omega); have Hey := As.mk hey; have Haf := As.mk haf; clear C hq R hfy hey hsz hsu haf; obtain ⟨kind, n, neg, A, c, mag, text, Ai, ci, items, Ar, cr, rest⟩ := y)
      | ((with_reducible refine g_store 4 ?_); go_must (refine ev_store rfl rfl B4 (news := encD (.mk kind n neg A c mag text Ai ci items Ar cr rest)) (by rfl) infoD (by simp [encD]) (by simp [encD, Value.oneCell']) ?_); intro wn ho Bn; simp only [encD, zA, zB, zC, zD, zE, zF, zG, zH] at Bn; replace hu := hu.only_new ho hs4; replace hgy := good_only hgy ho (fun b hb => (hf1 b hb).2); have Haf2 := As.mk (Haf.out.only ho (Ne.symm hne4)); replace B4 := Bn; clear Bn ho))
     refine bodyPost_ret (results_cell_row rfl _ _ g4 35 (encD (.mk kind n neg A c mag text Ai ci items Ar cr rest)).toArray (0, 0) _ rfl B4.h Tryz.underlying35 rfl (by kernel_rfl)) rfl ?_
     exact ⟨_, rfl, hu, Haf2.out, .mk kind n neg A c mag text Ai ci items Ar cr rest, rfl, hgy, fun b hb => (hf1 b hb).1, Hey.out⟩
   · rw [if_neg hd9] at hrr
     have Hr := As.mk hrr
     have hDD : 100 < D := by omega
     clear hrr hr hcl h35 h12 h13 hc hD0
     go_enter Tryz.func14, Tryz.ntmps14
     go_wp2_with (first
      | ((with_reducible refine g_dst 4 ?_); go_must (refine ev_alloc 4 rfl infoD (cs := [.int .i64 0, .int .i64 0, .bool false, .slice none 0 0, .string ⟨#[]⟩, .slice none 0 0, .slice none 0 0]) rfl ?_); intro g4 wn hb B4 hg4; have hs4 := Nat.le_trans hu.size hg4; have hne4 : g4 ≠ g := (fun h => by have := R.lt; omega); clear hg4; replace R := R.below hb; clear C; have C := R.out.cells; replace hu := hu.trans (Upg.of_below hb); clear hb)
      | (go_at_call 21; (with_reducible refine (sees_b R hi2 [40] false f40).mono ?_); rintro e wn ⟨vn, rfl, rfl, hb⟩; replace R := R.below hb; clear C; have C := R.out.cells; replace hu := hu.trans (Upg.of_below hb); replace B4 := B4.below hb; clear hb)
      | (go_at_call 21; (with_reducible refine (sees_b R hi2 [35, 40] false f3540).mono ?_); rintro e wn ⟨vn, rfl, rfl, hb⟩; replace R := R.below hb; clear C; have C := R.out.cells; replace hu := hu.trans (Upg.of_below hb); replace B4 := B4.below hb; clear hb)
      | (go_at_call 21; (with_reducible refine (sees_b R hi2 [41] false f41).mono ?_); rintro e wn ⟨vn, rfl, rfl, hb⟩; replace R := R.below hb; clear C; have C := R.out.cells; replace hu := hu.trans (Upg.of_below hb); replace B4 := B4.below hb; clear hb)
      | (go_at_call 21; (with_reducible refine (sees_b R hi2 [39] false f39).mono ?_); rintro e wn ⟨vn, rfl, rfl, hb⟩; replace R := R.below hb; clear C; have C := R.out.cells; replace hu := hu.trans (Upg.of_below hb); replace B4 := B4.below hb; clear hb)
      | (go_at_call 21; (with_reducible refine (sees_b R hi2 [96] true f96).mono ?_); rintro e wn ⟨vn, rfl, rfl, hb⟩; replace R := R.below hb; clear C; have C := R.out.cells; replace hu := hu.trans (Upg.of_below hb); replace B4 := B4.below hb; clear hb)
      | (go_at_call 25; have hsz := B4.lt; have hsu := hu.size; (with_reducible refine (short_deep R D hDD ⟨#[96]⟩ [113, 117, 97, 115, 105, 113, 117, 111, 116, 101] r Hr.out).mono ?_); rintro e wn ⟨vn, rfl, hq, haf, ⟨y, rfl, hgy, hfy, hey⟩⟩; replace hu := hu.trans hq; replace B4 := blk_upg B4 hq hne4; have hf1 : ∀ b ∈ footD y, w.heap.size ≤ b ∧ b ≠ g4 := (fun b hb => by have := hfy b hb; omega); have Hey := As.mk hey; have Haf := As.mk haf; clear C hq R hfy hey hsz hsu haf; obtain ⟨kind, n, neg, A, c, mag, text, Ai, ci, items, Ar, cr, rest⟩ := y)
      | ((with_reducible refine g_store 4 ?_); go_must (refine ev_store rfl rfl B4 (news := encD (.mk kind n neg A c mag text Ai ci items Ar cr rest)) (by rfl) infoD (by simp [encD]) (by simp [encD, Value.oneCell']) ?_); intro wn ho Bn; simp only [encD, zA, zB, zC, zD, zE, zF, zG, zH] at Bn; replace hu := hu.only_new ho hs4; replace hgy := good_only hgy ho (fun b hb => (hf1 b hb).2); have Haf2 := As.mk (Haf.out.only ho (Ne.symm hne4)); replace B4 := Bn; clear Bn ho))
     refine bodyPost_ret (results_cell_row rfl _ _ g4 35 (encD (.mk kind n neg A c mag text Ai ci items Ar cr rest)).toArray (0, 0) _ rfl B4.h Tryz.underlying35 rfl (by kernel_rfl)) rfl ?_
     exact ⟨_, rfl, hu, Haf2.out, .mk kind n neg A c mag text Ai ci items Ar cr rest, rfl, hgy, fun b hb => (hf1 b hb).1, Hey.out⟩
 · rw [hcl] at hrr
   simp only at hrr
   have hin : i + 2 ≤ T.size := by
    have := f4464
    rw [pre2_iff2 hc] at this
    exact h13 (of_decide_eq_true this).2
   by_cases hd9 : d < 100
   · rw [if_pos hd9] at hrr
     obtain ⟨q, hq, hrr⟩ := hrr
     have Hq : As (Run T.data.toList (.next D (i + 2)) q) := ⟨by rw [hD0]; exact hq⟩
     have Hr : As (r = shortR [117, 110, 113, 117, 111, 116, 101, 45, 115, 112, 108, 105, 99, 105, 110, 103] q) := ⟨by cases q <;> exact hrr⟩
     have hDD : D ≤ 100 := by omega
     have HN := As.mk (IHn.out (i + 2) (by omega))
     clear hrr hr hcl h35 h12 h13 hc hD0 hq
     go_enter Tryz.func14, Tryz.ntmps14
     go_wp2_with (first
      | ((with_reducible refine g_dst 4 ?_); go_must (refine ev_alloc 4 rfl infoD (cs := [.int .i64 0, .int .i64 0, .bool false, .slice none 0 0, .string ⟨#[]⟩, .slice none 0 0, .slice none 0 0]) rfl ?_); intro g4 wn hb B4 hg4; have hs4 := Nat.le_trans hu.size hg4; have hne4 : g4 ≠ g := (fun h => by have := R.lt; omega); clear hg4; replace R := R.below hb; clear C; have C := R.out.cells; replace hu := hu.trans (Upg.of_below hb); clear hb)
      | (go_at_call 21; (with_reducible refine (sees_b R hi2 [40] false f40).mono ?_); rintro e wn ⟨vn, rfl, rfl, hb⟩; replace R := R.below hb; clear C; have C := R.out.cells; replace hu := hu.trans (Upg.of_below hb); replace B4 := B4.below hb; clear hb)
      | (go_at_call 21; (with_reducible refine (sees_b R hi2 [35, 40] false f3540).mono ?_); rintro e wn ⟨vn, rfl, rfl, hb⟩; replace R := R.below hb; clear C; have C := R.out.cells; replace hu := hu.trans (Upg.of_below hb); replace B4 := B4.below hb; clear hb)
      | (go_at_call 21; (with_reducible refine (sees_b R hi2 [41] false f41).mono ?_); rintro e wn ⟨vn, rfl, rfl, hb⟩; replace R := R.below hb; clear C; have C := R.out.cells; replace hu := hu.trans (Upg.of_below hb); replace B4 := B4.below hb; clear hb)
      | (go_at_call 21; (with_reducible refine (sees_b R hi2 [39] false f39).mono ?_); rintro e wn ⟨vn, rfl, rfl, hb⟩; replace R := R.below hb; clear C; have C := R.out.cells; replace hu := hu.trans (Upg.of_below hb); replace B4 := B4.below hb; clear hb)
      | (go_at_call 21; (with_reducible refine (sees_b R hi2 [96] false f96).mono ?_); rintro e wn ⟨vn, rfl, rfl, hb⟩; replace R := R.below hb; clear C; have C := R.out.cells; replace hu := hu.trans (Upg.of_below hb); replace B4 := B4.below hb; clear hb)
      | (go_at_call 21; (with_reducible refine (sees_b R hi2 [44, 64] true f4464).mono ?_); rintro e wn ⟨vn, rfl, rfl, hb⟩; replace R := R.below hb; clear C; have C := R.out.cells; replace hu := hu.trans (Upg.of_below hb); replace B4 := B4.below hb; clear hb)
      | (go_at_call 25; have hsz := B4.lt; have hsu := hu.size; (with_reducible refine (short_any R hT hin hDD ⟨#[44, 64]⟩ rfl [117, 110, 113, 117, 111, 116, 101, 45, 115, 112, 108, 105, 99, 105, 110, 103] HN.out q r Hq.out Hr.out).mono ?_); rintro e wn ⟨vn, rfl, hq, haf, ⟨y, rfl, hgy, hfy, hey⟩⟩; replace hu := hu.trans hq; replace B4 := blk_upg B4 hq hne4; have hf1 : ∀ b ∈ footD y, w.heap.size ≤ b ∧ b ≠ g4 := (fun b hb => by have := hfy b hb; omega); have Hey := As.mk hey; have Haf := As.mk haf; clear C hq R hfy hey hsz hsu haf; obtain ⟨kind, n, neg, A, c, mag, text, Ai, ci, items, Ar, cr, rest⟩ := y)
      | ((with_reducible refine g_store 4 ?_); go_must (refine ev_store rfl rfl B4 (news := encD (.mk kind n neg A c mag text Ai ci items Ar cr rest)) (by rfl) infoD (by simp [encD]) (by simp [encD, Value.oneCell']) ?_); intro wn ho Bn; simp only [encD, zA, zB, zC, zD, zE, zF, zG, zH] at Bn; replace hu := hu.only_new ho hs4; replace hgy := good_only hgy ho (fun b hb => (hf1 b hb).2); have Haf2 := As.mk (Haf.out.only ho (Ne.symm hne4)); replace B4 := Bn; clear Bn ho))
     refine bodyPost_ret (results_cell_row rfl _ _ g4 35 (encD (.mk kind n neg A c mag text Ai ci items Ar cr rest)).toArray (0, 0) _ rfl B4.h Tryz.underlying35 rfl (by kernel_rfl)) rfl ?_
     exact ⟨_, rfl, hu, Haf2.out, .mk kind n neg A c mag text Ai ci items Ar cr rest, rfl, hgy, fun b hb => (hf1 b hb).1, Hey.out⟩
   · rw [if_neg hd9] at hrr
     have Hr := As.mk hrr
     have hDD : 100 < D := by omega
     clear hrr hr hcl h35 h12 h13 hc hD0
     go_enter Tryz.func14, Tryz.ntmps14
     go_wp2_with (first
      | ((with_reducible refine g_dst 4 ?_); go_must (refine ev_alloc 4 rfl infoD (cs := [.int .i64 0, .int .i64 0, .bool false, .slice none 0 0, .string ⟨#[]⟩, .slice none 0 0, .slice none 0 0]) rfl ?_); intro g4 wn hb B4 hg4; have hs4 := Nat.le_trans hu.size hg4; have hne4 : g4 ≠ g := (fun h => by have := R.lt; omega); clear hg4; replace R := R.below hb; clear C; have C := R.out.cells; replace hu := hu.trans (Upg.of_below hb); clear hb)
      | (go_at_call 21; (with_reducible refine (sees_b R hi2 [40] false f40).mono ?_); rintro e wn ⟨vn, rfl, rfl, hb⟩; replace R := R.below hb; clear C; have C := R.out.cells; replace hu := hu.trans (Upg.of_below hb); replace B4 := B4.below hb; clear hb)
      | (go_at_call 21; (with_reducible refine (sees_b R hi2 [35, 40] false f3540).mono ?_); rintro e wn ⟨vn, rfl, rfl, hb⟩; replace R := R.below hb; clear C; have C := R.out.cells; replace hu := hu.trans (Upg.of_below hb); replace B4 := B4.below hb; clear hb)
      | (go_at_call 21; (with_reducible refine (sees_b R hi2 [41] false f41).mono ?_); rintro e wn ⟨vn, rfl, rfl, hb⟩; replace R := R.below hb; clear C; have C := R.out.cells; replace hu := hu.trans (Upg.of_below hb); replace B4 := B4.below hb; clear hb)
      | (go_at_call 21; (with_reducible refine (sees_b R hi2 [39] false f39).mono ?_); rintro e wn ⟨vn, rfl, rfl, hb⟩; replace R := R.below hb; clear C; have C := R.out.cells; replace hu := hu.trans (Upg.of_below hb); replace B4 := B4.below hb; clear hb)
      | (go_at_call 21; (with_reducible refine (sees_b R hi2 [96] false f96).mono ?_); rintro e wn ⟨vn, rfl, rfl, hb⟩; replace R := R.below hb; clear C; have C := R.out.cells; replace hu := hu.trans (Upg.of_below hb); replace B4 := B4.below hb; clear hb)
      | (go_at_call 21; (with_reducible refine (sees_b R hi2 [44, 64] true f4464).mono ?_); rintro e wn ⟨vn, rfl, rfl, hb⟩; replace R := R.below hb; clear C; have C := R.out.cells; replace hu := hu.trans (Upg.of_below hb); replace B4 := B4.below hb; clear hb)
      | (go_at_call 25; have hsz := B4.lt; have hsu := hu.size; (with_reducible refine (short_deep R D hDD ⟨#[44, 64]⟩ [117, 110, 113, 117, 111, 116, 101, 45, 115, 112, 108, 105, 99, 105, 110, 103] r Hr.out).mono ?_); rintro e wn ⟨vn, rfl, hq, haf, ⟨y, rfl, hgy, hfy, hey⟩⟩; replace hu := hu.trans hq; replace B4 := blk_upg B4 hq hne4; have hf1 : ∀ b ∈ footD y, w.heap.size ≤ b ∧ b ≠ g4 := (fun b hb => by have := hfy b hb; omega); have Hey := As.mk hey; have Haf := As.mk haf; clear C hq R hfy hey hsz hsu haf; obtain ⟨kind, n, neg, A, c, mag, text, Ai, ci, items, Ar, cr, rest⟩ := y)
      | ((with_reducible refine g_store 4 ?_); go_must (refine ev_store rfl rfl B4 (news := encD (.mk kind n neg A c mag text Ai ci items Ar cr rest)) (by rfl) infoD (by simp [encD]) (by simp [encD, Value.oneCell']) ?_); intro wn ho Bn; simp only [encD, zA, zB, zC, zD, zE, zF, zG, zH] at Bn; replace hu := hu.only_new ho hs4; replace hgy := good_only hgy ho (fun b hb => (hf1 b hb).2); have Haf2 := As.mk (Haf.out.only ho (Ne.symm hne4)); replace B4 := Bn; clear Bn ho))
     refine bodyPost_ret (results_cell_row rfl _ _ g4 35 (encD (.mk kind n neg A c mag text Ai ci items Ar cr rest)).toArray (0, 0) _ rfl B4.h Tryz.underlying35 rfl (by kernel_rfl)) rfl ?_
     exact ⟨_, rfl, hu, Haf2.out, .mk kind n neg A c mag text Ai ci items Ar cr rest, rfl, hgy, fun b hb => (hf1 b hb).1, Hey.out⟩
 · rw [hcl] at hrr
   simp only at hrr
   have hin : i + 1 ≤ T.size := by omega
   by_cases hd9 : d < 100
   · rw [if_pos hd9] at hrr
     obtain ⟨q, hq, hrr⟩ := hrr
     have Hq : As (Run T.data.toList (.next D (i + 1)) q) := ⟨by rw [hD0]; exact hq⟩
     have Hr : As (r = shortR [117, 110, 113, 117, 111, 116, 101] q) := ⟨by cases q <;> exact hrr⟩
     have hDD : D ≤ 100 := by omega
     have HN := As.mk (IHn.out (i + 1) (by omega))
     clear hrr hr hcl h35 h12 h13 hc hD0 hq
     go_enter Tryz.func14, Tryz.ntmps14
     go_wp2_with (first
      | ((with_reducible refine g_dst 4 ?_); go_must (refine ev_alloc 4 rfl infoD (cs := [.int .i64 0, .int .i64 0, .bool false, .slice none 0 0, .string ⟨#[]⟩, .slice none 0 0, .slice none 0 0]) rfl ?_); intro g4 wn hb B4 hg4; have hs4 := Nat.le_trans hu.size hg4; have hne4 : g4 ≠ g := (fun h => by have := R.lt; omega); clear hg4; replace R := R.below hb; clear C; have C := R.out.cells; replace hu := hu.trans (Upg.of_below hb); clear hb)
      | (go_at_call 21; (with_reducible refine (sees_b R hi2 [40] false f40).mono ?_); rintro e wn ⟨vn, rfl, rfl, hb⟩; replace R := R.below hb; clear C; have C := R.out.cells; replace hu := hu.trans (Upg.of_below hb); replace B4 := B4.below hb; clear hb)
      | (go_at_call 21; (with_reducible refine (sees_b R hi2 [35, 40] false f3540).mono ?_); rintro e wn ⟨vn, rfl, rfl, hb⟩; replace R := R.below hb; clear C; have C := R.out.cells; replace hu := hu.trans (Upg.of_below hb); replace B4 := B4.below hb; clear hb)
      | (go_at_call 21; (with_reducible refine (sees_b R hi2 [41] false f41).mono ?_); rintro e wn ⟨vn, rfl, rfl, hb⟩; replace R := R.below hb; clear C; have C := R.out.cells; replace hu := hu.trans (Upg.of_below hb); replace B4 := B4.below hb; clear hb)
      | (go_at_call 21; (with_reducible refine (sees_b R hi2 [39] false f39).mono ?_); rintro e wn ⟨vn, rfl, rfl, hb⟩; replace R := R.below hb; clear C; have C := R.out.cells; replace hu := hu.trans (Upg.of_below hb); replace B4 := B4.below hb; clear hb)
      | (go_at_call 21; (with_reducible refine (sees_b R hi2 [96] false f96).mono ?_); rintro e wn ⟨vn, rfl, rfl, hb⟩; replace R := R.below hb; clear C; have C := R.out.cells; replace hu := hu.trans (Upg.of_below hb); replace B4 := B4.below hb; clear hb)
      | (go_at_call 21; (with_reducible refine (sees_b R hi2 [44, 64] false f4464).mono ?_); rintro e wn ⟨vn, rfl, rfl, hb⟩; replace R := R.below hb; clear C; have C := R.out.cells; replace hu := hu.trans (Upg.of_below hb); replace B4 := B4.below hb; clear hb)
      | (go_at_call 21; (with_reducible refine (sees_b R hi2 [44] true f44).mono ?_); rintro e wn ⟨vn, rfl, rfl, hb⟩; replace R := R.below hb; clear C; have C := R.out.cells; replace hu := hu.trans (Upg.of_below hb); replace B4 := B4.below hb; clear hb)
      | (go_at_call 25; have hsz := B4.lt; have hsu := hu.size; (with_reducible refine (short_any R hT hin hDD ⟨#[44]⟩ rfl [117, 110, 113, 117, 111, 116, 101] HN.out q r Hq.out Hr.out).mono ?_); rintro e wn ⟨vn, rfl, hq, haf, ⟨y, rfl, hgy, hfy, hey⟩⟩; replace hu := hu.trans hq; replace B4 := blk_upg B4 hq hne4; have hf1 : ∀ b ∈ footD y, w.heap.size ≤ b ∧ b ≠ g4 := (fun b hb => by have := hfy b hb; omega); have Hey := As.mk hey; have Haf := As.mk haf; clear C hq R hfy hey hsz hsu haf; obtain ⟨kind, n, neg, A, c, mag, text, Ai, ci, items, Ar, cr, rest⟩ := y)
      | ((with_reducible refine g_store 4 ?_); go_must (refine ev_store rfl rfl B4 (news := encD (.mk kind n neg A c mag text Ai ci items Ar cr rest)) (by rfl) infoD (by simp [encD]) (by simp [encD, Value.oneCell']) ?_); intro wn ho Bn; simp only [encD, zA, zB, zC, zD, zE, zF, zG, zH] at Bn; replace hu := hu.only_new ho hs4; replace hgy := good_only hgy ho (fun b hb => (hf1 b hb).2); have Haf2 := As.mk (Haf.out.only ho (Ne.symm hne4)); replace B4 := Bn; clear Bn ho))
     refine bodyPost_ret (results_cell_row rfl _ _ g4 35 (encD (.mk kind n neg A c mag text Ai ci items Ar cr rest)).toArray (0, 0) _ rfl B4.h Tryz.underlying35 rfl (by kernel_rfl)) rfl ?_
     exact ⟨_, rfl, hu, Haf2.out, .mk kind n neg A c mag text Ai ci items Ar cr rest, rfl, hgy, fun b hb => (hf1 b hb).1, Hey.out⟩
   · rw [if_neg hd9] at hrr
     have Hr := As.mk hrr
     have hDD : 100 < D := by omega
     clear hrr hr hcl h35 h12 h13 hc hD0
     go_enter Tryz.func14, Tryz.ntmps14
     go_wp2_with (first
      | ((with_reducible refine g_dst 4 ?_); go_must (refine ev_alloc 4 rfl infoD (cs := [.int .i64 0, .int .i64 0, .bool false, .slice none 0 0, .string ⟨#[]⟩, .slice none 0 0, .slice none 0 0]) rfl ?_); intro g4 wn hb B4 hg4; have hs4 := Nat.le_trans hu.size hg4; have hne4 : g4 ≠ g := (fun h => by have := R.lt; omega); clear hg4; replace R := R.below hb; clear C; have C := R.out.cells; replace hu := hu.trans (Upg.of_below hb); clear hb)
      | (go_at_call 21; (with_reducible refine (sees_b R hi2 [40] false f40).mono ?_); rintro e wn ⟨vn, rfl, rfl, hb⟩; replace R := R.below hb; clear C; have C := R.out.cells; replace hu := hu.trans (Upg.of_below hb); replace B4 := B4.below hb; clear hb)
      | (go_at_call 21; (with_reducible refine (sees_b R hi2 [35, 40] false f3540).mono ?_); rintro e wn ⟨vn, rfl, rfl, hb⟩; replace R := R.below hb; clear C; have C := R.out.cells; replace hu := hu.trans (Upg.of_below hb); replace B4 := B4.below hb; clear hb)
      | (go_at_call 21; (with_reducible refine (sees_b R hi2 [41] false f41).mono ?_); rintro e wn ⟨vn, rfl, rfl, hb⟩; replace R := R.below hb; clear C; have C := R.out.cells; replace hu := hu.trans (Upg.of_below hb); replace B4 := B4.below hb; clear hb)
      | (go_at_call 21; (with_reducible refine (sees_b R hi2 [39] false f39).mono ?_); rintro e wn ⟨vn, rfl, rfl, hb⟩; replace R := R.below hb; clear C; have C := R.out.cells; replace hu := hu.trans (Upg.of_below hb); replace B4 := B4.below hb; clear hb)
      | (go_at_call 21; (with_reducible refine (sees_b R hi2 [96] false f96).mono ?_); rintro e wn ⟨vn, rfl, rfl, hb⟩; replace R := R.below hb; clear C; have C := R.out.cells; replace hu := hu.trans (Upg.of_below hb); replace B4 := B4.below hb; clear hb)
      | (go_at_call 21; (with_reducible refine (sees_b R hi2 [44, 64] false f4464).mono ?_); rintro e wn ⟨vn, rfl, rfl, hb⟩; replace R := R.below hb; clear C; have C := R.out.cells; replace hu := hu.trans (Upg.of_below hb); replace B4 := B4.below hb; clear hb)
      | (go_at_call 21; (with_reducible refine (sees_b R hi2 [44] true f44).mono ?_); rintro e wn ⟨vn, rfl, rfl, hb⟩; replace R := R.below hb; clear C; have C := R.out.cells; replace hu := hu.trans (Upg.of_below hb); replace B4 := B4.below hb; clear hb)
      | (go_at_call 25; have hsz := B4.lt; have hsu := hu.size; (with_reducible refine (short_deep R D hDD ⟨#[44]⟩ [117, 110, 113, 117, 111, 116, 101] r Hr.out).mono ?_); rintro e wn ⟨vn, rfl, hq, haf, ⟨y, rfl, hgy, hfy, hey⟩⟩; replace hu := hu.trans hq; replace B4 := blk_upg B4 hq hne4; have hf1 : ∀ b ∈ footD y, w.heap.size ≤ b ∧ b ≠ g4 := (fun b hb => by have := hfy b hb; omega); have Hey := As.mk hey; have Haf := As.mk haf; clear C hq R hfy hey hsz hsu haf; obtain ⟨kind, n, neg, A, c, mag, text, Ai, ci, items, Ar, cr, rest⟩ := y)
      | ((with_reducible refine g_store 4 ?_); go_must (refine ev_store rfl rfl B4 (news := encD (.mk kind n neg A c mag text Ai ci items Ar cr rest)) (by rfl) infoD (by simp [encD]) (by simp [encD, Value.oneCell']) ?_); intro wn ho Bn; simp only [encD, zA, zB, zC, zD, zE, zF, zG, zH] at Bn; replace hu := hu.only_new ho hs4; replace hgy := good_only hgy ho (fun b hb => (hf1 b hb).2); have Haf2 := As.mk (Haf.out.only ho (Ne.symm hne4)); replace B4 := Bn; clear Bn ho))
     refine bodyPost_ret (results_cell_row rfl _ _ g4 35 (encD (.mk kind n neg A c mag text Ai ci items Ar cr rest)).toArray (0, 0) _ rfl B4.h Tryz.underlying35 rfl (by kernel_rfl)) rfl ?_
     exact ⟨_, rfl, hu, Haf2.out, .mk kind n neg A c mag text Ai ci items Ar cr rest, rfl, hgy, fun b hb => (hf1 b hb).1, Hey.out⟩
 · rw [hcl] at hrr
   simp only at hrr
   have Hr := As.mk hrr
   clear hrr hr hcl h35 h12 h13 hc hD0
   go_enter Tryz.func14, Tryz.ntmps14
   go_wp2_with (first
    | ((with_reducible refine g_dst 4 ?_); go_must (refine ev_alloc 4 rfl infoD (cs := [.int .i64 0, .int .i64 0, .bool false, .slice none 0 0, .string ⟨#[]⟩, .slice none 0 0, .slice none 0 0]) rfl ?_); intro g4 wn hb B4 hg4; have hs4 := Nat.le_trans hu.size hg4; have hne4 : g4 ≠ g := (fun h => by have := R.lt; omega); clear hg4; replace R := R.below hb; clear C; have C := R.out.cells; replace hu := hu.trans (Upg.of_below hb); clear hb)
    | (go_at_call 21; (with_reducible refine (sees_b R hi2 [40] false f40).mono ?_); rintro e wn ⟨vn, rfl, rfl, hb⟩; replace R := R.below hb; clear C; have C := R.out.cells; replace hu := hu.trans (Upg.of_below hb); replace B4 := B4.below hb; clear hb)
    | (go_at_call 21; (with_reducible refine (sees_b R hi2 [35, 40] false f3540).mono ?_); rintro e wn ⟨vn, rfl, rfl, hb⟩; replace R := R.below hb; clear C; have C := R.out.cells; replace hu := hu.trans (Upg.of_below hb); replace B4 := B4.below hb; clear hb)
    | (go_at_call 21; (with_reducible refine (sees_b R hi2 [41] false f41).mono ?_); rintro e wn ⟨vn, rfl, rfl, hb⟩; replace R := R.below hb; clear C; have C := R.out.cells; replace hu := hu.trans (Upg.of_below hb); replace B4 := B4.below hb; clear hb)
    | (go_at_call 21; (with_reducible refine (sees_b R hi2 [39] false f39).mono ?_); rintro e wn ⟨vn, rfl, rfl, hb⟩; replace R := R.below hb; clear C; have C := R.out.cells; replace hu := hu.trans (Upg.of_below hb); replace B4 := B4.below hb; clear hb)
    | (go_at_call 21; (with_reducible refine (sees_b R hi2 [96] false f96).mono ?_); rintro e wn ⟨vn, rfl, rfl, hb⟩; replace R := R.below hb; clear C; have C := R.out.cells; replace hu := hu.trans (Upg.of_below hb); replace B4 := B4.below hb; clear hb)
    | (go_at_call 21; (with_reducible refine (sees_b R hi2 [44, 64] false f4464).mono ?_); rintro e wn ⟨vn, rfl, rfl, hb⟩; replace R := R.below hb; clear C; have C := R.out.cells; replace hu := hu.trans (Upg.of_below hb); replace B4 := B4.below hb; clear hb)
    | (go_at_call 21; (with_reducible refine (sees_b R hi2 [44] false f44).mono ?_); rintro e wn ⟨vn, rfl, rfl, hb⟩; replace R := R.below hb; clear C; have C := R.out.cells; replace hu := hu.trans (Upg.of_below hb); replace B4 := B4.below hb; clear hb)
    | (go_at_call 21; (with_reducible refine (sees_b R hi2 [34] true f34).mono ?_); rintro e wn ⟨vn, rfl, rfl, hb⟩; replace R := R.below hb; clear C; have C := R.out.cells; replace hu := hu.trans (Upg.of_below hb); replace B4 := B4.below hb; clear hb)
    | (go_at_call 26; have hsz := B4.lt; have hsu := hu.size; (with_reducible refine (string_any R hi hT r Hr.out).mono ?_); rintro e wn ⟨vn, rfl, hq, haf, ⟨y, rfl, hgy, hfy, hey⟩⟩; replace hu := hu.trans hq; replace B4 := blk_upg B4 hq hne4; have hf1 : ∀ b ∈ footD y, w.heap.size ≤ b ∧ b ≠ g4 := (fun b hb => by have := hfy b hb; omega); have Hey := As.mk hey; have Haf := As.mk haf; clear C hq R hfy hey hsz hsu haf; obtain ⟨kind, n, neg, A, c, mag, text, Ai, ci, items, Ar, cr, rest⟩ := y)
    | ((with_reducible refine g_store 4 ?_); go_must (refine ev_store rfl rfl B4 (news := encD (.mk kind n neg A c mag text Ai ci items Ar cr rest)) (by rfl) infoD (by simp [encD]) (by simp [encD, Value.oneCell']) ?_); intro wn ho Bn; simp only [encD, zA, zB, zC, zD, zE, zF, zG, zH] at Bn; replace hu := hu.only_new ho hs4; replace hgy := good_only hgy ho (fun b hb => (hf1 b hb).2); have Haf2 := As.mk (Haf.out.only ho (Ne.symm hne4)); replace B4 := Bn; clear Bn ho))
   refine bodyPost_ret (results_cell_row rfl _ _ g4 35 (encD (.mk kind n neg A c mag text Ai ci items Ar cr rest)).toArray (0, 0) _ rfl B4.h Tryz.underlying35 rfl (by kernel_rfl)) rfl ?_
   exact ⟨_, rfl, hu, Haf2.out, .mk kind n neg A c mag text Ai ci items Ar cr rest, rfl, hgy, fun b hb => (hf1 b hb).1, Hey.out⟩
 · rw [hcl] at hrr
   simp only at hrr
   have Hr := As.mk hrr
   clear hrr hr hcl h35 h12 h13 hc hD0
   go_enter Tryz.func14, Tryz.ntmps14
   go_wp2_with (first
    | ((with_reducible refine g_dst 4 ?_); go_must (refine ev_alloc 4 rfl infoD (cs := [.int .i64 0, .int .i64 0, .bool false, .slice none 0 0, .string ⟨#[]⟩, .slice none 0 0, .slice none 0 0]) rfl ?_); intro g4 wn hb B4 hg4; have hs4 := Nat.le_trans hu.size hg4; have hne4 : g4 ≠ g := (fun h => by have := R.lt; omega); clear hg4; replace R := R.below hb; clear C; have C := R.out.cells; replace hu := hu.trans (Upg.of_below hb); clear hb)
    | (go_at_call 21; (with_reducible refine (sees_b R hi2 [40] false f40).mono ?_); rintro e wn ⟨vn, rfl, rfl, hb⟩; replace R := R.below hb; clear C; have C := R.out.cells; replace hu := hu.trans (Upg.of_below hb); replace B4 := B4.below hb; clear hb)
    | (go_at_call 21; (with_reducible refine (sees_b R hi2 [35, 40] false f3540).mono ?_); rintro e wn ⟨vn, rfl, rfl, hb⟩; replace R := R.below hb; clear C; have C := R.out.cells; replace hu := hu.trans (Upg.of_below hb); replace B4 := B4.below hb; clear hb)
    | (go_at_call 21; (with_reducible refine (sees_b R hi2 [41] false f41).mono ?_); rintro e wn ⟨vn, rfl, rfl, hb⟩; replace R := R.below hb; clear C; have C := R.out.cells; replace hu := hu.trans (Upg.of_below hb); replace B4 := B4.below hb; clear hb)
    | (go_at_call 21; (with_reducible refine (sees_b R hi2 [39] false f39).mono ?_); rintro e wn ⟨vn, rfl, rfl, hb⟩; replace R := R.below hb; clear C; have C := R.out.cells; replace hu := hu.trans (Upg.of_below hb); replace B4 := B4.below hb; clear hb)
    | (go_at_call 21; (with_reducible refine (sees_b R hi2 [96] false f96).mono ?_); rintro e wn ⟨vn, rfl, rfl, hb⟩; replace R := R.below hb; clear C; have C := R.out.cells; replace hu := hu.trans (Upg.of_below hb); replace B4 := B4.below hb; clear hb)
    | (go_at_call 21; (with_reducible refine (sees_b R hi2 [44, 64] false f4464).mono ?_); rintro e wn ⟨vn, rfl, rfl, hb⟩; replace R := R.below hb; clear C; have C := R.out.cells; replace hu := hu.trans (Upg.of_below hb); replace B4 := B4.below hb; clear hb)
    | (go_at_call 21; (with_reducible refine (sees_b R hi2 [44] false f44).mono ?_); rintro e wn ⟨vn, rfl, rfl, hb⟩; replace R := R.below hb; clear C; have C := R.out.cells; replace hu := hu.trans (Upg.of_below hb); replace B4 := B4.below hb; clear hb)
    | (go_at_call 21; (with_reducible refine (sees_b R hi2 [34] false f34).mono ?_); rintro e wn ⟨vn, rfl, rfl, hb⟩; replace R := R.below hb; clear C; have C := R.out.cells; replace hu := hu.trans (Upg.of_below hb); replace B4 := B4.below hb; clear hb)
    | (go_at_call 27; have hsz := B4.lt; have hsu := hu.size; (with_reducible refine (token_any R hi hT r Hr.out).mono ?_); rintro e wn ⟨vn, rfl, hq, haf, ⟨y, rfl, hgy, hfy, hey⟩⟩; replace hu := hu.trans hq; replace B4 := blk_upg B4 hq hne4; have hf1 : ∀ b ∈ footD y, w.heap.size ≤ b ∧ b ≠ g4 := (fun b hb => by have := hfy b hb; omega); have Hey := As.mk hey; have Haf := As.mk haf; clear C hq R hfy hey hsz hsu haf; obtain ⟨kind, n, neg, A, c, mag, text, Ai, ci, items, Ar, cr, rest⟩ := y)
    | ((with_reducible refine g_store 4 ?_); go_must (refine ev_store rfl rfl B4 (news := encD (.mk kind n neg A c mag text Ai ci items Ar cr rest)) (by rfl) infoD (by simp [encD]) (by simp [encD, Value.oneCell']) ?_); intro wn ho Bn; simp only [encD, zA, zB, zC, zD, zE, zF, zG, zH] at Bn; replace hu := hu.only_new ho hs4; replace hgy := good_only hgy ho (fun b hb => (hf1 b hb).2); have Haf2 := As.mk (Haf.out.only ho (Ne.symm hne4)); replace B4 := Bn; clear Bn ho))
   refine bodyPost_ret (results_cell_row rfl _ _ g4 35 (encD (.mk kind n neg A c mag text Ai ci items Ar cr rest)).toArray (0, 0) _ rfl B4.h Tryz.underlying35 rfl (by kernel_rfl)) rfl ?_
   exact ⟨_, rfl, hu, Haf2.out, .mk kind n neg A c mag text Ai ci items Ar cr rest, rfl, hgy, fun b hb => (hf1 b hb).1, Hey.out⟩
theorem pc_all (T : ByteArray) (hT : T.size ≤ 65536) : ∀ (n : Nat) (j : J), wtJ T.data.toList j < n → PC T j
 | 0, j, h => absurd h (by omega)
 | n + 1, .blanks d i, h => blanks_pc T hT d i (fun j hj => pc_all T hT n j (by omega))
 | n + 1, .next d i, h => next_pc T hT d i (fun j hj => pc_all T hT n j (by omega))
 | n + 1, .datum d i, h => datum_pc T hT d i (fun j hj => pc_all T hT n j (by omega))
 | n + 1, .items .., h => trivial
theorem pc (T : ByteArray) (hT : T.size ≤ 65536) (j : J) : PC T j := pc_all T hT _ j (Nat.lt_succ_self _)
end Go.Proofs.YtdapbegadhcpcaaGreatDoor
