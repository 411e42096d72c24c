/- A part of the proof. -/
import Derived.Deep.DeepCutAuto
import Derived.Test.YtdapbegadhcpcaaGreatDoorRfE
import Derived.Test.YtdapbegadhcpcaaGreatDoorRfD
import Derived.Test.YtdapbegadhcpcaaGreatDoorRdH
set_option linter.unusedVariables false
set_option linter.unusedSimpArgs false
namespace Go.Proofs.YtdapbegadhcpcaaGreatDoor
open Go.RowKit Go.Proofs.YtdapbegadhcpcaaGreatDoorL Go.Proofs.YtdapbegadhcpcaaGreatDoorM
set_option maxRecDepth 16000 in
set_option maxHeartbeats 32000000 in
theorem rchar_any {w : World} {g i : Nat} {T : ByteArray} (R : RR w g T i 0 0) (hT : T.size ≤ 65536) (f92 : pre T.data.toList i [35, 92] = true) (r : Rs) (hr : r = tokR T.data.toList i) :
 Calls Tryz.prog 51 #[.pointer (some ⟨g, 0, none⟩)] w fun x w' => ∃ v, x = .returned v ∧ Upg g w w' ∧ AftR w' g T r ∧ IsD w.heap.size w' r v := by
 have C := R.out.cells
 have hu := Upg.refl g w
 obtain ⟨q0, q1, hi2⟩ := pre2_lt f92
 have Hsl := As.mk (size_list T)
 have hr2 : r = (match charF (cut T.data.toList (i + 2) (tokStop T.data.toList i)) with | some v => .ok (dChar v, tokStop T.data.toList i) | none => .error (i, 14)) := by
  rw [hr, tokR, if_pos ⟨q0, q1⟩]
  cases charF (cut T.data.toList (i + 2) (tokStop T.data.toList i)) <;> rfl
 have hts : tokStop T.data.toList i = (if i + 2 < T.data.toList.length then tokEnd T.data.toList (i + 3) else T.data.toList.length) := by rw [tokStop, if_pos ⟨q0, q1⟩]
 clear hr q0 q1 f92
 by_cases hm : i + 2 < T.size
 case neg =>
  have d1 : decide (T.size ≤ i + 2) = true := decide_eq_true (by omega)
  have Hr : As (r = .error (i, 14)) := ⟨by
   rw [hr2, hts, if_neg (by rw [Hsl.out]; exact hm), cut, List.drop_eq_nil_of_le (by rw [Hsl.out]; omega), List.take_nil]
   rfl⟩
  clear hr2 hts
  go_enter Tryz.func51, Tryz.ntmps51
  go_wp2_with (first
   | ((with_reducible refine g_dst 2 ?_); go_must (refine ev_alloc 2 rfl infoD (cs := [.int .i64 0, .int .i64 0, .bool false, .slice none 0 0, .string ⟨#[]⟩, .slice none 0 0, .slice none 0 0]) rfl ?_); intro g2 wn hb B2 hg2; have hs2 := Nat.le_trans hu.size hg2; have hne2 : g2 ≠ g := (fun h => by have := R.lt; omega); clear hg2; replace R := R.below hb; clear C; have C := R.out.cells; replace hu := hu.trans (Upg.of_below hb); clear hb)
   | ((with_reducible refine g_store 22 ?_); go_must (refine ev_store rfl rfl R.out (news := [.int .i64 ((i + 2 : Nat) : Int)]) (by first | rfl | (go_simp; first | rfl | go_num | (simp; omega))) infoI (by simp) (by simp [Value.oneCell']) ?_); intro wn ho Bn; simp only [zI, zA, zC, zD, zE, zF, zH, zB, zG, Nat.reduceAdd] at Bn; have R2 : RR wn g T (i + 2) 0 0 := ⟨Bn⟩; clear Bn; have hq := Upg.of_only ho; clear C R; have R := R2; clear R2; have C := R.out.cells; replace hu := hu.trans hq; replace B2 := blk_upg B2 hq hne2; clear hq; clear ho)
   | (go_at_call 16; (with_reducible refine (rend_b R true d1).mono ?_); rintro e wn ⟨vn, rfl, rfl, hb⟩; replace R := R.below hb; clear C; have C := R.out.cells; replace hu := hu.trans (Upg.of_below hb); replace B2 := B2.below hb; clear hb)
   | (go_at_call 31; (with_reducible refine (rfail_ok R 14 (i : Int)).mono ?_); rintro e wn ⟨rfl, ho, R2⟩; have hq := Upg.of_only ho; clear C R; have R := R2; clear R2; have C := R.out.cells; replace hu := hu.trans hq; replace B2 := blk_upg B2 hq hne2; clear hq)
   | ((with_reducible refine g_store 2 ?_); go_must (refine ev_store rfl rfl B2 (news := [.int .i64 0, .int .i64 0, .bool false, .slice none 0 0, .string ⟨#[]⟩, .slice none 0 0, .slice none 0 0]) (by first | rfl | (go_simp; try rfl)) infoD (by simp) (by simp [Value.oneCell']) ?_); intro wn ho Bn; simp only [encD, zA, zB, zC, zD, zE, zF, zG, zH] at Bn; replace hu := hu.only_new ho hs2; have R2 : RR wn g T _ _ _ := ⟨R.out.only ho (Ne.symm hne2)⟩; clear C R; have R := R2; clear R2; have C := R.out.cells; replace B2 := Bn; clear Bn ho))
  refine bodyPost_ret (results_cell_row rfl _ _ g2 35 ([.int .i64 0, .int .i64 0, .bool false, .slice none 0 0, .string ⟨#[]⟩, .slice none 0 0, .slice none 0 0] : List Value).toArray (0, 0) _ rfl B2.h Tryz.underlying35 rfl (by kernel_rfl)) rfl ?_
  exact ⟨_, rfl, hu, by rw [Hr.out]; exact ⟨_, R, by decide⟩, ldZ, rfl, good_z _ _ _ (by decide) (by decide) _, fun b hb => (by rw [ldZ, foot_z] at hb; cases hb), fun x e h => by rw [Hr.out] at h; cases h⟩
 rw [if_pos (by rw [Hsl.out]; exact hm)] at hts
 obtain ⟨E, hE⟩ : ∃ E, E = tokEnd T.data.toList (i + 3) := ⟨_, rfl⟩
 rw [← hE] at hts
 rw [hts] at hr2
 have hEi : i + 3 ≤ E := by rw [hE]; exact tokEnd_ge _ _
 have hEl : E ≤ T.data.toList.length := by rw [hE]; exact tokEnd_le _ _ _ (Nat.lt_succ_self _) (by have := Hsl.out; omega)
 have hEs : E ≤ T.size := by have := Hsl.out; omega
 obtain ⟨f, hf⟩ : ∃ f, f = i + 2 := ⟨_, rfl⟩
 have hif : (i : Int) + 2 = (f : Int) := by omega
 obtain ⟨s3, hs3⟩ : ∃ s3, s3 = i + 3 := ⟨_, rfl⟩
 have hif1 : (f : Int) + 1 = (s3 : Int) := by omega
 have hs3E : s3 ≤ E := by omega
 have hEii : (f : Int) ≤ (E : Int) := by omega
 have hEsi : (E : Int) ≤ (T.size : Int) := by omega
 have HE : As (tokEnd T.data.toList s3 = E) := ⟨by rw [hs3]; exact hE.symm⟩
 rw [← hf] at hr2
 have d1 : decide (T.size ≤ f) = false := decide_eq_false (by omega)
 have HF : As ((T.extract f E).data.toList = cut T.data.toList f E ∧ (T.extract f E).size = E - f) := ⟨by rw [ext_list, cut, List.drop_take], by rw [ByteArray.size_extract]; omega⟩
 have HOK0 := As.mk (fun v (h : charF (cut T.data.toList f E) = some v) => (show r = .ok (dChar v, E) by rw [hr2, h]))
 have HER0 := As.mk (fun (h : charF (cut T.data.toList f E) = none) => (show r = .error (i, 14) by rw [hr2, h]))
 have hfi : i + 2 ≤ f := by omega
 have hf3 : f + 1 ≤ E := by omega
 clear hE hts hr2 hs3 hf hEi
 go_enter Tryz.func51, Tryz.ntmps51
 go_wp2_with (first
  | ((with_reducible refine g_dst 2 ?_); go_must (refine ev_alloc 2 rfl infoD (cs := [.int .i64 0, .int .i64 0, .bool false, .slice none 0 0, .string ⟨#[]⟩, .slice none 0 0, .slice none 0 0]) rfl ?_); intro g2 wn hb B2 hg2; have hs2 := Nat.le_trans hu.size hg2; have hne2 : g2 ≠ g := (fun h => by have := R.lt; omega); clear hg2; replace R := R.below hb; clear C; have C := R.out.cells; replace hu := hu.trans (Upg.of_below hb); clear hb)
  | ((with_reducible refine g_store 22 ?_); go_must (refine ev_store rfl rfl R.out (news := [.int .i64 ((f : Nat) : Int)]) (by first | rfl | (go_simp; first | rfl | go_num | (simp; omega))) infoI (by simp) (by simp [Value.oneCell']) ?_); intro wn ho Bn; simp only [zI, zA, zC, zD, zE, zF, zH, zB, zG, Nat.reduceAdd] at Bn; have R2 : RR wn g T (f) 0 0 := ⟨Bn⟩; clear Bn; have hq := Upg.of_only ho; clear C R; have R := R2; clear R2; have C := R.out.cells; replace hu := hu.trans hq; replace B2 := blk_upg B2 hq hne2; clear hq; clear ho)
  | (go_at_call 16; (with_reducible refine (rend_b R false d1).mono ?_); rintro e wn ⟨vn, rfl, rfl, hb⟩; replace R := R.below hb; clear C; have C := R.out.cells; replace hu := hu.trans (Upg.of_below hb); replace B2 := B2.below hb; clear hb)
  | ((with_reducible refine g_store 39 ?_); go_must (refine ev_store rfl rfl R.out (news := [.int .i64 ((s3 : Nat) : Int)]) (by first | rfl | (go_simp; first | rfl | go_num | (simp; omega))) infoI (by simp) (by simp [Value.oneCell']) ?_); intro wn ho Bn; simp only [zI, zA, zC, zD, zE, zF, zH, zB, zG, Nat.reduceAdd] at Bn; have R2 : RR wn g T (s3) 0 0 := ⟨Bn⟩; clear Bn; have hq := Upg.of_only ho; clear C R; have R := R2; clear R2; have C := R.out.cells; replace hu := hu.trans hq; replace B2 := blk_upg B2 hq hne2; clear hq; clear ho))
 go_loopw [] (fun wr => ∃ k : Nat, s3 ≤ k ∧ k ≤ T.size ∧ As (tokEnd T.data.toList k = E) ∧ RR wr g T k 0 0 ∧ Upg g w wr ∧ Blk wr g2 [.int .i64 0, .int .i64 0, .bool false, .slice none 0 0, .string ⟨#[]⟩, .slice none 0 0, .slice none 0 0] 35) (fun wr => T.size - atOf wr g)
 case atStart => exact ⟨s3, Nat.le_refl _, by omega, HE, R, hu, B2⟩
 case round =>
  clear R hu B2 C
  obtain ⟨k, hik, hk, hke, R, hu, B2⟩ := hrel
  have C := R.out.cells
  have hatk := As.mk R.at_
  by_cases hmk : k < T.size
  case' pos =>
   have d2 : decide (T.size ≤ k) = false := decide_eq_false (by omega)
   obtain ⟨ck, hck⟩ := get_size T hmk
   have hckx := get_c hmk hck
   have hmki : (k : Int) < (T.size : Int) := by omega
   have Hck := As.mk hck
   clear hck
   cases hdl : isDl ck
   case' true =>
    have HkE : As (k = E) := ⟨by rw [← hke.out, tokEnd_at Hck.out hdl]⟩
    (try go_wp2)
    have hd := (Below.refl (World.heap wr).size wr).drew
    replace R := R.below hd
    replace hu := hu.trans (Upg.of_below hd)
    replace B2 := B2.below hd
    clear C
    have C := R.out.cells
    have hS : ∀ W, RR W g T k 0 0 → W.cell? ⟨g, 0, none⟩ = some (.string T) ∧ W.cell? ⟨g, 1, none⟩ = some (.int .i64 (k : Int)) := fun W R => ⟨R.out.cells 0, R.out.cells 1⟩
    have hS0 := hS _ R
    go_region_held3 (fun W => W.cell? ⟨g, 0, none⟩ = some (.string T) ∧ W.cell? ⟨g, 1, none⟩ = some (.int .i64 (k : Int))) (first | assumption | exact hS _ R) (first
     | (go_at_call 16; (with_reducible refine (rend_b R false d2).mono ?_); rintro e wn ⟨vn, rfl, rfl, hb⟩; replace R := R.below hb; clear C; have C := R.out.cells; replace hu := hu.trans (Upg.of_below hb); replace B2 := B2.below hb; clear hb)
     | (go_at_call 52; (with_reducible refine (rdelim_b _ true hdl _).mono ?_); rintro e wn ⟨vn, rfl, rfl, hb⟩; replace R := R.below hb; clear C; have C := R.out.cells; replace hu := hu.trans (Upg.of_below hb); replace B2 := B2.below hb; clear hb))
    clear hS hS0 hd
    go_wp2
   case false =>
    have Hke : As (tokEnd T.data.toList (k + 1) = E) := ⟨by rw [← hke.out, tokEnd_on Hck.out hdl]⟩
    (try go_wp2)
    have hd := (Below.refl (World.heap wr).size wr).drew
    replace R := R.below hd
    replace hu := hu.trans (Upg.of_below hd)
    replace B2 := B2.below hd
    clear C
    have C := R.out.cells
    have hS : ∀ W, RR W g T k 0 0 → W.cell? ⟨g, 0, none⟩ = some (.string T) ∧ W.cell? ⟨g, 1, none⟩ = some (.int .i64 (k : Int)) := fun W R => ⟨R.out.cells 0, R.out.cells 1⟩
    have hS0 := hS _ R
    go_region_held3 (fun W => W.cell? ⟨g, 0, none⟩ = some (.string T) ∧ W.cell? ⟨g, 1, none⟩ = some (.int .i64 (k : Int))) (first | assumption | exact hS _ R) (first
     | (go_at_call 16; (with_reducible refine (rend_b R false d2).mono ?_); rintro e wn ⟨vn, rfl, rfl, hb⟩; replace R := R.below hb; clear C; have C := R.out.cells; replace hu := hu.trans (Upg.of_below hb); replace B2 := B2.below hb; clear hb)
     | (go_at_call 52; (with_reducible refine (rdelim_b _ false hdl _).mono ?_); rintro e wn ⟨vn, rfl, rfl, hb⟩; replace R := R.below hb; clear C; have C := R.out.cells; replace hu := hu.trans (Upg.of_below hb); replace B2 := B2.below hb; clear hb))
    clear hS hS0 hd
    go_wp2_with (first
     | ((with_reducible refine g_store 62 ?_); go_must (refine ev_store rfl rfl R.out (news := [.int .i64 ((k + 1 : Nat) : Int)]) (by first | rfl | (go_simp; first | rfl | go_num | (simp; omega))) infoI (by simp) (by simp [Value.oneCell']) ?_); intro wn ho Bn; simp only [zI, zA, zC, zD, zE, zF, zH, zB, zG, Nat.reduceAdd] at Bn; have R2 : RR wn g T (k + 1) 0 0 := ⟨Bn⟩; clear Bn; have hq := Upg.of_only ho; clear C R; have R := R2; clear R2; have C := R.out.cells; replace hu := hu.trans hq; replace B2 := blk_upg B2 hq hne2; clear hq; clear ho))
    go_roundw
    case rel => exact ⟨k + 1, by omega, by omega, Hke, R, hu, B2⟩
    case measure => rw [R.at_, hatk.out]; omega
  case' neg =>
   have d2 : decide (T.size ≤ k) = true := decide_eq_true (by omega)
   have HkE : As (k = E) := ⟨by rw [← hke.out, tokEnd_len (by have := Hsl.out; omega)]⟩
   (try go_wp2)
   have hd := (Below.refl (World.heap wr).size wr).drew
   replace R := R.below hd
   replace hu := hu.trans (Upg.of_below hd)
   replace B2 := B2.below hd
   clear C
   have C := R.out.cells
   have hS : ∀ W, RR W g T k 0 0 → W.cell? ⟨g, 0, none⟩ = some (.string T) ∧ W.cell? ⟨g, 1, none⟩ = some (.int .i64 (k : Int)) := fun W R => ⟨R.out.cells 0, R.out.cells 1⟩
   have hS0 := hS _ R
   refine wp_gen2 (fun Q7 hQ7 => ?_)
   refine wp_region_held_drew (S := fun W => W.cell? ⟨g, 0, none⟩ = some (.string T) ∧ W.cell? ⟨g, 1, none⟩ = some (.int .i64 (k : Int))) (by kernel_rfl) (hS0) (fun hHeld => ?_)
   refine ta 0 (.pointer (some ⟨g, 0, none⟩)) ?_
   refine wpAnyH_ready (rs := [1]) (by decide +kernel) (by simp) ?_
   refine AllReadyH.cons (o := _) (by simp only [List.getElem?_toArray, List.getElem?_cons_succ, List.getElem?_cons_zero]; rfl) (fun K hK => ?_) AllReadyH.nil
   refine gI ?_
   (with_reducible refine s_dst 41 ?_); go_simp; (with_reducible refine (rend_b R true d2).mono ?_); rintro e wn ⟨vn, rfl, rfl, hb⟩; replace R := R.below hb; clear C; have C := R.out.cells; replace hu := hu.trans (Upg.of_below hb); replace B2 := B2.below hb; clear hb
   refine hK.out _ _ (hS _ R) (fun hHeld => ?_); clear hK K; (try simp only [Act.put, pA, pB, pC, pD, pE, pF])
   refine ta 2 (.bool false) ?_
   refine ta 3 (.bool false) ?_
   refine tu 4 ?_
   refine tu 5 ?_
   refine tu 6 ?_
   refine tu 7 ?_
   refine tu 8 ?_
   refine tu 9 ?_
   refine tu 10 ?_
   refine tu 11 ?_
   refine tu 12 ?_
   refine tu 13 ?_
   refine tu 14 ?_
   refine ta 15 (.bool false) ?_
   refine wpAnyH_done (by kernel_rfl) ?_ _
   refine NoPanic.normal ?_
   obtain ⟨rfl⟩ := hQ7
   clear hS hS0 hd
   go_wp2
  all_goals as_aux_lemma =>
   have hkE := HkE.out.symm
   subst hkE
   clear C
   have C := R.out.cells
   go_quiet (fail)
   have hb := dr (Below.refl (World.heap wn).size wn) nq
   generalize T.extract f E = U at HF ⊢
   generalize World.drewN wn nq = w9 at hb ⊢
   replace R := R.below hb
   clear C
   have C := R.out.cells
   replace hu := hu.trans (Upg.of_below hb)
   replace B2 := B2.below hb
   clear hb
   have HOK : As (∀ v, charF U.data.toList = some v → r = .ok (dChar v, E)) := ⟨fun v h => HOK0.out v (by rw [← HF.out.1]; exact h)⟩
   have HER : As (charF U.data.toList = none → r = .error (i, 14)) := ⟨fun h => HER0.out (by rw [← HF.out.1]; exact h)⟩
   have hp0 : 0 < U.size := by have := HF.out.2; omega
   have hp0i : (0 : Int) < (U.size : Int) := by omega
   obtain ⟨c0, hc0⟩ := get_size U hp0
   have hcx0 := get_c hp0 hc0
   have hg0 : U.data.toList[0]? = some c0 := hc0
   have hu0 : U.data.toList = c0 :: U.data.toList.drop 1 := by
    have := drop_at hc0
    simpa using this
   have htl : ∀ l, (U.toList == l) = decide (U.data.toList = l) := fun l => by rw [Lib.toList_data, beqD]
   clear hc0
   by_cases cN0 : U.data.toList = [115, 112, 97, 99, 101]
   · have Hr := As.mk (HOK.out 32 (by rw [cN0]; rfl))
     have e0 := htl [115, 112, 97, 99, 101]
     rw [decide_eq_true cN0] at e0
     have e1 := htl [110, 101, 119, 108, 105, 110, 101]
     rw [show decide (U.data.toList = [110, 101, 119, 108, 105, 110, 101]) = false by rw [cN0]; decide] at e1
     have e2 := htl [116, 97, 98]
     rw [show decide (U.data.toList = [116, 97, 98]) = false by rw [cN0]; decide] at e2
     have e3 := htl [110, 117, 108]
     rw [show decide (U.data.toList = [110, 117, 108]) = false by rw [cN0]; decide] at e3
     have hsz : U.size = 5 := by rw [← size_list, cN0]; rfl
     have hs1 : ((U.size : Int) == 1) = false := by rw [hsz]; rfl
     clear htl cN0
     as_aux_lemma =>
      go_wp2_with (first
       | ((with_reducible refine g_dst 73 ?_); go_must (refine ev_lit (v := fun g => .slice (some ⟨g, 0, none⟩) 4 4) 73 rfl (cs := [.string ⟨#[115, 112, 97, 99, 101]⟩, .string ⟨#[110, 101, 119, 108, 105, 110, 101]⟩, .string ⟨#[116, 97, 98]⟩, .string ⟨#[110, 117, 108]⟩]) (t := 9) (by first | kernel_rfl | (go_simp; rfl)) ?_); intro g73 wn hb B73 hg73; have hn73 : g73 ≠ g := (fun h => by have := R.lt; omega); have hm73 : g73 ≠ g2 := (fun h => by have := B2.lt; omega); clear hg73; replace R := R.below hb; clear C; have C := R.out.cells; replace hu := hu.trans (Upg.of_below hb); replace B2 := B2.below hb; clear hb)
       | ((with_reducible refine g_dst 74 ?_); go_must (refine ev_lit (v := fun g => .slice (some ⟨g, 0, none⟩) 4 4) 74 rfl (cs := [.int .i64 32, .int .i64 10, .int .i64 9, .int .i64 0]) (t := 3) (by first | kernel_rfl | (go_simp; rfl)) ?_); intro g74 wn hb B74 hg74; have hn74 : g74 ≠ g := (fun h => by have := R.lt; omega); have hm74 : g74 ≠ g2 := (fun h => by have := B2.lt; omega); clear hg74; replace R := R.below hb; clear C; have C := R.out.cells; replace hu := hu.trans (Upg.of_below hb); replace B2 := B2.below hb; replace B73 := B73.below hb; clear hb))
      obtain ⟨wo, rfl⟩ : ∃ wo : World, wo = wn := ⟨_, rfl⟩
      have C73 := B73.cells
      have C74 := B74.cells
      go_loopw [8, 9] (fun v q wr => ((q = .int .i64 0 ∧ v = .int .i64 (-1)) ∨ (q = .int .i64 1 ∧ v = .int .i64 32) ∨ (q = .int .i64 2 ∧ v = .int .i64 32) ∨ (q = .int .i64 3 ∧ v = .int .i64 32) ∨ (q = .int .i64 4 ∧ v = .int .i64 32)) ∧ wo = wr) (fun _ q _ => 4 - (intOf q).toNat)
      case atStart => exact ⟨.inl ⟨rfl, rfl⟩, by first | rfl | trivial⟩
      case round =>
       obtain ⟨hq, rfl⟩ := hrel
       rcases hq with ⟨rfl, rfl⟩ | ⟨rfl, rfl⟩ | ⟨rfl, rfl⟩ | ⟨rfl, rfl⟩ | ⟨rfl, rfl⟩
       · go_wp2
         go_roundw
         case rel => exact ⟨.inr (.inl ⟨by first | rfl | go_num, by first | rfl | go_num⟩), by first | rfl | trivial⟩
         case measure => simp [intOf]
       · go_wp2
         go_roundw
         case rel => exact ⟨.inr (.inr (.inl ⟨by first | rfl | go_num, by first | rfl | go_num⟩)), by first | rfl | trivial⟩
         case measure => simp [intOf]
       · go_wp2
         go_roundw
         case rel => exact ⟨.inr (.inr (.inr (.inl ⟨by first | rfl | go_num, by first | rfl | go_num⟩))), by first | rfl | trivial⟩
         case measure => simp [intOf]
       · go_wp2
         go_roundw
         case rel => exact ⟨.inr (.inr (.inr (.inr (⟨by first | rfl | go_num, by first | rfl | go_num⟩)))), by first | rfl | trivial⟩
         case measure => simp [intOf]
       · clear C73 C74
         go_wp2_with (first
          | ((with_reducible refine g_store 2 ?_); go_must (refine ev_store rfl rfl B2 (news := [.int .i64 3, .int .i64 32, .bool false, .slice none 0 0, .string ⟨#[]⟩, .slice none 0 0, .slice none 0 0]) (by first | rfl | (go_simp; try rfl)) infoD (by simp) (by simp [Value.oneCell']) ?_); intro wn ho Bn; simp only [encD, zA, zB, zC, zD, zE, zF, zG, zH] at Bn; replace hu := hu.only_new ho hs2; have R2 : RR wn g T _ _ _ := ⟨R.out.only ho (Ne.symm hne2)⟩; clear C R; have R := R2; clear R2; have C := R.out.cells; replace B2 := Bn; clear Bn ho))
         refine bodyPost_ret (results_cell_row rfl _ _ g2 35 ([.int .i64 3, .int .i64 32, .bool false, .slice none 0 0, .string ⟨#[]⟩, .slice none 0 0, .slice none 0 0] : List Value).toArray (0, 0) _ rfl B2.h Tryz.underlying35 rfl (by kernel_rfl)) rfl ?_
         exact ⟨_, rfl, hu, by rw [Hr.out]; exact ⟨R, hEs⟩, .mk 3 32 false none 0 [] [] none 0 [] none 0 [], rfl, good_z _ _ _ (by omega) (by omega) _, fun b hb => (by rw [foot_z] at hb; cases hb), fun x e h => by rw [Hr.out] at h; cases h; rfl⟩
   have e0 := htl [115, 112, 97, 99, 101]
   rw [decide_eq_false cN0] at e0
   by_cases cN1 : U.data.toList = [110, 101, 119, 108, 105, 110, 101]
   · have Hr := As.mk (HOK.out 10 (by rw [cN1]; rfl))
     have e1 := htl [110, 101, 119, 108, 105, 110, 101]
     rw [decide_eq_true cN1] at e1
     have e2 := htl [116, 97, 98]
     rw [show decide (U.data.toList = [116, 97, 98]) = false by rw [cN1]; decide] at e2
     have e3 := htl [110, 117, 108]
     rw [show decide (U.data.toList = [110, 117, 108]) = false by rw [cN1]; decide] at e3
     have hsz : U.size = 7 := by rw [← size_list, cN1]; rfl
     have hs1 : ((U.size : Int) == 1) = false := by rw [hsz]; rfl
     clear htl cN1 cN0
     as_aux_lemma =>
      go_wp2_with (first
       | ((with_reducible refine g_dst 73 ?_); go_must (refine ev_lit (v := fun g => .slice (some ⟨g, 0, none⟩) 4 4) 73 rfl (cs := [.string ⟨#[115, 112, 97, 99, 101]⟩, .string ⟨#[110, 101, 119, 108, 105, 110, 101]⟩, .string ⟨#[116, 97, 98]⟩, .string ⟨#[110, 117, 108]⟩]) (t := 9) (by first | kernel_rfl | (go_simp; rfl)) ?_); intro g73 wn hb B73 hg73; have hn73 : g73 ≠ g := (fun h => by have := R.lt; omega); have hm73 : g73 ≠ g2 := (fun h => by have := B2.lt; omega); clear hg73; replace R := R.below hb; clear C; have C := R.out.cells; replace hu := hu.trans (Upg.of_below hb); replace B2 := B2.below hb; clear hb)
       | ((with_reducible refine g_dst 74 ?_); go_must (refine ev_lit (v := fun g => .slice (some ⟨g, 0, none⟩) 4 4) 74 rfl (cs := [.int .i64 32, .int .i64 10, .int .i64 9, .int .i64 0]) (t := 3) (by first | kernel_rfl | (go_simp; rfl)) ?_); intro g74 wn hb B74 hg74; have hn74 : g74 ≠ g := (fun h => by have := R.lt; omega); have hm74 : g74 ≠ g2 := (fun h => by have := B2.lt; omega); clear hg74; replace R := R.below hb; clear C; have C := R.out.cells; replace hu := hu.trans (Upg.of_below hb); replace B2 := B2.below hb; replace B73 := B73.below hb; clear hb))
      obtain ⟨wo, rfl⟩ : ∃ wo : World, wo = wn := ⟨_, rfl⟩
      have C73 := B73.cells
      have C74 := B74.cells
      go_loopw [8, 9] (fun v q wr => ((q = .int .i64 0 ∧ v = .int .i64 (-1)) ∨ (q = .int .i64 1 ∧ v = .int .i64 (-1)) ∨ (q = .int .i64 2 ∧ v = .int .i64 10) ∨ (q = .int .i64 3 ∧ v = .int .i64 10) ∨ (q = .int .i64 4 ∧ v = .int .i64 10)) ∧ wo = wr) (fun _ q _ => 4 - (intOf q).toNat)
      case atStart => exact ⟨.inl ⟨rfl, rfl⟩, by first | rfl | trivial⟩
      case round =>
       obtain ⟨hq, rfl⟩ := hrel
       rcases hq with ⟨rfl, rfl⟩ | ⟨rfl, rfl⟩ | ⟨rfl, rfl⟩ | ⟨rfl, rfl⟩ | ⟨rfl, rfl⟩
       · go_wp2
         go_roundw
         case rel => exact ⟨.inr (.inl ⟨by first | rfl | go_num, by first | rfl | go_num⟩), by first | rfl | trivial⟩
         case measure => simp [intOf]
       · go_wp2
         go_roundw
         case rel => exact ⟨.inr (.inr (.inl ⟨by first | rfl | go_num, by first | rfl | go_num⟩)), by first | rfl | trivial⟩
         case measure => simp [intOf]
       · go_wp2
         go_roundw
         case rel => exact ⟨.inr (.inr (.inr (.inl ⟨by first | rfl | go_num, by first | rfl | go_num⟩))), by first | rfl | trivial⟩
         case measure => simp [intOf]
       · go_wp2
         go_roundw
         case rel => exact ⟨.inr (.inr (.inr (.inr (⟨by first | rfl | go_num, by first | rfl | go_num⟩)))), by first | rfl | trivial⟩
         case measure => simp [intOf]
       · clear C73 C74
         go_wp2_with (first
          | ((with_reducible refine g_store 2 ?_); go_must (refine ev_store rfl rfl B2 (news := [.int .i64 3, .int .i64 10, .bool false, .slice none 0 0, .string ⟨#[]⟩, .slice none 0 0, .slice none 0 0]) (by first | rfl | (go_simp; try rfl)) infoD (by simp) (by simp [Value.oneCell']) ?_); intro wn ho Bn; simp only [encD, zA, zB, zC, zD, zE, zF, zG, zH] at Bn; replace hu := hu.only_new ho hs2; have R2 : RR wn g T _ _ _ := ⟨R.out.only ho (Ne.symm hne2)⟩; clear C R; have R := R2; clear R2; have C := R.out.cells; replace B2 := Bn; clear Bn ho))
         refine bodyPost_ret (results_cell_row rfl _ _ g2 35 ([.int .i64 3, .int .i64 10, .bool false, .slice none 0 0, .string ⟨#[]⟩, .slice none 0 0, .slice none 0 0] : List Value).toArray (0, 0) _ rfl B2.h Tryz.underlying35 rfl (by kernel_rfl)) rfl ?_
         exact ⟨_, rfl, hu, by rw [Hr.out]; exact ⟨R, hEs⟩, .mk 3 10 false none 0 [] [] none 0 [] none 0 [], rfl, good_z _ _ _ (by omega) (by omega) _, fun b hb => (by rw [foot_z] at hb; cases hb), fun x e h => by rw [Hr.out] at h; cases h; rfl⟩
   have e1 := htl [110, 101, 119, 108, 105, 110, 101]
   rw [decide_eq_false cN1] at e1
   by_cases cN2 : U.data.toList = [116, 97, 98]
   · have Hr := As.mk (HOK.out 9 (by rw [cN2]; rfl))
     have e2 := htl [116, 97, 98]
     rw [decide_eq_true cN2] at e2
     have e3 := htl [110, 117, 108]
     rw [show decide (U.data.toList = [110, 117, 108]) = false by rw [cN2]; decide] at e3
     have hsz : U.size = 3 := by rw [← size_list, cN2]; rfl
     have hs1 : ((U.size : Int) == 1) = false := by rw [hsz]; rfl
     clear htl cN2 cN0 cN1
     as_aux_lemma =>
      go_wp2_with (first
       | ((with_reducible refine g_dst 73 ?_); go_must (refine ev_lit (v := fun g => .slice (some ⟨g, 0, none⟩) 4 4) 73 rfl (cs := [.string ⟨#[115, 112, 97, 99, 101]⟩, .string ⟨#[110, 101, 119, 108, 105, 110, 101]⟩, .string ⟨#[116, 97, 98]⟩, .string ⟨#[110, 117, 108]⟩]) (t := 9) (by first | kernel_rfl | (go_simp; rfl)) ?_); intro g73 wn hb B73 hg73; have hn73 : g73 ≠ g := (fun h => by have := R.lt; omega); have hm73 : g73 ≠ g2 := (fun h => by have := B2.lt; omega); clear hg73; replace R := R.below hb; clear C; have C := R.out.cells; replace hu := hu.trans (Upg.of_below hb); replace B2 := B2.below hb; clear hb)
       | ((with_reducible refine g_dst 74 ?_); go_must (refine ev_lit (v := fun g => .slice (some ⟨g, 0, none⟩) 4 4) 74 rfl (cs := [.int .i64 32, .int .i64 10, .int .i64 9, .int .i64 0]) (t := 3) (by first | kernel_rfl | (go_simp; rfl)) ?_); intro g74 wn hb B74 hg74; have hn74 : g74 ≠ g := (fun h => by have := R.lt; omega); have hm74 : g74 ≠ g2 := (fun h => by have := B2.lt; omega); clear hg74; replace R := R.below hb; clear C; have C := R.out.cells; replace hu := hu.trans (Upg.of_below hb); replace B2 := B2.below hb; replace B73 := B73.below hb; clear hb))
      obtain ⟨wo, rfl⟩ : ∃ wo : World, wo = wn := ⟨_, rfl⟩
      have C73 := B73.cells
      have C74 := B74.cells
      go_loopw [8, 9] (fun v q wr => ((q = .int .i64 0 ∧ v = .int .i64 (-1)) ∨ (q = .int .i64 1 ∧ v = .int .i64 (-1)) ∨ (q = .int .i64 2 ∧ v = .int .i64 (-1)) ∨ (q = .int .i64 3 ∧ v = .int .i64 9) ∨ (q = .int .i64 4 ∧ v = .int .i64 9)) ∧ wo = wr) (fun _ q _ => 4 - (intOf q).toNat)
      case atStart => exact ⟨.inl ⟨rfl, rfl⟩, by first | rfl | trivial⟩
      case round =>
       obtain ⟨hq, rfl⟩ := hrel
       rcases hq with ⟨rfl, rfl⟩ | ⟨rfl, rfl⟩ | ⟨rfl, rfl⟩ | ⟨rfl, rfl⟩ | ⟨rfl, rfl⟩
       · go_wp2
         go_roundw
         case rel => exact ⟨.inr (.inl ⟨by first | rfl | go_num, by first | rfl | go_num⟩), by first | rfl | trivial⟩
         case measure => simp [intOf]
       · go_wp2
         go_roundw
         case rel => exact ⟨.inr (.inr (.inl ⟨by first | rfl | go_num, by first | rfl | go_num⟩)), by first | rfl | trivial⟩
         case measure => simp [intOf]
       · go_wp2
         go_roundw
         case rel => exact ⟨.inr (.inr (.inr (.inl ⟨by first | rfl | go_num, by first | rfl | go_num⟩))), by first | rfl | trivial⟩
         case measure => simp [intOf]
       · go_wp2
         go_roundw
         case rel => exact ⟨.inr (.inr (.inr (.inr (⟨by first | rfl | go_num, by first | rfl | go_num⟩)))), by first | rfl | trivial⟩
         case measure => simp [intOf]
       · clear C73 C74
         go_wp2_with (first
          | ((with_reducible refine g_store 2 ?_); go_must (refine ev_store rfl rfl B2 (news := [.int .i64 3, .int .i64 9, .bool false, .slice none 0 0, .string ⟨#[]⟩, .slice none 0 0, .slice none 0 0]) (by first | rfl | (go_simp; try rfl)) infoD (by simp) (by simp [Value.oneCell']) ?_); intro wn ho Bn; simp only [encD, zA, zB, zC, zD, zE, zF, zG, zH] at Bn; replace hu := hu.only_new ho hs2; have R2 : RR wn g T _ _ _ := ⟨R.out.only ho (Ne.symm hne2)⟩; clear C R; have R := R2; clear R2; have C := R.out.cells; replace B2 := Bn; clear Bn ho))
         refine bodyPost_ret (results_cell_row rfl _ _ g2 35 ([.int .i64 3, .int .i64 9, .bool false, .slice none 0 0, .string ⟨#[]⟩, .slice none 0 0, .slice none 0 0] : List Value).toArray (0, 0) _ rfl B2.h Tryz.underlying35 rfl (by kernel_rfl)) rfl ?_
         exact ⟨_, rfl, hu, by rw [Hr.out]; exact ⟨R, hEs⟩, .mk 3 9 false none 0 [] [] none 0 [] none 0 [], rfl, good_z _ _ _ (by omega) (by omega) _, fun b hb => (by rw [foot_z] at hb; cases hb), fun x e h => by rw [Hr.out] at h; cases h; rfl⟩
   have e2 := htl [116, 97, 98]
   rw [decide_eq_false cN2] at e2
   by_cases cN3 : U.data.toList = [110, 117, 108]
   · have Hr := As.mk (HOK.out 0 (by rw [cN3]; rfl))
     have e3 := htl [110, 117, 108]
     rw [decide_eq_true cN3] at e3
     have hsz : U.size = 3 := by rw [← size_list, cN3]; rfl
     have hs1 : ((U.size : Int) == 1) = false := by rw [hsz]; rfl
     clear htl cN3 cN0 cN1 cN2
     as_aux_lemma =>
      go_wp2_with (first
       | ((with_reducible refine g_dst 73 ?_); go_must (refine ev_lit (v := fun g => .slice (some ⟨g, 0, none⟩) 4 4) 73 rfl (cs := [.string ⟨#[115, 112, 97, 99, 101]⟩, .string ⟨#[110, 101, 119, 108, 105, 110, 101]⟩, .string ⟨#[116, 97, 98]⟩, .string ⟨#[110, 117, 108]⟩]) (t := 9) (by first | kernel_rfl | (go_simp; rfl)) ?_); intro g73 wn hb B73 hg73; have hn73 : g73 ≠ g := (fun h => by have := R.lt; omega); have hm73 : g73 ≠ g2 := (fun h => by have := B2.lt; omega); clear hg73; replace R := R.below hb; clear C; have C := R.out.cells; replace hu := hu.trans (Upg.of_below hb); replace B2 := B2.below hb; clear hb)
       | ((with_reducible refine g_dst 74 ?_); go_must (refine ev_lit (v := fun g => .slice (some ⟨g, 0, none⟩) 4 4) 74 rfl (cs := [.int .i64 32, .int .i64 10, .int .i64 9, .int .i64 0]) (t := 3) (by first | kernel_rfl | (go_simp; rfl)) ?_); intro g74 wn hb B74 hg74; have hn74 : g74 ≠ g := (fun h => by have := R.lt; omega); have hm74 : g74 ≠ g2 := (fun h => by have := B2.lt; omega); clear hg74; replace R := R.below hb; clear C; have C := R.out.cells; replace hu := hu.trans (Upg.of_below hb); replace B2 := B2.below hb; replace B73 := B73.below hb; clear hb))
      obtain ⟨wo, rfl⟩ : ∃ wo : World, wo = wn := ⟨_, rfl⟩
      have C73 := B73.cells
      have C74 := B74.cells
      go_loopw [8, 9] (fun v q wr => ((q = .int .i64 0 ∧ v = .int .i64 (-1)) ∨ (q = .int .i64 1 ∧ v = .int .i64 (-1)) ∨ (q = .int .i64 2 ∧ v = .int .i64 (-1)) ∨ (q = .int .i64 3 ∧ v = .int .i64 (-1)) ∨ (q = .int .i64 4 ∧ v = .int .i64 0)) ∧ wo = wr) (fun _ q _ => 4 - (intOf q).toNat)
      case atStart => exact ⟨.inl ⟨rfl, rfl⟩, by first | rfl | trivial⟩
      case round =>
       obtain ⟨hq, rfl⟩ := hrel
       rcases hq with ⟨rfl, rfl⟩ | ⟨rfl, rfl⟩ | ⟨rfl, rfl⟩ | ⟨rfl, rfl⟩ | ⟨rfl, rfl⟩
       · go_wp2
         go_roundw
         case rel => exact ⟨.inr (.inl ⟨by first | rfl | go_num, by first | rfl | go_num⟩), by first | rfl | trivial⟩
         case measure => simp [intOf]
       · go_wp2
         go_roundw
         case rel => exact ⟨.inr (.inr (.inl ⟨by first | rfl | go_num, by first | rfl | go_num⟩)), by first | rfl | trivial⟩
         case measure => simp [intOf]
       · go_wp2
         go_roundw
         case rel => exact ⟨.inr (.inr (.inr (.inl ⟨by first | rfl | go_num, by first | rfl | go_num⟩))), by first | rfl | trivial⟩
         case measure => simp [intOf]
       · go_wp2
         go_roundw
         case rel => exact ⟨.inr (.inr (.inr (.inr (⟨by first | rfl | go_num, by first | rfl | go_num⟩)))), by first | rfl | trivial⟩
         case measure => simp [intOf]
       · clear C73 C74
         go_wp2_with (first
          | ((with_reducible refine g_store 2 ?_); go_must (refine ev_store rfl rfl B2 (news := [.int .i64 3, .int .i64 0, .bool false, .slice none 0 0, .string ⟨#[]⟩, .slice none 0 0, .slice none 0 0]) (by first | rfl | (go_simp; try rfl)) infoD (by simp) (by simp [Value.oneCell']) ?_); intro wn ho Bn; simp only [encD, zA, zB, zC, zD, zE, zF, zG, zH] at Bn; replace hu := hu.only_new ho hs2; have R2 : RR wn g T _ _ _ := ⟨R.out.only ho (Ne.symm hne2)⟩; clear C R; have R := R2; clear R2; have C := R.out.cells; replace B2 := Bn; clear Bn ho))
         refine bodyPost_ret (results_cell_row rfl _ _ g2 35 ([.int .i64 3, .int .i64 0, .bool false, .slice none 0 0, .string ⟨#[]⟩, .slice none 0 0, .slice none 0 0] : List Value).toArray (0, 0) _ rfl B2.h Tryz.underlying35 rfl (by kernel_rfl)) rfl ?_
         exact ⟨_, rfl, hu, by rw [Hr.out]; exact ⟨R, hEs⟩, .mk 3 0 false none 0 [] [] none 0 [] none 0 [], rfl, good_z _ _ _ (by omega) (by omega) _, fun b hb => (by rw [foot_z] at hb; cases hb), fun x e h => by rw [Hr.out] at h; cases h; rfl⟩
   have e3 := htl [110, 117, 108]
   rw [decide_eq_false cN3] at e3
   clear htl
   by_cases h1 : U.data.toList.length = 1
   · obtain ⟨x, hx⟩ : ∃ x, x = c0.toNat := ⟨_, rfl⟩
     have hxl := c0.toNat_lt
     have Hr := As.mk (HOK.out x (by
      have hu1 : U.data.toList = [c0] := by
       rw [hu0]
       congr 1
       refine List.eq_nil_of_length_eq_zero ?_
       rw [List.length_drop, h1]
      rw [hu1, hx]
      simp only [charF]
      repeat' split
      all_goals first | rfl | (rename_i h; simp at h)))
     have hsz : U.size = 1 := by rw [← size_list]; exact h1
     have hs1 : ((U.size : Int) == 1) = true := by rw [← size_list, h1]; rfl
     have hcx : ((U[0]'hp0).toNat : Int) = (x : Int) := by rw [hcx0, hx]
     have hxn : ¬ ((x : Int) < 0) := by omega
     rw [← hx] at hxl
     clear h1 hcx0 hx hu0
     as_aux_lemma =>
      go_wp2_with (first
       | ((with_reducible refine g_dst 73 ?_); go_must (refine ev_lit (v := fun g => .slice (some ⟨g, 0, none⟩) 4 4) 73 rfl (cs := [.string ⟨#[115, 112, 97, 99, 101]⟩, .string ⟨#[110, 101, 119, 108, 105, 110, 101]⟩, .string ⟨#[116, 97, 98]⟩, .string ⟨#[110, 117, 108]⟩]) (t := 9) (by first | kernel_rfl | (go_simp; rfl)) ?_); intro g73 wn hb B73 hg73; have hn73 : g73 ≠ g := (fun h => by have := R.lt; omega); have hm73 : g73 ≠ g2 := (fun h => by have := B2.lt; omega); clear hg73; replace R := R.below hb; clear C; have C := R.out.cells; replace hu := hu.trans (Upg.of_below hb); replace B2 := B2.below hb; clear hb)
       | ((with_reducible refine g_dst 74 ?_); go_must (refine ev_lit (v := fun g => .slice (some ⟨g, 0, none⟩) 4 4) 74 rfl (cs := [.int .i64 32, .int .i64 10, .int .i64 9, .int .i64 0]) (t := 3) (by first | kernel_rfl | (go_simp; rfl)) ?_); intro g74 wn hb B74 hg74; have hn74 : g74 ≠ g := (fun h => by have := R.lt; omega); have hm74 : g74 ≠ g2 := (fun h => by have := B2.lt; omega); clear hg74; replace R := R.below hb; clear C; have C := R.out.cells; replace hu := hu.trans (Upg.of_below hb); replace B2 := B2.below hb; replace B73 := B73.below hb; clear hb))
      obtain ⟨wo, rfl⟩ : ∃ wo : World, wo = wn := ⟨_, rfl⟩
      have C73 := B73.cells
      have C74 := B74.cells
      go_loopw [8, 9] (fun v q wr => ((q = .int .i64 0 ∧ v = .int .i64 (x : Int)) ∨ (q = .int .i64 1 ∧ v = .int .i64 (x : Int)) ∨ (q = .int .i64 2 ∧ v = .int .i64 (x : Int)) ∨ (q = .int .i64 3 ∧ v = .int .i64 (x : Int)) ∨ (q = .int .i64 4 ∧ v = .int .i64 (x : Int))) ∧ wo = wr) (fun _ q _ => 4 - (intOf q).toNat)
      case atStart => exact ⟨.inl ⟨rfl, rfl⟩, by first | rfl | trivial⟩
      case round =>
       obtain ⟨hq, rfl⟩ := hrel
       rcases hq with ⟨rfl, rfl⟩ | ⟨rfl, rfl⟩ | ⟨rfl, rfl⟩ | ⟨rfl, rfl⟩ | ⟨rfl, rfl⟩
       · go_wp2
         go_roundw
         case rel => exact ⟨.inr (.inl ⟨by first | rfl | go_num, by first | rfl | go_num⟩), by first | rfl | trivial⟩
         case measure => simp [intOf]
       · go_wp2
         go_roundw
         case rel => exact ⟨.inr (.inr (.inl ⟨by first | rfl | go_num, by first | rfl | go_num⟩)), by first | rfl | trivial⟩
         case measure => simp [intOf]
       · go_wp2
         go_roundw
         case rel => exact ⟨.inr (.inr (.inr (.inl ⟨by first | rfl | go_num, by first | rfl | go_num⟩))), by first | rfl | trivial⟩
         case measure => simp [intOf]
       · go_wp2
         go_roundw
         case rel => exact ⟨.inr (.inr (.inr (.inr (⟨by first | rfl | go_num, by first | rfl | go_num⟩)))), by first | rfl | trivial⟩
         case measure => simp [intOf]
       · clear C73 C74
         go_wp2_with (first
          | ((with_reducible refine g_store 2 ?_); go_must (refine ev_store rfl rfl B2 (news := [.int .i64 3, .int .i64 (x : Int), .bool false, .slice none 0 0, .string ⟨#[]⟩, .slice none 0 0, .slice none 0 0]) (by first | rfl | (go_simp; try rfl)) infoD (by simp) (by simp [Value.oneCell']) ?_); intro wn ho Bn; simp only [encD, zA, zB, zC, zD, zE, zF, zG, zH] at Bn; replace hu := hu.only_new ho hs2; have R2 : RR wn g T _ _ _ := ⟨R.out.only ho (Ne.symm hne2)⟩; clear C R; have R := R2; clear R2; have C := R.out.cells; replace B2 := Bn; clear Bn ho))
         refine bodyPost_ret (results_cell_row rfl _ _ g2 35 ([.int .i64 3, .int .i64 (x : Int), .bool false, .slice none 0 0, .string ⟨#[]⟩, .slice none 0 0, .slice none 0 0] : List Value).toArray (0, 0) _ rfl B2.h Tryz.underlying35 rfl (by kernel_rfl)) rfl ?_
         exact ⟨_, rfl, hu, by rw [Hr.out]; exact ⟨R, hEs⟩, .mk 3 (x : Int) false none 0 [] [] none 0 [] none 0 [], rfl, good_z _ _ _ (by omega) (by omega) _, fun b hb => (by rw [foot_z] at hb; cases hb), fun x e h => by rw [Hr.out] at h; cases h; rfl⟩
   have hN1 : ¬ U.size = 1 := fun h => h1 (by rw [size_list]; exact h)
   have hN1i : ¬ (U.size : Int) = 1 := by omega
   have hs1 : ((U.size : Int) == 1) = false := by simp; omega
   have hlong := charF_long cN0 cN1 cN2 cN3 h1
   clear cN0 cN1 cN2 cN3 h1
   have key := hlong
   by_cases h120 : c0 = 120
   case neg =>
    have z120 : ((c0.toNat : Int) == 120) = false := by
     have := u8R c0 120 (by omega)
     rw [show (c0 == UInt8.ofNat 120) = false by simpa using h120] at this
     exact this
    have Hr := As.mk (HER.out (by rw [hlong, if_neg (fun h => h120 (by
     have h2 := h.2
     rw [hg0] at h2
     exact Option.some.inj h2))]))
    clear hlong key h120 hu0 hg0
    as_aux_lemma =>
     go_wp2_with (first
      | ((with_reducible refine g_dst 73 ?_); go_must (refine ev_lit (v := fun g => .slice (some ⟨g, 0, none⟩) 4 4) 73 rfl (cs := [.string ⟨#[115, 112, 97, 99, 101]⟩, .string ⟨#[110, 101, 119, 108, 105, 110, 101]⟩, .string ⟨#[116, 97, 98]⟩, .string ⟨#[110, 117, 108]⟩]) (t := 9) (by first | kernel_rfl | (go_simp; rfl)) ?_); intro g73 wn hb B73 hg73; have hn73 : g73 ≠ g := (fun h => by have := R.lt; omega); have hm73 : g73 ≠ g2 := (fun h => by have := B2.lt; omega); clear hg73; replace R := R.below hb; clear C; have C := R.out.cells; replace hu := hu.trans (Upg.of_below hb); replace B2 := B2.below hb; clear hb)
      | ((with_reducible refine g_dst 74 ?_); go_must (refine ev_lit (v := fun g => .slice (some ⟨g, 0, none⟩) 4 4) 74 rfl (cs := [.int .i64 32, .int .i64 10, .int .i64 9, .int .i64 0]) (t := 3) (by first | kernel_rfl | (go_simp; rfl)) ?_); intro g74 wn hb B74 hg74; have hn74 : g74 ≠ g := (fun h => by have := R.lt; omega); have hm74 : g74 ≠ g2 := (fun h => by have := B2.lt; omega); clear hg74; replace R := R.below hb; clear C; have C := R.out.cells; replace hu := hu.trans (Upg.of_below hb); replace B2 := B2.below hb; replace B73 := B73.below hb; clear hb))
     obtain ⟨wo, rfl⟩ : ∃ wo : World, wo = wn := ⟨_, rfl⟩
     have C73 := B73.cells
     have C74 := B74.cells
     go_loopw [8, 9] (fun v q wr => ((q = .int .i64 0 ∧ v = .int .i64 (-1)) ∨ (q = .int .i64 1 ∧ v = .int .i64 (-1)) ∨ (q = .int .i64 2 ∧ v = .int .i64 (-1)) ∨ (q = .int .i64 3 ∧ v = .int .i64 (-1)) ∨ (q = .int .i64 4 ∧ v = .int .i64 (-1))) ∧ wo = wr) (fun _ q _ => 4 - (intOf q).toNat)
     case atStart => exact ⟨.inl ⟨rfl, rfl⟩, by first | rfl | trivial⟩
     case round =>
      obtain ⟨hq, rfl⟩ := hrel
      rcases hq with ⟨rfl, rfl⟩ | ⟨rfl, rfl⟩ | ⟨rfl, rfl⟩ | ⟨rfl, rfl⟩ | ⟨rfl, rfl⟩
      · go_wp2
        go_roundw
        case rel => exact ⟨.inr (.inl ⟨by first | rfl | go_num, by first | rfl | go_num⟩), by first | rfl | trivial⟩
        case measure => simp [intOf]
      · go_wp2
        go_roundw
        case rel => exact ⟨.inr (.inr (.inl ⟨by first | rfl | go_num, by first | rfl | go_num⟩)), by first | rfl | trivial⟩
        case measure => simp [intOf]
      · go_wp2
        go_roundw
        case rel => exact ⟨.inr (.inr (.inr (.inl ⟨by first | rfl | go_num, by first | rfl | go_num⟩))), by first | rfl | trivial⟩
        case measure => simp [intOf]
      · go_wp2
        go_roundw
        case rel => exact ⟨.inr (.inr (.inr (.inr (⟨by first | rfl | go_num, by first | rfl | go_num⟩)))), by first | rfl | trivial⟩
        case measure => simp [intOf]
      · clear C73 C74
        go_wp2_with (first
         | (go_at_call 31; (with_reducible refine (rfail_ok R 14 (i : Int)).mono ?_); rintro e wn ⟨rfl, ho, R2⟩; have hq := Upg.of_only ho; clear C R; have R := R2; clear R2; have C := R.out.cells; replace hu := hu.trans hq; replace B2 := blk_upg B2 hq hne2; clear hq)
         | ((with_reducible refine g_store 2 ?_); go_must (refine ev_store rfl rfl B2 (news := [.int .i64 0, .int .i64 0, .bool false, .slice none 0 0, .string ⟨#[]⟩, .slice none 0 0, .slice none 0 0]) (by first | rfl | (go_simp; try rfl)) infoD (by simp) (by simp [Value.oneCell']) ?_); intro wn ho Bn; simp only [encD, zA, zB, zC, zD, zE, zF, zG, zH] at Bn; replace hu := hu.only_new ho hs2; have R2 : RR wn g T _ _ _ := ⟨R.out.only ho (Ne.symm hne2)⟩; clear C R; have R := R2; clear R2; have C := R.out.cells; replace B2 := Bn; clear Bn ho))
        refine bodyPost_ret (results_cell_row rfl _ _ g2 35 ([.int .i64 0, .int .i64 0, .bool false, .slice none 0 0, .string ⟨#[]⟩, .slice none 0 0, .slice none 0 0] : List Value).toArray (0, 0) _ rfl B2.h Tryz.underlying35 rfl (by kernel_rfl)) rfl ?_
        exact ⟨_, rfl, hu, by rw [Hr.out]; exact ⟨_, R, by decide⟩, ldZ, rfl, good_z _ _ _ (by decide) (by decide) _, fun b hb => (by rw [ldZ, foot_z] at hb; cases hb), fun x e h => by rw [Hr.out] at h; cases h⟩
   have z120 : ((c0.toNat : Int) == 120) = true := by rw [h120]; rfl
   clear key
   by_cases h2 : U.size = 2
   · have s2 : ((U.size : Int) == 2) = true := by rw [h2]; rfl
     have h2i : (1 : Int) < (U.size : Int) := by omega
     have h2j : ¬ (2 : Int) < (U.size : Int) := by omega
     obtain ⟨a, ha⟩ := get_size U (i := 1) (by omega)
     have hcx1 := get_c (by omega) ha
     have huu : U.data.toList.drop 1 = [a] := by
      rw [drop_at ha, List.drop_eq_nil_of_le (by rw [size_list]; omega)]
     have hl2 : charF U.data.toList = hexF 0 [a] := by rw [hlong, if_pos ⟨.inl (by rw [size_list]; exact h2), by rw [hg0, h120]⟩, huu]
     clear hlong huu h120 hu0 hg0
     cases hd : hexD a with
     | none =>
       have Hr := As.mk (HER.out (by rw [hl2]; simp [hexF, hd]))
       have hx1 : hexI a = -1 := by rw [hexI, hd]
       clear hl2 hd ha
       as_aux_lemma =>
        go_wp2_with (first
         | ((with_reducible refine g_dst 73 ?_); go_must (refine ev_lit (v := fun g => .slice (some ⟨g, 0, none⟩) 4 4) 73 rfl (cs := [.string ⟨#[115, 112, 97, 99, 101]⟩, .string ⟨#[110, 101, 119, 108, 105, 110, 101]⟩, .string ⟨#[116, 97, 98]⟩, .string ⟨#[110, 117, 108]⟩]) (t := 9) (by first | kernel_rfl | (go_simp; rfl)) ?_); intro g73 wn hb B73 hg73; have hn73 : g73 ≠ g := (fun h => by have := R.lt; omega); have hm73 : g73 ≠ g2 := (fun h => by have := B2.lt; omega); clear hg73; replace R := R.below hb; clear C; have C := R.out.cells; replace hu := hu.trans (Upg.of_below hb); replace B2 := B2.below hb; clear hb)
         | ((with_reducible refine g_dst 74 ?_); go_must (refine ev_lit (v := fun g => .slice (some ⟨g, 0, none⟩) 4 4) 74 rfl (cs := [.int .i64 32, .int .i64 10, .int .i64 9, .int .i64 0]) (t := 3) (by first | kernel_rfl | (go_simp; rfl)) ?_); intro g74 wn hb B74 hg74; have hn74 : g74 ≠ g := (fun h => by have := R.lt; omega); have hm74 : g74 ≠ g2 := (fun h => by have := B2.lt; omega); clear hg74; replace R := R.below hb; clear C; have C := R.out.cells; replace hu := hu.trans (Upg.of_below hb); replace B2 := B2.below hb; replace B73 := B73.below hb; clear hb))
        obtain ⟨wo, rfl⟩ : ∃ wo : World, wo = wn := ⟨_, rfl⟩
        have C73 := B73.cells
        have C74 := B74.cells
        go_loopw [8, 9] (fun v q wr => ((q = .int .i64 0 ∧ v = .int .i64 (-1)) ∨ (q = .int .i64 1 ∧ v = .int .i64 (-1)) ∨ (q = .int .i64 2 ∧ v = .int .i64 (-1)) ∨ (q = .int .i64 3 ∧ v = .int .i64 (-1)) ∨ (q = .int .i64 4 ∧ v = .int .i64 (-1))) ∧ wo = wr) (fun _ q _ => 4 - (intOf q).toNat)
        case atStart => exact ⟨.inl ⟨rfl, rfl⟩, by first | rfl | trivial⟩
        case round =>
         obtain ⟨hq, rfl⟩ := hrel
         rcases hq with ⟨rfl, rfl⟩ | ⟨rfl, rfl⟩ | ⟨rfl, rfl⟩ | ⟨rfl, rfl⟩ | ⟨rfl, rfl⟩
         · go_wp2
           go_roundw
           case rel => exact ⟨.inr (.inl ⟨by first | rfl | go_num, by first | rfl | go_num⟩), by first | rfl | trivial⟩
           case measure => simp [intOf]
         · go_wp2
           go_roundw
           case rel => exact ⟨.inr (.inr (.inl ⟨by first | rfl | go_num, by first | rfl | go_num⟩)), by first | rfl | trivial⟩
           case measure => simp [intOf]
         · go_wp2
           go_roundw
           case rel => exact ⟨.inr (.inr (.inr (.inl ⟨by first | rfl | go_num, by first | rfl | go_num⟩))), by first | rfl | trivial⟩
           case measure => simp [intOf]
         · go_wp2
           go_roundw
           case rel => exact ⟨.inr (.inr (.inr (.inr (⟨by first | rfl | go_num, by first | rfl | go_num⟩)))), by first | rfl | trivial⟩
           case measure => simp [intOf]
         · clear C73 C74
           go_wp2
           have hu0 := hu
           go_loopw [8, 10] (fun v q wr => ((q = .int .i64 1 ∧ v = .int .i64 0)) ∧ RR wr g T E 0 0 ∧ Upg g w wr ∧ Blk wr g2 [.int .i64 0, .int .i64 0, .bool false, .slice none 0 0, .string ⟨#[]⟩, .slice none 0 0, .slice none 0 0] 35) (fun _ q _ => 4 - (intOf q).toNat)
           case atStart => exact ⟨⟨rfl, rfl⟩, R, hu, B2⟩
           case round =>
            clear R hu B2 C hu0
            obtain ⟨hq, R, hu, B2⟩ := hrel
            have C := R.out.cells
            rcases hq with ⟨rfl, rfl⟩
            · go_wp2_with (first
               | (go_at_call 49; (with_reducible refine (rhex_b _ (-1 : Int) hx1 _).mono ?_); rintro e wn ⟨vn, rfl, rfl, hb⟩; replace R := R.below hb; clear C; have C := R.out.cells; replace hu := hu.trans (Upg.of_below hb); replace B2 := B2.below hb; clear hb)
               | (go_at_call 31; (with_reducible refine (rfail_ok R 14 (i : Int)).mono ?_); rintro e wn ⟨rfl, ho, R2⟩; have hq := Upg.of_only ho; clear C R; have R := R2; clear R2; have C := R.out.cells; replace hu := hu.trans hq; replace B2 := blk_upg B2 hq hne2; clear hq)
               | ((with_reducible refine g_store 2 ?_); go_must (refine ev_store rfl rfl B2 (news := [.int .i64 0, .int .i64 0, .bool false, .slice none 0 0, .string ⟨#[]⟩, .slice none 0 0, .slice none 0 0]) (by first | rfl | (go_simp; try rfl)) infoD (by simp) (by simp [Value.oneCell']) ?_); intro wn ho Bn; simp only [encD, zA, zB, zC, zD, zE, zF, zG, zH] at Bn; replace hu := hu.only_new ho hs2; have R2 : RR wn g T _ _ _ := ⟨R.out.only ho (Ne.symm hne2)⟩; clear C R; have R := R2; clear R2; have C := R.out.cells; replace B2 := Bn; clear Bn ho))
              refine bodyPost_ret (results_cell_row rfl _ _ g2 35 ([.int .i64 0, .int .i64 0, .bool false, .slice none 0 0, .string ⟨#[]⟩, .slice none 0 0, .slice none 0 0] : List Value).toArray (0, 0) _ rfl B2.h Tryz.underlying35 rfl (by kernel_rfl)) rfl ?_
              exact ⟨_, rfl, hu, by rw [Hr.out]; exact ⟨_, R, by decide⟩, ldZ, rfl, good_z _ _ _ (by decide) (by decide) _, fun b hb => (by rw [ldZ, foot_z] at hb; cases hb), fun x e h => by rw [Hr.out] at h; cases h⟩
     | some d1 =>
       have hd1 := hexD_lt hd
       have Hr := As.mk (HOK.out d1 (by rw [hl2]; simp [hexF, hd]))
       have hx1 : hexI a = (d1 : Int) := by rw [hexI, hd]
       have hdn : ¬ ((d1 : Int) < 0) := by omega
       clear hl2 hd ha
       as_aux_lemma =>
        go_wp2_with (first
         | ((with_reducible refine g_dst 73 ?_); go_must (refine ev_lit (v := fun g => .slice (some ⟨g, 0, none⟩) 4 4) 73 rfl (cs := [.string ⟨#[115, 112, 97, 99, 101]⟩, .string ⟨#[110, 101, 119, 108, 105, 110, 101]⟩, .string ⟨#[116, 97, 98]⟩, .string ⟨#[110, 117, 108]⟩]) (t := 9) (by first | kernel_rfl | (go_simp; rfl)) ?_); intro g73 wn hb B73 hg73; have hn73 : g73 ≠ g := (fun h => by have := R.lt; omega); have hm73 : g73 ≠ g2 := (fun h => by have := B2.lt; omega); clear hg73; replace R := R.below hb; clear C; have C := R.out.cells; replace hu := hu.trans (Upg.of_below hb); replace B2 := B2.below hb; clear hb)
         | ((with_reducible refine g_dst 74 ?_); go_must (refine ev_lit (v := fun g => .slice (some ⟨g, 0, none⟩) 4 4) 74 rfl (cs := [.int .i64 32, .int .i64 10, .int .i64 9, .int .i64 0]) (t := 3) (by first | kernel_rfl | (go_simp; rfl)) ?_); intro g74 wn hb B74 hg74; have hn74 : g74 ≠ g := (fun h => by have := R.lt; omega); have hm74 : g74 ≠ g2 := (fun h => by have := B2.lt; omega); clear hg74; replace R := R.below hb; clear C; have C := R.out.cells; replace hu := hu.trans (Upg.of_below hb); replace B2 := B2.below hb; replace B73 := B73.below hb; clear hb))
        obtain ⟨wo, rfl⟩ : ∃ wo : World, wo = wn := ⟨_, rfl⟩
        have C73 := B73.cells
        have C74 := B74.cells
        go_loopw [8, 9] (fun v q wr => ((q = .int .i64 0 ∧ v = .int .i64 (-1)) ∨ (q = .int .i64 1 ∧ v = .int .i64 (-1)) ∨ (q = .int .i64 2 ∧ v = .int .i64 (-1)) ∨ (q = .int .i64 3 ∧ v = .int .i64 (-1)) ∨ (q = .int .i64 4 ∧ v = .int .i64 (-1))) ∧ wo = wr) (fun _ q _ => 4 - (intOf q).toNat)
        case atStart => exact ⟨.inl ⟨rfl, rfl⟩, by first | rfl | trivial⟩
        case round =>
         obtain ⟨hq, rfl⟩ := hrel
         rcases hq with ⟨rfl, rfl⟩ | ⟨rfl, rfl⟩ | ⟨rfl, rfl⟩ | ⟨rfl, rfl⟩ | ⟨rfl, rfl⟩
         · go_wp2
           go_roundw
           case rel => exact ⟨.inr (.inl ⟨by first | rfl | go_num, by first | rfl | go_num⟩), by first | rfl | trivial⟩
           case measure => simp [intOf]
         · go_wp2
           go_roundw
           case rel => exact ⟨.inr (.inr (.inl ⟨by first | rfl | go_num, by first | rfl | go_num⟩)), by first | rfl | trivial⟩
           case measure => simp [intOf]
         · go_wp2
           go_roundw
           case rel => exact ⟨.inr (.inr (.inr (.inl ⟨by first | rfl | go_num, by first | rfl | go_num⟩))), by first | rfl | trivial⟩
           case measure => simp [intOf]
         · go_wp2
           go_roundw
           case rel => exact ⟨.inr (.inr (.inr (.inr (⟨by first | rfl | go_num, by first | rfl | go_num⟩)))), by first | rfl | trivial⟩
           case measure => simp [intOf]
         · clear C73 C74
           go_wp2
           have hu0 := hu
           go_loopw [8, 10] (fun v q wr => ((q = .int .i64 1 ∧ v = .int .i64 0) ∨ (q = .int .i64 2 ∧ v = .int .i64 (d1 : Int))) ∧ RR wr g T E 0 0 ∧ Upg g w wr ∧ Blk wr g2 [.int .i64 0, .int .i64 0, .bool false, .slice none 0 0, .string ⟨#[]⟩, .slice none 0 0, .slice none 0 0] 35) (fun _ q _ => 4 - (intOf q).toNat)
           case atStart => exact ⟨.inl ⟨rfl, rfl⟩, R, hu, B2⟩
           case round =>
            clear R hu B2 C hu0
            obtain ⟨hq, R, hu, B2⟩ := hrel
            have C := R.out.cells
            rcases hq with ⟨rfl, rfl⟩ | ⟨rfl, rfl⟩
            · go_wp2_with (first
               | (go_at_call 49; (with_reducible refine (rhex_b _ (d1 : Int) hx1 _).mono ?_); rintro e wn ⟨vn, rfl, rfl, hb⟩; replace R := R.below hb; clear C; have C := R.out.cells; replace hu := hu.trans (Upg.of_below hb); replace B2 := B2.below hb; clear hb))
              go_roundw
              case rel => exact ⟨.inr (⟨by first | rfl | go_num, by first | rfl | go_num | (congr 1; go_num) | (simp; omega)⟩), R, hu, B2⟩
              case measure => simp [intOf]
            · go_wp2_with (first
               | ((with_reducible refine g_store 2 ?_); go_must (refine ev_store rfl rfl B2 (news := [.int .i64 3, .int .i64 (d1 : Int), .bool false, .slice none 0 0, .string ⟨#[]⟩, .slice none 0 0, .slice none 0 0]) (by first | rfl | (go_simp; try rfl)) infoD (by simp) (by simp [Value.oneCell']) ?_); intro wn ho Bn; simp only [encD, zA, zB, zC, zD, zE, zF, zG, zH] at Bn; replace hu := hu.only_new ho hs2; have R2 : RR wn g T _ _ _ := ⟨R.out.only ho (Ne.symm hne2)⟩; clear C R; have R := R2; clear R2; have C := R.out.cells; replace B2 := Bn; clear Bn ho))
              refine bodyPost_ret (results_cell_row rfl _ _ g2 35 ([.int .i64 3, .int .i64 (d1 : Int), .bool false, .slice none 0 0, .string ⟨#[]⟩, .slice none 0 0, .slice none 0 0] : List Value).toArray (0, 0) _ rfl B2.h Tryz.underlying35 rfl (by kernel_rfl)) rfl ?_
              exact ⟨_, rfl, hu, by rw [Hr.out]; exact ⟨R, hEs⟩, .mk 3 (d1 : Int) false none 0 [] [] none 0 [] none 0 [], rfl, good_z _ _ _ (by omega) (by omega) _, fun b hb => (by rw [foot_z] at hb; cases hb), fun x e h => by rw [Hr.out] at h; cases h; rfl⟩
   by_cases h3 : U.size = 3
   · have s2 : ((U.size : Int) == 2) = false := by rw [h3]; rfl
     have s3 : ((U.size : Int) == 3) = true := by rw [h3]; rfl
     have h2i : (1 : Int) < (U.size : Int) := by omega
     have h2j : (2 : Int) < (U.size : Int) := by omega
     have h2k : ¬ (3 : Int) < (U.size : Int) := by omega
     obtain ⟨a, ha⟩ := get_size U (i := 1) (by omega)
     have hcx1 := get_c (by omega) ha
     obtain ⟨b, hb2⟩ := get_size U (i := 2) (by omega)
     have hcx2 := get_c (by omega) hb2
     have huu : U.data.toList.drop 1 = [a, b] := by
      rw [drop_at ha, drop_at hb2, List.drop_eq_nil_of_le (by rw [size_list]; omega)]
     have hl2 : charF U.data.toList = hexF 0 [a, b] := by rw [hlong, if_pos ⟨.inr (by rw [size_list]; exact h3), by rw [hg0, h120]⟩, huu]
     clear hlong huu h120 hu0 hg0
     cases hd : hexD a with
     | none =>
       have Hr := As.mk (HER.out (by rw [hl2]; simp [hexF, hd]))
       have hx1 : hexI a = -1 := by rw [hexI, hd]
       clear hl2 hd ha hb2
       as_aux_lemma =>
        go_wp2_with (first
         | ((with_reducible refine g_dst 73 ?_); go_must (refine ev_lit (v := fun g => .slice (some ⟨g, 0, none⟩) 4 4) 73 rfl (cs := [.string ⟨#[115, 112, 97, 99, 101]⟩, .string ⟨#[110, 101, 119, 108, 105, 110, 101]⟩, .string ⟨#[116, 97, 98]⟩, .string ⟨#[110, 117, 108]⟩]) (t := 9) (by first | kernel_rfl | (go_simp; rfl)) ?_); intro g73 wn hb B73 hg73; have hn73 : g73 ≠ g := (fun h => by have := R.lt; omega); have hm73 : g73 ≠ g2 := (fun h => by have := B2.lt; omega); clear hg73; replace R := R.below hb; clear C; have C := R.out.cells; replace hu := hu.trans (Upg.of_below hb); replace B2 := B2.below hb; clear hb)
         | ((with_reducible refine g_dst 74 ?_); go_must (refine ev_lit (v := fun g => .slice (some ⟨g, 0, none⟩) 4 4) 74 rfl (cs := [.int .i64 32, .int .i64 10, .int .i64 9, .int .i64 0]) (t := 3) (by first | kernel_rfl | (go_simp; rfl)) ?_); intro g74 wn hb B74 hg74; have hn74 : g74 ≠ g := (fun h => by have := R.lt; omega); have hm74 : g74 ≠ g2 := (fun h => by have := B2.lt; omega); clear hg74; replace R := R.below hb; clear C; have C := R.out.cells; replace hu := hu.trans (Upg.of_below hb); replace B2 := B2.below hb; replace B73 := B73.below hb; clear hb))
        obtain ⟨wo, rfl⟩ : ∃ wo : World, wo = wn := ⟨_, rfl⟩
        have C73 := B73.cells
        have C74 := B74.cells
        go_loopw [8, 9] (fun v q wr => ((q = .int .i64 0 ∧ v = .int .i64 (-1)) ∨ (q = .int .i64 1 ∧ v = .int .i64 (-1)) ∨ (q = .int .i64 2 ∧ v = .int .i64 (-1)) ∨ (q = .int .i64 3 ∧ v = .int .i64 (-1)) ∨ (q = .int .i64 4 ∧ v = .int .i64 (-1))) ∧ wo = wr) (fun _ q _ => 4 - (intOf q).toNat)
        case atStart => exact ⟨.inl ⟨rfl, rfl⟩, by first | rfl | trivial⟩
        case round =>
         obtain ⟨hq, rfl⟩ := hrel
         rcases hq with ⟨rfl, rfl⟩ | ⟨rfl, rfl⟩ | ⟨rfl, rfl⟩ | ⟨rfl, rfl⟩ | ⟨rfl, rfl⟩
         · go_wp2
           go_roundw
           case rel => exact ⟨.inr (.inl ⟨by first | rfl | go_num, by first | rfl | go_num⟩), by first | rfl | trivial⟩
           case measure => simp [intOf]
         · go_wp2
           go_roundw
           case rel => exact ⟨.inr (.inr (.inl ⟨by first | rfl | go_num, by first | rfl | go_num⟩)), by first | rfl | trivial⟩
           case measure => simp [intOf]
         · go_wp2
           go_roundw
           case rel => exact ⟨.inr (.inr (.inr (.inl ⟨by first | rfl | go_num, by first | rfl | go_num⟩))), by first | rfl | trivial⟩
           case measure => simp [intOf]
         · go_wp2
           go_roundw
           case rel => exact ⟨.inr (.inr (.inr (.inr (⟨by first | rfl | go_num, by first | rfl | go_num⟩)))), by first | rfl | trivial⟩
           case measure => simp [intOf]
         · clear C73 C74
           go_wp2
           have hu0 := hu
           go_loopw [8, 10] (fun v q wr => ((q = .int .i64 1 ∧ v = .int .i64 0)) ∧ RR wr g T E 0 0 ∧ Upg g w wr ∧ Blk wr g2 [.int .i64 0, .int .i64 0, .bool false, .slice none 0 0, .string ⟨#[]⟩, .slice none 0 0, .slice none 0 0] 35) (fun _ q _ => 4 - (intOf q).toNat)
           case atStart => exact ⟨⟨rfl, rfl⟩, R, hu, B2⟩
           case round =>
            clear R hu B2 C hu0
            obtain ⟨hq, R, hu, B2⟩ := hrel
            have C := R.out.cells
            rcases hq with ⟨rfl, rfl⟩
            · go_wp2_with (first
               | (go_at_call 49; (with_reducible refine (rhex_b _ (-1 : Int) hx1 _).mono ?_); rintro e wn ⟨vn, rfl, rfl, hb⟩; replace R := R.below hb; clear C; have C := R.out.cells; replace hu := hu.trans (Upg.of_below hb); replace B2 := B2.below hb; clear hb)
               | (go_at_call 31; (with_reducible refine (rfail_ok R 14 (i : Int)).mono ?_); rintro e wn ⟨rfl, ho, R2⟩; have hq := Upg.of_only ho; clear C R; have R := R2; clear R2; have C := R.out.cells; replace hu := hu.trans hq; replace B2 := blk_upg B2 hq hne2; clear hq)
               | ((with_reducible refine g_store 2 ?_); go_must (refine ev_store rfl rfl B2 (news := [.int .i64 0, .int .i64 0, .bool false, .slice none 0 0, .string ⟨#[]⟩, .slice none 0 0, .slice none 0 0]) (by first | rfl | (go_simp; try rfl)) infoD (by simp) (by simp [Value.oneCell']) ?_); intro wn ho Bn; simp only [encD, zA, zB, zC, zD, zE, zF, zG, zH] at Bn; replace hu := hu.only_new ho hs2; have R2 : RR wn g T _ _ _ := ⟨R.out.only ho (Ne.symm hne2)⟩; clear C R; have R := R2; clear R2; have C := R.out.cells; replace B2 := Bn; clear Bn ho))
              refine bodyPost_ret (results_cell_row rfl _ _ g2 35 ([.int .i64 0, .int .i64 0, .bool false, .slice none 0 0, .string ⟨#[]⟩, .slice none 0 0, .slice none 0 0] : List Value).toArray (0, 0) _ rfl B2.h Tryz.underlying35 rfl (by kernel_rfl)) rfl ?_
              exact ⟨_, rfl, hu, by rw [Hr.out]; exact ⟨_, R, by decide⟩, ldZ, rfl, good_z _ _ _ (by decide) (by decide) _, fun b hb => (by rw [ldZ, foot_z] at hb; cases hb), fun x e h => by rw [Hr.out] at h; cases h⟩
     | some d1 =>
       have hd1 := hexD_lt hd
       have hx1 : hexI a = (d1 : Int) := by rw [hexI, hd]
       have hdn : ¬ ((d1 : Int) < 0) := by omega
       cases hd2 : hexD b with
       | none =>
         have Hr := As.mk (HER.out (by rw [hl2]; simp [hexF, hd, hd2]))
         have hx2 : hexI b = -1 := by rw [hexI, hd2]
         clear hl2 hd hd2 ha hb2
         as_aux_lemma =>
          go_wp2_with (first
           | ((with_reducible refine g_dst 73 ?_); go_must (refine ev_lit (v := fun g => .slice (some ⟨g, 0, none⟩) 4 4) 73 rfl (cs := [.string ⟨#[115, 112, 97, 99, 101]⟩, .string ⟨#[110, 101, 119, 108, 105, 110, 101]⟩, .string ⟨#[116, 97, 98]⟩, .string ⟨#[110, 117, 108]⟩]) (t := 9) (by first | kernel_rfl | (go_simp; rfl)) ?_); intro g73 wn hb B73 hg73; have hn73 : g73 ≠ g := (fun h => by have := R.lt; omega); have hm73 : g73 ≠ g2 := (fun h => by have := B2.lt; omega); clear hg73; replace R := R.below hb; clear C; have C := R.out.cells; replace hu := hu.trans (Upg.of_below hb); replace B2 := B2.below hb; clear hb)
           | ((with_reducible refine g_dst 74 ?_); go_must (refine ev_lit (v := fun g => .slice (some ⟨g, 0, none⟩) 4 4) 74 rfl (cs := [.int .i64 32, .int .i64 10, .int .i64 9, .int .i64 0]) (t := 3) (by first | kernel_rfl | (go_simp; rfl)) ?_); intro g74 wn hb B74 hg74; have hn74 : g74 ≠ g := (fun h => by have := R.lt; omega); have hm74 : g74 ≠ g2 := (fun h => by have := B2.lt; omega); clear hg74; replace R := R.below hb; clear C; have C := R.out.cells; replace hu := hu.trans (Upg.of_below hb); replace B2 := B2.below hb; replace B73 := B73.below hb; clear hb))
          obtain ⟨wo, rfl⟩ : ∃ wo : World, wo = wn := ⟨_, rfl⟩
          have C73 := B73.cells
          have C74 := B74.cells
          go_loopw [8, 9] (fun v q wr => ((q = .int .i64 0 ∧ v = .int .i64 (-1)) ∨ (q = .int .i64 1 ∧ v = .int .i64 (-1)) ∨ (q = .int .i64 2 ∧ v = .int .i64 (-1)) ∨ (q = .int .i64 3 ∧ v = .int .i64 (-1)) ∨ (q = .int .i64 4 ∧ v = .int .i64 (-1))) ∧ wo = wr) (fun _ q _ => 4 - (intOf q).toNat)
          case atStart => exact ⟨.inl ⟨rfl, rfl⟩, by first | rfl | trivial⟩
          case round =>
           obtain ⟨hq, rfl⟩ := hrel
           rcases hq with ⟨rfl, rfl⟩ | ⟨rfl, rfl⟩ | ⟨rfl, rfl⟩ | ⟨rfl, rfl⟩ | ⟨rfl, rfl⟩
           · go_wp2
             go_roundw
             case rel => exact ⟨.inr (.inl ⟨by first | rfl | go_num, by first | rfl | go_num⟩), by first | rfl | trivial⟩
             case measure => simp [intOf]
           · go_wp2
             go_roundw
             case rel => exact ⟨.inr (.inr (.inl ⟨by first | rfl | go_num, by first | rfl | go_num⟩)), by first | rfl | trivial⟩
             case measure => simp [intOf]
           · go_wp2
             go_roundw
             case rel => exact ⟨.inr (.inr (.inr (.inl ⟨by first | rfl | go_num, by first | rfl | go_num⟩))), by first | rfl | trivial⟩
             case measure => simp [intOf]
           · go_wp2
             go_roundw
             case rel => exact ⟨.inr (.inr (.inr (.inr (⟨by first | rfl | go_num, by first | rfl | go_num⟩)))), by first | rfl | trivial⟩
             case measure => simp [intOf]
           · clear C73 C74
             go_wp2
             have hu0 := hu
             go_loopw [8, 10] (fun v q wr => ((q = .int .i64 1 ∧ v = .int .i64 0) ∨ (q = .int .i64 2 ∧ v = .int .i64 (d1 : Int))) ∧ RR wr g T E 0 0 ∧ Upg g w wr ∧ Blk wr g2 [.int .i64 0, .int .i64 0, .bool false, .slice none 0 0, .string ⟨#[]⟩, .slice none 0 0, .slice none 0 0] 35) (fun _ q _ => 4 - (intOf q).toNat)
             case atStart => exact ⟨.inl ⟨rfl, rfl⟩, R, hu, B2⟩
             case round =>
              clear R hu B2 C hu0
              obtain ⟨hq, R, hu, B2⟩ := hrel
              have C := R.out.cells
              rcases hq with ⟨rfl, rfl⟩ | ⟨rfl, rfl⟩
              · go_wp2_with (first
                 | (go_at_call 49; (with_reducible refine (rhex_b _ (d1 : Int) hx1 _).mono ?_); rintro e wn ⟨vn, rfl, rfl, hb⟩; replace R := R.below hb; clear C; have C := R.out.cells; replace hu := hu.trans (Upg.of_below hb); replace B2 := B2.below hb; clear hb))
                go_roundw
                case rel => exact ⟨.inr (⟨by first | rfl | go_num, by first | rfl | go_num | (congr 1; go_num) | (simp; omega)⟩), R, hu, B2⟩
                case measure => simp [intOf]
              · go_wp2_with (first
                 | (go_at_call 49; (with_reducible refine (rhex_b _ (-1 : Int) hx2 _).mono ?_); rintro e wn ⟨vn, rfl, rfl, hb⟩; replace R := R.below hb; clear C; have C := R.out.cells; replace hu := hu.trans (Upg.of_below hb); replace B2 := B2.below hb; clear hb)
                 | (go_at_call 31; (with_reducible refine (rfail_ok R 14 (i : Int)).mono ?_); rintro e wn ⟨rfl, ho, R2⟩; have hq := Upg.of_only ho; clear C R; have R := R2; clear R2; have C := R.out.cells; replace hu := hu.trans hq; replace B2 := blk_upg B2 hq hne2; clear hq)
                 | ((with_reducible refine g_store 2 ?_); go_must (refine ev_store rfl rfl B2 (news := [.int .i64 0, .int .i64 0, .bool false, .slice none 0 0, .string ⟨#[]⟩, .slice none 0 0, .slice none 0 0]) (by first | rfl | (go_simp; try rfl)) infoD (by simp) (by simp [Value.oneCell']) ?_); intro wn ho Bn; simp only [encD, zA, zB, zC, zD, zE, zF, zG, zH] at Bn; replace hu := hu.only_new ho hs2; have R2 : RR wn g T _ _ _ := ⟨R.out.only ho (Ne.symm hne2)⟩; clear C R; have R := R2; clear R2; have C := R.out.cells; replace B2 := Bn; clear Bn ho))
                refine bodyPost_ret (results_cell_row rfl _ _ g2 35 ([.int .i64 0, .int .i64 0, .bool false, .slice none 0 0, .string ⟨#[]⟩, .slice none 0 0, .slice none 0 0] : List Value).toArray (0, 0) _ rfl B2.h Tryz.underlying35 rfl (by kernel_rfl)) rfl ?_
                exact ⟨_, rfl, hu, by rw [Hr.out]; exact ⟨_, R, by decide⟩, ldZ, rfl, good_z _ _ _ (by decide) (by decide) _, fun b hb => (by rw [ldZ, foot_z] at hb; cases hb), fun x e h => by rw [Hr.out] at h; cases h⟩
       | some d2 =>
         have hd2' := hexD_lt hd2
         have Hr := As.mk (HOK.out (16 * d1 + d2) (by rw [hl2]; simp [hexF, hd, hd2]))
         have hx2 : hexI b = (d2 : Int) := by rw [hexI, hd2]
         have hdn2 : ¬ ((d2 : Int) < 0) := by omega
         have hvn : ¬ (((16 * d1 + d2 : Nat) : Int) < 0) := by omega
         clear hl2 hd hd2 ha hb2
         as_aux_lemma =>
          go_wp2_with (first
           | ((with_reducible refine g_dst 73 ?_); go_must (refine ev_lit (v := fun g => .slice (some ⟨g, 0, none⟩) 4 4) 73 rfl (cs := [.string ⟨#[115, 112, 97, 99, 101]⟩, .string ⟨#[110, 101, 119, 108, 105, 110, 101]⟩, .string ⟨#[116, 97, 98]⟩, .string ⟨#[110, 117, 108]⟩]) (t := 9) (by first | kernel_rfl | (go_simp; rfl)) ?_); intro g73 wn hb B73 hg73; have hn73 : g73 ≠ g := (fun h => by have := R.lt; omega); have hm73 : g73 ≠ g2 := (fun h => by have := B2.lt; omega); clear hg73; replace R := R.below hb; clear C; have C := R.out.cells; replace hu := hu.trans (Upg.of_below hb); replace B2 := B2.below hb; clear hb)
           | ((with_reducible refine g_dst 74 ?_); go_must (refine ev_lit (v := fun g => .slice (some ⟨g, 0, none⟩) 4 4) 74 rfl (cs := [.int .i64 32, .int .i64 10, .int .i64 9, .int .i64 0]) (t := 3) (by first | kernel_rfl | (go_simp; rfl)) ?_); intro g74 wn hb B74 hg74; have hn74 : g74 ≠ g := (fun h => by have := R.lt; omega); have hm74 : g74 ≠ g2 := (fun h => by have := B2.lt; omega); clear hg74; replace R := R.below hb; clear C; have C := R.out.cells; replace hu := hu.trans (Upg.of_below hb); replace B2 := B2.below hb; replace B73 := B73.below hb; clear hb))
          obtain ⟨wo, rfl⟩ : ∃ wo : World, wo = wn := ⟨_, rfl⟩
          have C73 := B73.cells
          have C74 := B74.cells
          go_loopw [8, 9] (fun v q wr => ((q = .int .i64 0 ∧ v = .int .i64 (-1)) ∨ (q = .int .i64 1 ∧ v = .int .i64 (-1)) ∨ (q = .int .i64 2 ∧ v = .int .i64 (-1)) ∨ (q = .int .i64 3 ∧ v = .int .i64 (-1)) ∨ (q = .int .i64 4 ∧ v = .int .i64 (-1))) ∧ wo = wr) (fun _ q _ => 4 - (intOf q).toNat)
          case atStart => exact ⟨.inl ⟨rfl, rfl⟩, by first | rfl | trivial⟩
          case round =>
           obtain ⟨hq, rfl⟩ := hrel
           rcases hq with ⟨rfl, rfl⟩ | ⟨rfl, rfl⟩ | ⟨rfl, rfl⟩ | ⟨rfl, rfl⟩ | ⟨rfl, rfl⟩
           · go_wp2
             go_roundw
             case rel => exact ⟨.inr (.inl ⟨by first | rfl | go_num, by first | rfl | go_num⟩), by first | rfl | trivial⟩
             case measure => simp [intOf]
           · go_wp2
             go_roundw
             case rel => exact ⟨.inr (.inr (.inl ⟨by first | rfl | go_num, by first | rfl | go_num⟩)), by first | rfl | trivial⟩
             case measure => simp [intOf]
           · go_wp2
             go_roundw
             case rel => exact ⟨.inr (.inr (.inr (.inl ⟨by first | rfl | go_num, by first | rfl | go_num⟩))), by first | rfl | trivial⟩
             case measure => simp [intOf]
           · go_wp2
             go_roundw
             case rel => exact ⟨.inr (.inr (.inr (.inr (⟨by first | rfl | go_num, by first | rfl | go_num⟩)))), by first | rfl | trivial⟩
             case measure => simp [intOf]
           · clear C73 C74
             go_wp2
             have hu0 := hu
             go_loopw [8, 10] (fun v q wr => ((q = .int .i64 1 ∧ v = .int .i64 0) ∨ (q = .int .i64 2 ∧ v = .int .i64 (d1 : Int)) ∨ (q = .int .i64 3 ∧ v = .int .i64 ((16 * d1 + d2 : Nat) : Int))) ∧ RR wr g T E 0 0 ∧ Upg g w wr ∧ Blk wr g2 [.int .i64 0, .int .i64 0, .bool false, .slice none 0 0, .string ⟨#[]⟩, .slice none 0 0, .slice none 0 0] 35) (fun _ q _ => 4 - (intOf q).toNat)
             case atStart => exact ⟨.inl ⟨rfl, rfl⟩, R, hu, B2⟩
             case round =>
              clear R hu B2 C hu0
              obtain ⟨hq, R, hu, B2⟩ := hrel
              have C := R.out.cells
              rcases hq with ⟨rfl, rfl⟩ | ⟨rfl, rfl⟩ | ⟨rfl, rfl⟩
              · go_wp2_with (first
                 | (go_at_call 49; (with_reducible refine (rhex_b _ (d1 : Int) hx1 _).mono ?_); rintro e wn ⟨vn, rfl, rfl, hb⟩; replace R := R.below hb; clear C; have C := R.out.cells; replace hu := hu.trans (Upg.of_below hb); replace B2 := B2.below hb; clear hb))
                go_roundw
                case rel => exact ⟨.inr (.inl ⟨by first | rfl | go_num, by first | rfl | go_num | (congr 1; go_num) | (simp; omega)⟩), R, hu, B2⟩
                case measure => simp [intOf]
              · go_wp2_with (first
                 | (go_at_call 49; (with_reducible refine (rhex_b _ (d2 : Int) hx2 _).mono ?_); rintro e wn ⟨vn, rfl, rfl, hb⟩; replace R := R.below hb; clear C; have C := R.out.cells; replace hu := hu.trans (Upg.of_below hb); replace B2 := B2.below hb; clear hb))
                go_roundw
                case rel => exact ⟨.inr (.inr (⟨by first | rfl | go_num, by first | rfl | go_num | (congr 1; go_num) | (simp; omega)⟩)), R, hu, B2⟩
                case measure => simp [intOf]
              · go_wp2_with (first
                 | ((with_reducible refine g_store 2 ?_); go_must (refine ev_store rfl rfl B2 (news := [.int .i64 3, .int .i64 ((16 * d1 + d2 : Nat) : Int), .bool false, .slice none 0 0, .string ⟨#[]⟩, .slice none 0 0, .slice none 0 0]) (by first | rfl | (go_simp; try rfl)) infoD (by simp) (by simp [Value.oneCell']) ?_); intro wn ho Bn; simp only [encD, zA, zB, zC, zD, zE, zF, zG, zH] at Bn; replace hu := hu.only_new ho hs2; have R2 : RR wn g T _ _ _ := ⟨R.out.only ho (Ne.symm hne2)⟩; clear C R; have R := R2; clear R2; have C := R.out.cells; replace B2 := Bn; clear Bn ho))
                refine bodyPost_ret (results_cell_row rfl _ _ g2 35 ([.int .i64 3, .int .i64 ((16 * d1 + d2 : Nat) : Int), .bool false, .slice none 0 0, .string ⟨#[]⟩, .slice none 0 0, .slice none 0 0] : List Value).toArray (0, 0) _ rfl B2.h Tryz.underlying35 rfl (by kernel_rfl)) rfl ?_
                exact ⟨_, rfl, hu, by rw [Hr.out]; exact ⟨R, hEs⟩, .mk 3 ((16 * d1 + d2 : Nat) : Int) false none 0 [] [] none 0 [] none 0 [], rfl, good_z _ _ _ (by omega) (by omega) _, fun b hb => (by rw [foot_z] at hb; cases hb), fun x e h => by rw [Hr.out] at h; cases h; rfl⟩
   have s2 : ((U.size : Int) == 2) = false := by simp; omega
   have hN2i : ¬ (U.size : Int) = 2 := by omega
   have hN3i : ¬ (U.size : Int) = 3 := by omega
   have s3 : ((U.size : Int) == 3) = false := by simp; omega
   have Hr := As.mk (HER.out (by rw [hlong, if_neg (fun h => h.1.elim (fun h => h2 (by rw [← size_list]; exact h)) (fun h => h3 (by rw [← size_list]; exact h)))]))
   clear hlong h120 hu0 hg0
   as_aux_lemma =>
    go_wp2_with (first
     | ((with_reducible refine g_dst 73 ?_); go_must (refine ev_lit (v := fun g => .slice (some ⟨g, 0, none⟩) 4 4) 73 rfl (cs := [.string ⟨#[115, 112, 97, 99, 101]⟩, .string ⟨#[110, 101, 119, 108, 105, 110, 101]⟩, .string ⟨#[116, 97, 98]⟩, .string ⟨#[110, 117, 108]⟩]) (t := 9) (by first | kernel_rfl | (go_simp; rfl)) ?_); intro g73 wn hb B73 hg73; have hn73 : g73 ≠ g := (fun h => by have := R.lt; omega); have hm73 : g73 ≠ g2 := (fun h => by have := B2.lt; omega); clear hg73; replace R := R.below hb; clear C; have C := R.out.cells; replace hu := hu.trans (Upg.of_below hb); replace B2 := B2.below hb; clear hb)
     | ((with_reducible refine g_dst 74 ?_); go_must (refine ev_lit (v := fun g => .slice (some ⟨g, 0, none⟩) 4 4) 74 rfl (cs := [.int .i64 32, .int .i64 10, .int .i64 9, .int .i64 0]) (t := 3) (by first | kernel_rfl | (go_simp; rfl)) ?_); intro g74 wn hb B74 hg74; have hn74 : g74 ≠ g := (fun h => by have := R.lt; omega); have hm74 : g74 ≠ g2 := (fun h => by have := B2.lt; omega); clear hg74; replace R := R.below hb; clear C; have C := R.out.cells; replace hu := hu.trans (Upg.of_below hb); replace B2 := B2.below hb; replace B73 := B73.below hb; clear hb))
    obtain ⟨wo, rfl⟩ : ∃ wo : World, wo = wn := ⟨_, rfl⟩
    have C73 := B73.cells
    have C74 := B74.cells
    go_loopw [8, 9] (fun v q wr => ((q = .int .i64 0 ∧ v = .int .i64 (-1)) ∨ (q = .int .i64 1 ∧ v = .int .i64 (-1)) ∨ (q = .int .i64 2 ∧ v = .int .i64 (-1)) ∨ (q = .int .i64 3 ∧ v = .int .i64 (-1)) ∨ (q = .int .i64 4 ∧ v = .int .i64 (-1))) ∧ wo = wr) (fun _ q _ => 4 - (intOf q).toNat)
    case atStart => exact ⟨.inl ⟨rfl, rfl⟩, by first | rfl | trivial⟩
    case round =>
     obtain ⟨hq, rfl⟩ := hrel
     rcases hq with ⟨rfl, rfl⟩ | ⟨rfl, rfl⟩ | ⟨rfl, rfl⟩ | ⟨rfl, rfl⟩ | ⟨rfl, rfl⟩
     · go_wp2
       go_roundw
       case rel => exact ⟨.inr (.inl ⟨by first | rfl | go_num, by first | rfl | go_num⟩), by first | rfl | trivial⟩
       case measure => simp [intOf]
     · go_wp2
       go_roundw
       case rel => exact ⟨.inr (.inr (.inl ⟨by first | rfl | go_num, by first | rfl | go_num⟩)), by first | rfl | trivial⟩
       case measure => simp [intOf]
     · go_wp2
       go_roundw
       case rel => exact ⟨.inr (.inr (.inr (.inl ⟨by first | rfl | go_num, by first | rfl | go_num⟩))), by first | rfl | trivial⟩
       case measure => simp [intOf]
     · go_wp2
       go_roundw
       case rel => exact ⟨.inr (.inr (.inr (.inr (⟨by first | rfl | go_num, by first | rfl | go_num⟩)))), by first | rfl | trivial⟩
       case measure => simp [intOf]
     · clear C73 C74
       go_wp2_with (first
        | (go_at_call 31; (with_reducible refine (rfail_ok R 14 (i : Int)).mono ?_); rintro e wn ⟨rfl, ho, R2⟩; have hq := Upg.of_only ho; clear C R; have R := R2; clear R2; have C := R.out.cells; replace hu := hu.trans hq; replace B2 := blk_upg B2 hq hne2; clear hq)
        | ((with_reducible refine g_store 2 ?_); go_must (refine ev_store rfl rfl B2 (news := [.int .i64 0, .int .i64 0, .bool false, .slice none 0 0, .string ⟨#[]⟩, .slice none 0 0, .slice none 0 0]) (by first | rfl | (go_simp; try rfl)) infoD (by simp) (by simp [Value.oneCell']) ?_); intro wn ho Bn; simp only [encD, zA, zB, zC, zD, zE, zF, zG, zH] at Bn; replace hu := hu.only_new ho hs2; have R2 : RR wn g T _ _ _ := ⟨R.out.only ho (Ne.symm hne2)⟩; clear C R; have R := R2; clear R2; have C := R.out.cells; replace B2 := Bn; clear Bn ho))
       refine bodyPost_ret (results_cell_row rfl _ _ g2 35 ([.int .i64 0, .int .i64 0, .bool false, .slice none 0 0, .string ⟨#[]⟩, .slice none 0 0, .slice none 0 0] : List Value).toArray (0, 0) _ rfl B2.h Tryz.underlying35 rfl (by kernel_rfl)) rfl ?_
       exact ⟨_, rfl, hu, by rw [Hr.out]; exact ⟨_, R, by decide⟩, ldZ, rfl, good_z _ _ _ (by decide) (by decide) _, fun b hb => (by rw [ldZ, foot_z] at hb; cases hb), fun x e h => by rw [Hr.out] at h; cases h⟩
end Go.Proofs.YtdapbegadhcpcaaGreatDoor
