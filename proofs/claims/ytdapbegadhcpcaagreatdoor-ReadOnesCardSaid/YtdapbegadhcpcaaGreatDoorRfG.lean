/- A part of the proof. -/
import Derived.Test.YtdapbegadhcpcaaGreatDoorRfE
import Derived.Test.YtdapbegadhcpcaaGreatDoorRfD
import Derived.Test.YtdapbegadhcpcaaGreatDoorRdJ
set_option linter.unusedVariables false
set_option linter.unusedSimpArgs false
namespace Go.Proofs.YtdapbegadhcpcaaGreatDoor
open Go.RowKit Go.Proofs.YtdapbegadhcpcaaGreatDoorL Go.Proofs.YtdapbegadhcpcaaGreatDoorM
theorem strF_34 {s : List UInt8} {j : Nat} (h : s[j]? = some 92) (acc : List UInt8) {c : UInt8} (hc : s[j + 1]? = some c) : strF s j acc =
 (if c = 34 ∨ c = 92 then strF s (j + 2) (acc ++ [c]) else if c = 110 then strF s (j + 2) (acc ++ [10]) else if c = 116 then strF s (j + 2) (acc ++ [9])
  else if c = 120 then (match codeF s (j + 2) with | .error true => .error (s.length, 10) | .error false => .error (j, 13) | .ok (v, e) => strF s (e + 1) (acc ++ [UInt8.ofNat v])) else .error (j, 13)) := by
 obtain ⟨hl, h0⟩ := List.getElem?_eq_some_iff.1 h
 rw [strF, dif_pos hl, if_neg (by rw [h0]; decide), if_pos h0, hc]
 simp only
 by_cases c1 : c = 34
 · subst c1; simp
 · rw [if_neg c1]
   by_cases c2 : c = 92
   · subst c2; simp
   · have hn : ¬ (c = 34 ∨ c = 92) := fun h => h.elim c1 c2
     rw [if_neg c2, if_neg hn]
     by_cases c3 : c = 110
     · rw [if_pos c3, if_pos c3]
     · rw [if_neg c3, if_neg c3]
       by_cases c4 : c = 116
       · rw [if_pos c4, if_pos c4]
       · rw [if_neg c4, if_neg c4]
         by_cases c5 : c = 120
         · rw [if_pos c5, if_pos c5]
           split <;> simp_all
         · rw [if_neg c5, if_neg c5]
theorem strF_92e {s : List UInt8} {j : Nat} (h : s[j]? = some 92) (acc : List UInt8) (hc : s[j + 1]? = none) : strF s j acc = .error (s.length, 10) := by
 obtain ⟨hl, h0⟩ := List.getElem?_eq_some_iff.1 h
 rw [strF, dif_pos hl, if_neg (by rw [h0]; decide), if_pos h0, hc]
set_option maxRecDepth 16000 in
set_option maxHeartbeats 32000000 in
theorem rstring_any {w : World} {g i : Nat} {T : ByteArray} (R : RR w g T i 0 0) (hi : i < T.size) (hT : T.size ≤ 65536) (r : Rs) (hr : r = strR T.data.toList i) :
 Calls Tryz.prog 33 #[.pointer (some ⟨g, 0, none⟩)] w fun x w' => ∃ v, x = .returned v ∧ Upg g w w' ∧ AftR w' g T r ∧ IsD w.heap.size w' r v := by
 have C := R.out.cells
 have hu := Upg.refl g w
 have Hsl := As.mk (size_list T)
 have hg0 := R.lt
 obtain ⟨S, hS⟩ : ∃ S, S = strF T.data.toList (i + 1) [] := ⟨_, rfl⟩
 have HSr : As (r = strQ S) := ⟨by rw [hr, strQ_is, hS]⟩
 have HS := As.mk hS
 clear hS hr
 go_enter Tryz.func33, Tryz.ntmps33
 go_wp2_with (first
  | ((with_reducible refine g_dst 2 ?_); go_must (refine ev_alloc 2 rfl infoD (cs := [.int .i64 0, .int .i64 0, .bool false, .slice none 0 0, .string ⟨#[]⟩, .slice none 0 0, .slice none 0 0]) rfl ?_); intro g2 wn hb B2 hg2; have hs2 := Nat.le_trans hu.size hg2; have hne2 : g2 ≠ g := (fun h => by have := R.lt; omega); clear hg2; replace R := R.below hb; clear C; have C := R.out.cells; replace hu := hu.trans (Upg.of_below hb); clear hb)
  | ((with_reducible refine g_store 14 ?_); go_must (refine ev_store rfl rfl R.out (news := [.int .i64 ((i + 1 : Nat) : Int)]) (by first | rfl | (go_simp; first | rfl | go_num | (simp; omega))) infoI (by simp) (by simp [Value.oneCell']) ?_); intro wn ho Bn; simp only [zI, zA, zC, zD, zE, zF, zH, zB, zG, Nat.reduceAdd] at Bn; have R2 : RR wn g T (i + 1) 0 0 := ⟨Bn⟩; clear Bn; have hq := Upg.of_only ho; clear C R; have R := R2; clear R2; have C := R.out.cells; replace hu := hu.trans hq; replace B2 := blk_upg B2 hq hne2; clear hq; clear ho))
 have hgb : g < g2 + 1 := by omega
 have hwb : w.heap.size ≤ g2 + 1 := by omega
 go_loopw [3] (fun b wr => ∃ (acc : List UInt8) (j : Nat), Ow encB 1 5 (g2 + 1) wr b (acc.map UInt8.toNat) ∧ acc.length ≤ j ∧ j ≤ T.size ∧ RR wr g T j 0 0 ∧ Upg g w wr ∧ Blk wr g2 [.int .i64 0, .int .i64 0, .bool false, .slice none 0 0, .string ⟨#[]⟩, .slice none 0 0, .slice none 0 0] 35 ∧ As (S = strF T.data.toList j acc)) (fun _ wr => T.size - atOf wr g)
 case atStart => exact ⟨[], i + 1, Ow.nil _ _ _ _ _, by simp, by omega, R, hu, B2, HS⟩
 case round =>
  clear R C hu B2 HS
  obtain ⟨acc, j, hoW, haj, hj, R, hu, B2, HS⟩ := hrel
  have C := R.out.cells
  have hat := As.mk R.at_
  obtain ⟨A, cc, rfl, ha1, ha2⟩ := hoW.form
  simp only [List.length_map] at hoW
  have Ha : As (acc.length ≤ j ∧ j ≤ 65536) := ⟨haj, by omega⟩
  clear haj ha1 ha2
  by_cases hm : j < T.size
  case neg =>
   have d1 : decide (T.size ≤ j) = true := decide_eq_true (by omega)
   have Hr : As (r = .error (T.size, 10)) := ⟨by rw [HSr.out, HS.out, strF, dif_neg (by rw [Hsl.out]; omega), Hsl.out]; rfl⟩
   go_wp2_with (first
    | (go_at_call 16; (with_reducible refine (rend_b R true d1).mono ?_); rintro e wn ⟨vn, rfl, rfl, hb⟩; replace R := R.below hb; clear C; have C := R.out.cells; replace hu := hu.trans (Upg.of_below hb); replace B2 := B2.below hb; replace hoW := hoW.below hb; clear hb)
    | (go_at_call 31; (with_reducible refine (rfail_ok R 10 T.size).mono ?_); rintro e wn ⟨rfl, ho, R2⟩; have hq := Upg.of_only ho; clear C R; have R := R2; clear R2; have C := R.out.cells; replace hu := hu.trans hq; replace B2 := blk_upg B2 hq hne2; replace hoW := ow_upg hoW hq hgb; clear hq)
    | ((with_reducible refine g_store 2 ?_); go_must (refine ev_store rfl rfl B2 (news := [.int .i64 0, .int .i64 0, .bool false, .slice none 0 0, .string ⟨#[]⟩, .slice none 0 0, .slice none 0 0]) (by first | rfl | (go_simp; try rfl)) infoD (by simp) (by simp [Value.oneCell']) ?_); intro wn ho Bn; simp only [encD, zA, zB, zC, zD, zE, zF, zG, zH] at Bn; replace hu := hu.only_new ho hs2; have R2 : RR wn g T _ _ _ := ⟨R.out.only ho (Ne.symm hne2)⟩; clear C R; have R := R2; clear R2; have C := R.out.cells; replace B2 := Bn; clear Bn ho))
   refine bodyPost_ret (results_cell_row rfl _ _ g2 35 ([.int .i64 0, .int .i64 0, .bool false, .slice none 0 0, .string ⟨#[]⟩, .slice none 0 0, .slice none 0 0] : List Value).toArray (0, 0) _ rfl B2.h Tryz.underlying35 rfl (by kernel_rfl)) rfl ?_
   exact ⟨_, rfl, hu, by rw [Hr.out]; exact ⟨_, R, by decide⟩, ldZ, rfl, good_z _ _ _ (by decide) (by decide) _, fun b hb => (by rw [ldZ, foot_z] at hb; cases hb), fun x e h => by rw [Hr.out] at h; cases h⟩
  have d1 : decide (T.size ≤ j) = false := decide_eq_false (by omega)
  obtain ⟨c, hc⟩ := get_size T hm
  obtain ⟨x, hx⟩ : ∃ x, x = c.toNat := ⟨_, rfl⟩
  have hcx : ((T[j]'hm).toNat : Int) = (x : Int) := by rw [get_c hm hc, hx]
  have hmi : (j : Int) < (T.size : Int) := by omega
  have Hx := As.mk hx
  by_cases h92 : c = 92
  case neg =>
   have hin := strF_in hc acc h92
   rw [← HS.out] at hin
   have b2 : ((x : Int) != 92) = true := by
    have : ¬ x = 92 := fun h => h92 (UInt8.toNat_inj.1 (by rw [← hx, h]; rfl))
    simp; omega
   by_cases h34 : c = 34
   · have b1 : ((x : Int) == 34) = true := by rw [hx, h34]; rfl
     have Hr : As (r = .ok (dStr acc, j + 1)) := ⟨by rw [HSr.out, hin, if_pos h34]; rfl⟩
     clear hin h34 h92 hx hc
     go_wp2_with (first
      | (go_at_call 16; (with_reducible refine (rend_b R false d1).mono ?_); rintro e wn ⟨vn, rfl, rfl, hb⟩; replace R := R.below hb; clear C; have C := R.out.cells; replace hu := hu.trans (Upg.of_below hb); replace B2 := B2.below hb; replace hoW := hoW.below hb; clear hb))
     go_quiet (fail)
     have hb := dr (Below.refl (World.heap wn).size wn) nq
     generalize World.drewN wn nq = w9 at hb ⊢
     replace R := R.below hb
     clear C
     have C := R.out.cells
     replace hu := hu.trans (Upg.of_below hb)
     replace B2 := B2.below hb
     replace hoW := hoW.below hb
     clear hb
     go_wp2_with (first
      | ((with_reducible refine g_store 37 ?_); go_must (refine ev_store rfl rfl R.out (news := [.int .i64 ((j + 1 : Nat) : Int)]) (by first | rfl | (go_simp; first | rfl | go_num | (simp; omega))) infoI (by simp) (by simp [Value.oneCell']) ?_); intro wn ho Bn; simp only [zI, zA, zC, zD, zE, zF, zH, zB, zG, Nat.reduceAdd] at Bn; have R2 : RR wn g T (j + 1) 0 0 := ⟨Bn⟩; clear Bn; have hq := Upg.of_only ho; clear C R; have R := R2; clear R2; have C := R.out.cells; replace hu := hu.trans hq; replace B2 := blk_upg B2 hq hne2; replace hoW := ow_upg hoW hq hgb; clear hq; clear ho; have hcv := conv_acc hoW)
      | ((with_reducible refine g_store 2 ?_); go_must (refine ev_store rfl rfl B2 (news := [.int .i64 4, .int .i64 0, .bool false, .slice none 0 0, .string ⟨acc.toArray⟩, .slice none 0 0, .slice none 0 0]) (by first | rfl | (go_simp; try rfl)) infoD (by simp) (by simp [Value.oneCell']) ?_); intro wn ho Bn; simp only [encD, zA, zB, zC, zD, zE, zF, zG, zH] at Bn; replace hu := hu.only_new ho hs2; have R2 : RR wn g T _ _ _ := ⟨R.out.only ho (Ne.symm hne2)⟩; clear C R; have R := R2; clear R2; have C := R.out.cells; replace B2 := Bn; clear Bn ho))
     refine bodyPost_ret (results_cell_row rfl _ _ g2 35 ([.int .i64 4, .int .i64 0, .bool false, .slice none 0 0, .string ⟨acc.toArray⟩, .slice none 0 0, .slice none 0 0] : List Value).toArray (0, 0) _ rfl B2.h Tryz.underlying35 rfl (by kernel_rfl)) rfl ?_
     exact ⟨_, rfl, hu, by rw [Hr.out]; exact ⟨R, by omega⟩, .mk 4 0 false none 0 [] acc none 0 [] none 0 [], rfl, good_z _ _ _ (by decide) (by decide) _, fun b hb => (by rw [foot_z] at hb; cases hb), fun x e h => by rw [Hr.out] at h; cases h; rfl⟩
   · have b1 : ((x : Int) == 34) = false := by
      have : ¬ x = 34 := fun h => h34 (UInt8.toNat_inj.1 (by rw [← hx, h]; rfl))
      simp; omega
     have Hs : As (S = strF T.data.toList (j + 1) (acc ++ [c])) := ⟨by rw [hin, if_neg h34]⟩
     clear hin h34 h92 hx hc
     go_wp2_with (first
      | (go_at_call 16; (with_reducible refine (rend_b R false d1).mono ?_); rintro e wn ⟨vn, rfl, rfl, hb⟩; replace R := R.below hb; clear C; have C := R.out.cells; replace hu := hu.trans (Upg.of_below hb); replace B2 := B2.below hb; replace hoW := hoW.below hb; clear hb))
     go_quiet (fail)
     have hb := dr (Below.refl (World.heap wn).size wn) nq
     generalize World.drewN wn nq = w9 at hb ⊢
     replace R := R.below hb
     clear C
     have C := R.out.cells
     replace hu := hu.trans (Upg.of_below hb)
     replace B2 := B2.below hb
     replace hoW := hoW.below hb
     clear hb
     go_wp2_with (first
      | ((with_reducible refine g_store 37 ?_); go_must (refine ev_store rfl rfl R.out (news := [.int .i64 ((j + 1 : Nat) : Int)]) (by first | rfl | (go_simp; first | rfl | go_num | (simp; omega))) infoI (by simp) (by simp [Value.oneCell']) ?_); intro wn ho Bn; simp only [zI, zA, zC, zD, zE, zF, zH, zB, zG, Nat.reduceAdd] at Bn; have R2 : RR wn g T (j + 1) 0 0 := ⟨Bn⟩; clear Bn; have hq := Upg.of_only ho; clear C R; have R := R2; clear R2; have C := R.out.cells; replace hu := hu.trans hq; replace B2 := blk_upg B2 hq hne2; replace hoW := ow_upg hoW hq hgb; clear hq; clear ho)
      | ((with_reducible refine g_dst 47 ?_); go_must (refine ev_lit (v := fun g => .slice (some ⟨g, 0, none⟩) 1 1) 47 rfl (cs := [valB8 x]) (t := 5) (by go_simp; rfl) ?_); intro g6 wn hb B6 hg6; replace R := R.below hb; clear C; have C := R.out.cells; replace hu := hu.trans (Upg.of_below hb); replace B2 := B2.below hb; replace hoW := hoW.below hb; clear hb)
      | ((with_reducible refine g_dst 48 ?_); go_must (refine ev_append1 48 Tryz.underlying67 infoB rfl (by decide) rfl hoW (x) rfl B6 rfl (oneB _) (by rw [List.length_map]; have := Ha.out; omega) (by rw [List.length_map]; simp only [maxLen]; have := Ha.out; omega) B2.lt ?_); intro v7 wn ho7 hg7 hor7; have hb := hoW.grown (Below.refl (g2 + 1) _) hg7 (Nat.le_refl _) B2.lt; replace R : RR wn g T _ _ _ := ⟨blkB R.out hb hgb⟩; replace B2 := blkB B2 hb (Nat.lt_succ_self _); replace hu := hu.belowB hb hwb; replace hoW := ho7; clear C hb hg7 hor7 ho7 B6; have C := R.out.cells))
     go_roundw
     case rel => exact ⟨acc ++ [c], j + 1, by rw [List.map_append, List.map_singleton, ← Hx.out]; exact hoW, by rw [List.length_append, List.length_singleton]; have := Ha.out; omega, by omega, R, hu, B2, Hs⟩
     case measure => rw [R.at_, hat.out]; omega
  have b1 : ((x : Int) == 34) = false := by rw [hx, h92]; rfl
  have b2 : ((x : Int) != 92) = false := by rw [hx, h92]; rfl
  subst h92
  obtain ⟨i1, hi1⟩ : ∃ i1, i1 = j + 1 := ⟨_, rfl⟩
  have hji : (j : Int) + 1 = (i1 : Int) := by omega
  clear hx hcx
  have hcx : ((T[j]'hm).toNat : Int) = (x : Int) := by rw [get_c hm hc, ← Hx.out]
  by_cases hm2 : i1 < T.size
  case neg =>
   have d2 : decide (T.size ≤ i1) = true := decide_eq_true (by omega)
   have Hr : As (r = .error (T.size, 10)) := ⟨by rw [HSr.out, HS.out, strF_92e hc acc (by rw [← hi1]; exact List.getElem?_eq_none_iff.2 (by rw [Hsl.out]; omega)), Hsl.out]; rfl⟩
   clear hc hi1
   go_wp2_with (first
    | (go_at_call 16; (with_reducible refine (rend_b R false d1).mono ?_); rintro e wn ⟨vn, rfl, rfl, hb⟩; replace R := R.below hb; clear C; have C := R.out.cells; replace hu := hu.trans (Upg.of_below hb); replace B2 := B2.below hb; replace hoW := hoW.below hb; clear hb))
   go_quiet (fail)
   have hb := dr (Below.refl (World.heap wn).size wn) nq
   generalize World.drewN wn nq = w9 at hb ⊢
   replace R := R.below hb
   clear C
   have C := R.out.cells
   replace hu := hu.trans (Upg.of_below hb)
   replace B2 := B2.below hb
   replace hoW := hoW.below hb
   clear hb
   go_wp2_with (first
    | ((with_reducible refine g_store 37 ?_); go_must (refine ev_store rfl rfl R.out (news := [.int .i64 ((i1 : Nat) : Int)]) (by first | rfl | (go_simp; first | rfl | go_num | (simp; omega))) infoI (by simp) (by simp [Value.oneCell']) ?_); intro wn ho Bn; simp only [zI, zA, zC, zD, zE, zF, zH, zB, zG, Nat.reduceAdd] at Bn; have R2 : RR wn g T (i1) 0 0 := ⟨Bn⟩; clear Bn; have hq := Upg.of_only ho; clear C R; have R := R2; clear R2; have C := R.out.cells; replace hu := hu.trans hq; replace B2 := blk_upg B2 hq hne2; replace hoW := ow_upg hoW hq hgb; clear hq; clear ho)
    | (go_at_call 16; (with_reducible refine (rend_b R true d2).mono ?_); rintro e wn ⟨vn, rfl, rfl, hb⟩; replace R := R.below hb; clear C; have C := R.out.cells; replace hu := hu.trans (Upg.of_below hb); replace B2 := B2.below hb; replace hoW := hoW.below hb; clear hb)
    | (go_at_call 31; (with_reducible refine (rfail_ok R 10 T.size).mono ?_); rintro e wn ⟨rfl, ho, R2⟩; have hq := Upg.of_only ho; clear C R; have R := R2; clear R2; have C := R.out.cells; replace hu := hu.trans hq; replace B2 := blk_upg B2 hq hne2; replace hoW := ow_upg hoW hq hgb; clear hq)
    | ((with_reducible refine g_store 2 ?_); go_must (refine ev_store rfl rfl B2 (news := [.int .i64 0, .int .i64 0, .bool false, .slice none 0 0, .string ⟨#[]⟩, .slice none 0 0, .slice none 0 0]) (by first | rfl | (go_simp; try rfl)) infoD (by simp) (by simp [Value.oneCell']) ?_); intro wn ho Bn; simp only [encD, zA, zB, zC, zD, zE, zF, zG, zH] at Bn; replace hu := hu.only_new ho hs2; have R2 : RR wn g T _ _ _ := ⟨R.out.only ho (Ne.symm hne2)⟩; clear C R; have R := R2; clear R2; have C := R.out.cells; replace B2 := Bn; clear Bn ho))
   refine bodyPost_ret (results_cell_row rfl _ _ g2 35 ([.int .i64 0, .int .i64 0, .bool false, .slice none 0 0, .string ⟨#[]⟩, .slice none 0 0, .slice none 0 0] : List Value).toArray (0, 0) _ rfl B2.h Tryz.underlying35 rfl (by kernel_rfl)) rfl ?_
   exact ⟨_, rfl, hu, by rw [Hr.out]; exact ⟨_, R, by decide⟩, ldZ, rfl, good_z _ _ _ (by decide) (by decide) _, fun b hb => (by rw [ldZ, foot_z] at hb; cases hb), fun x e h => by rw [Hr.out] at h; cases h⟩
  have d2 : decide (T.size ≤ i1) = false := decide_eq_false (by omega)
  obtain ⟨c2, hc2⟩ := get_size T hm2
  have hS2 := strF_34 hc acc (c := c2) (by rw [← hi1]; exact hc2)
  rw [← HS.out] at hS2
  obtain ⟨y, hy⟩ : ∃ y, y = c2.toNat := ⟨_, rfl⟩
  have hcy : ((T[i1]'hm2).toNat : Int) = (y : Int) := by rw [get_c hm2 hc2, hy]
  have hmi2 : (i1 : Int) < (T.size : Int) := by omega
  have Hy := As.mk hy
  obtain ⟨k, hk⟩ : ∃ k, k = j + 2 := ⟨_, rfl⟩
  have hik : (i1 : Int) + 1 = (k : Int) := by omega
  have hkT : k ≤ T.size := by omega
  have hjk : j < k := by omega
  rw [← hk] at hS2
  clear hk hi1
  have hne : ∀ n : Nat, n < 256 → c2 ≠ UInt8.ofNat n → ((y : Int) == (n : Int)) = false := fun n hn h => by
   have := u8R c2 n hn
   rw [show (c2 == UInt8.ofNat n) = false by simpa using h, ← hy] at this
   exact this
  clear hc hc2 hy HS
  by_cases h34 : c2 = 34
  case pos =>
   have f34 : ((y : Int) == 34) = true := by rw [Hy.out, h34]; rfl
   have Hs : As (S = strF T.data.toList k (acc ++ [c2])) := ⟨by rw [hS2, if_pos (.inl h34)]⟩
   clear hne hS2
   as_aux_lemma =>
    go_wp2_with (first
     | (go_at_call 16; (with_reducible refine (rend_b R false d1).mono ?_); rintro e wn ⟨vn, rfl, rfl, hb⟩; replace R := R.below hb; clear C; have C := R.out.cells; replace hu := hu.trans (Upg.of_below hb); replace B2 := B2.below hb; replace hoW := hoW.below hb; clear hb))
    go_quiet (fail)
    have hb := dr (Below.refl (World.heap wn).size wn) nq
    generalize World.drewN wn nq = w9 at hb ⊢
    replace R := R.below hb
    clear C
    have C := R.out.cells
    replace hu := hu.trans (Upg.of_below hb)
    replace B2 := B2.below hb
    replace hoW := hoW.below hb
    clear hb
    go_wp2_with (first
     | ((with_reducible refine g_store 37 ?_); go_must (refine ev_store rfl rfl R.out (news := [.int .i64 ((i1 : Nat) : Int)]) (by first | rfl | (go_simp; first | rfl | go_num | (simp; omega))) infoI (by simp) (by simp [Value.oneCell']) ?_); intro wn ho Bn; simp only [zI, zA, zC, zD, zE, zF, zH, zB, zG, Nat.reduceAdd] at Bn; have R2 : RR wn g T (i1) 0 0 := ⟨Bn⟩; clear Bn; have hq := Upg.of_only ho; clear C R; have R := R2; clear R2; have C := R.out.cells; replace hu := hu.trans hq; replace B2 := blk_upg B2 hq hne2; replace hoW := ow_upg hoW hq hgb; clear hq; clear ho)
     | (go_at_call 16; (with_reducible refine (rend_b R false d2).mono ?_); rintro e wn ⟨vn, rfl, rfl, hb⟩; replace R := R.below hb; clear C; have C := R.out.cells; replace hu := hu.trans (Upg.of_below hb); replace B2 := B2.below hb; replace hoW := hoW.below hb; clear hb))
    go_quiet (fail)
    have hb := dr (Below.refl (World.heap wn).size wn) nq
    generalize World.drewN wn nq = w9 at hb ⊢
    replace R := R.below hb
    clear C
    have C := R.out.cells
    replace hu := hu.trans (Upg.of_below hb)
    replace B2 := B2.below hb
    replace hoW := hoW.below hb
    clear hb
    go_wp2_with (first
     | ((with_reducible refine g_store 66 ?_); go_must (refine ev_store rfl rfl R.out (news := [.int .i64 ((k : Nat) : Int)]) (by first | rfl | (go_simp; first | rfl | go_num | (simp; omega))) infoI (by simp) (by simp [Value.oneCell']) ?_); intro wn ho Bn; simp only [zI, zA, zC, zD, zE, zF, zH, zB, zG, Nat.reduceAdd] at Bn; have R2 : RR wn g T (k) 0 0 := ⟨Bn⟩; clear Bn; have hq := Upg.of_only ho; clear C R; have R := R2; clear R2; have C := R.out.cells; replace hu := hu.trans hq; replace B2 := blk_upg B2 hq hne2; replace hoW := ow_upg hoW hq hgb; clear hq; clear ho)
     | ((with_reducible refine g_dst 77 ?_); go_must (refine ev_lit (v := fun g => .slice (some ⟨g, 0, none⟩) 1 1) 77 rfl (cs := [valB8 y]) (t := 5) (by go_simp; rfl) ?_); intro g6 wn hb B6 hg6; replace R := R.below hb; clear C; have C := R.out.cells; replace hu := hu.trans (Upg.of_below hb); replace B2 := B2.below hb; replace hoW := hoW.below hb; clear hb)
     | ((with_reducible refine g_dst 78 ?_); go_must (refine ev_append1 78 Tryz.underlying67 infoB rfl (by decide) rfl hoW (y) rfl B6 rfl (oneB _) (by rw [List.length_map]; have := Ha.out; omega) (by rw [List.length_map]; simp only [maxLen]; have := Ha.out; omega) B2.lt ?_); intro v7 wn ho7 hg7 hor7; have hb := hoW.grown (Below.refl (g2 + 1) _) hg7 (Nat.le_refl _) B2.lt; replace R : RR wn g T _ _ _ := ⟨blkB R.out hb hgb⟩; replace B2 := blkB B2 hb (Nat.lt_succ_self _); replace hu := hu.belowB hb hwb; replace hoW := ho7; clear C hb hg7 hor7 ho7 B6; have C := R.out.cells))
    go_roundw
    case rel => exact ⟨acc ++ [c2], k, by rw [List.map_append, List.map_singleton, ← Hy.out]; exact hoW, by rw [List.length_append, List.length_singleton]; have := Ha.out; omega, by omega, R, hu, B2, Hs⟩
    case measure => rw [R.at_, hat.out]; omega
  by_cases h92 : c2 = 92
  case pos =>
   have f92 : ((y : Int) == 92) = true := by rw [Hy.out, h92]; rfl
   have f34 : ((y : Int) == 34) = false := hne 34 (by omega) h34
   have Hs : As (S = strF T.data.toList k (acc ++ [c2])) := ⟨by rw [hS2, if_pos (.inr h92)]⟩
   clear hne hS2
   as_aux_lemma =>
    go_wp2_with (first
     | (go_at_call 16; (with_reducible refine (rend_b R false d1).mono ?_); rintro e wn ⟨vn, rfl, rfl, hb⟩; replace R := R.below hb; clear C; have C := R.out.cells; replace hu := hu.trans (Upg.of_below hb); replace B2 := B2.below hb; replace hoW := hoW.below hb; clear hb))
    go_quiet (fail)
    have hb := dr (Below.refl (World.heap wn).size wn) nq
    generalize World.drewN wn nq = w9 at hb ⊢
    replace R := R.below hb
    clear C
    have C := R.out.cells
    replace hu := hu.trans (Upg.of_below hb)
    replace B2 := B2.below hb
    replace hoW := hoW.below hb
    clear hb
    go_wp2_with (first
     | ((with_reducible refine g_store 37 ?_); go_must (refine ev_store rfl rfl R.out (news := [.int .i64 ((i1 : Nat) : Int)]) (by first | rfl | (go_simp; first | rfl | go_num | (simp; omega))) infoI (by simp) (by simp [Value.oneCell']) ?_); intro wn ho Bn; simp only [zI, zA, zC, zD, zE, zF, zH, zB, zG, Nat.reduceAdd] at Bn; have R2 : RR wn g T (i1) 0 0 := ⟨Bn⟩; clear Bn; have hq := Upg.of_only ho; clear C R; have R := R2; clear R2; have C := R.out.cells; replace hu := hu.trans hq; replace B2 := blk_upg B2 hq hne2; replace hoW := ow_upg hoW hq hgb; clear hq; clear ho)
     | (go_at_call 16; (with_reducible refine (rend_b R false d2).mono ?_); rintro e wn ⟨vn, rfl, rfl, hb⟩; replace R := R.below hb; clear C; have C := R.out.cells; replace hu := hu.trans (Upg.of_below hb); replace B2 := B2.below hb; replace hoW := hoW.below hb; clear hb))
    go_quiet (fail)
    have hb := dr (Below.refl (World.heap wn).size wn) nq
    generalize World.drewN wn nq = w9 at hb ⊢
    replace R := R.below hb
    clear C
    have C := R.out.cells
    replace hu := hu.trans (Upg.of_below hb)
    replace B2 := B2.below hb
    replace hoW := hoW.below hb
    clear hb
    go_wp2_with (first
     | ((with_reducible refine g_store 66 ?_); go_must (refine ev_store rfl rfl R.out (news := [.int .i64 ((k : Nat) : Int)]) (by first | rfl | (go_simp; first | rfl | go_num | (simp; omega))) infoI (by simp) (by simp [Value.oneCell']) ?_); intro wn ho Bn; simp only [zI, zA, zC, zD, zE, zF, zH, zB, zG, Nat.reduceAdd] at Bn; have R2 : RR wn g T (k) 0 0 := ⟨Bn⟩; clear Bn; have hq := Upg.of_only ho; clear C R; have R := R2; clear R2; have C := R.out.cells; replace hu := hu.trans hq; replace B2 := blk_upg B2 hq hne2; replace hoW := ow_upg hoW hq hgb; clear hq; clear ho)
     | ((with_reducible refine g_dst 77 ?_); go_must (refine ev_lit (v := fun g => .slice (some ⟨g, 0, none⟩) 1 1) 77 rfl (cs := [valB8 y]) (t := 5) (by go_simp; rfl) ?_); intro g6 wn hb B6 hg6; replace R := R.below hb; clear C; have C := R.out.cells; replace hu := hu.trans (Upg.of_below hb); replace B2 := B2.below hb; replace hoW := hoW.below hb; clear hb)
     | ((with_reducible refine g_dst 78 ?_); go_must (refine ev_append1 78 Tryz.underlying67 infoB rfl (by decide) rfl hoW (y) rfl B6 rfl (oneB _) (by rw [List.length_map]; have := Ha.out; omega) (by rw [List.length_map]; simp only [maxLen]; have := Ha.out; omega) B2.lt ?_); intro v7 wn ho7 hg7 hor7; have hb := hoW.grown (Below.refl (g2 + 1) _) hg7 (Nat.le_refl _) B2.lt; replace R : RR wn g T _ _ _ := ⟨blkB R.out hb hgb⟩; replace B2 := blkB B2 hb (Nat.lt_succ_self _); replace hu := hu.belowB hb hwb; replace hoW := ho7; clear C hb hg7 hor7 ho7 B6; have C := R.out.cells))
    go_roundw
    case rel => exact ⟨acc ++ [c2], k, by rw [List.map_append, List.map_singleton, ← Hy.out]; exact hoW, by rw [List.length_append, List.length_singleton]; have := Ha.out; omega, by omega, R, hu, B2, Hs⟩
    case measure => rw [R.at_, hat.out]; omega
  by_cases h110 : c2 = 110
  case pos =>
   have f110 : ((y : Int) == 110) = true := by rw [Hy.out, h110]; rfl
   have f34 : ((y : Int) == 34) = false := hne 34 (by omega) h34
   have f92 : ((y : Int) == 92) = false := hne 92 (by omega) h92
   have Hs : As (S = strF T.data.toList k (acc ++ [10])) := ⟨by rw [hS2, if_neg (fun h => h.elim h34 h92), if_pos h110]⟩
   clear hne hS2
   as_aux_lemma =>
    go_wp2_with (first
     | (go_at_call 16; (with_reducible refine (rend_b R false d1).mono ?_); rintro e wn ⟨vn, rfl, rfl, hb⟩; replace R := R.below hb; clear C; have C := R.out.cells; replace hu := hu.trans (Upg.of_below hb); replace B2 := B2.below hb; replace hoW := hoW.below hb; clear hb))
    go_quiet (fail)
    have hb := dr (Below.refl (World.heap wn).size wn) nq
    generalize World.drewN wn nq = w9 at hb ⊢
    replace R := R.below hb
    clear C
    have C := R.out.cells
    replace hu := hu.trans (Upg.of_below hb)
    replace B2 := B2.below hb
    replace hoW := hoW.below hb
    clear hb
    go_wp2_with (first
     | ((with_reducible refine g_store 37 ?_); go_must (refine ev_store rfl rfl R.out (news := [.int .i64 ((i1 : Nat) : Int)]) (by first | rfl | (go_simp; first | rfl | go_num | (simp; omega))) infoI (by simp) (by simp [Value.oneCell']) ?_); intro wn ho Bn; simp only [zI, zA, zC, zD, zE, zF, zH, zB, zG, Nat.reduceAdd] at Bn; have R2 : RR wn g T (i1) 0 0 := ⟨Bn⟩; clear Bn; have hq := Upg.of_only ho; clear C R; have R := R2; clear R2; have C := R.out.cells; replace hu := hu.trans hq; replace B2 := blk_upg B2 hq hne2; replace hoW := ow_upg hoW hq hgb; clear hq; clear ho)
     | (go_at_call 16; (with_reducible refine (rend_b R false d2).mono ?_); rintro e wn ⟨vn, rfl, rfl, hb⟩; replace R := R.below hb; clear C; have C := R.out.cells; replace hu := hu.trans (Upg.of_below hb); replace B2 := B2.below hb; replace hoW := hoW.below hb; clear hb))
    go_quiet (fail)
    have hb := dr (Below.refl (World.heap wn).size wn) nq
    generalize World.drewN wn nq = w9 at hb ⊢
    replace R := R.below hb
    clear C
    have C := R.out.cells
    replace hu := hu.trans (Upg.of_below hb)
    replace B2 := B2.below hb
    replace hoW := hoW.below hb
    clear hb
    go_wp2_with (first
     | ((with_reducible refine g_store 66 ?_); go_must (refine ev_store rfl rfl R.out (news := [.int .i64 ((k : Nat) : Int)]) (by first | rfl | (go_simp; first | rfl | go_num | (simp; omega))) infoI (by simp) (by simp [Value.oneCell']) ?_); intro wn ho Bn; simp only [zI, zA, zC, zD, zE, zF, zH, zB, zG, Nat.reduceAdd] at Bn; have R2 : RR wn g T (k) 0 0 := ⟨Bn⟩; clear Bn; have hq := Upg.of_only ho; clear C R; have R := R2; clear R2; have C := R.out.cells; replace hu := hu.trans hq; replace B2 := blk_upg B2 hq hne2; replace hoW := ow_upg hoW hq hgb; clear hq; clear ho)
     | ((with_reducible refine g_dst 82 ?_); go_must (refine ev_lit (v := fun g => .slice (some ⟨g, 0, none⟩) 1 1) 82 rfl (cs := [valB8 10]) (t := 5) (by go_simp; rfl) ?_); intro g6 wn hb B6 hg6; replace R := R.below hb; clear C; have C := R.out.cells; replace hu := hu.trans (Upg.of_below hb); replace B2 := B2.below hb; replace hoW := hoW.below hb; clear hb)
     | ((with_reducible refine g_dst 83 ?_); go_must (refine ev_append1 83 Tryz.underlying67 infoB rfl (by decide) rfl hoW (10) rfl B6 rfl (oneB _) (by rw [List.length_map]; have := Ha.out; omega) (by rw [List.length_map]; simp only [maxLen]; have := Ha.out; omega) B2.lt ?_); intro v7 wn ho7 hg7 hor7; have hb := hoW.grown (Below.refl (g2 + 1) _) hg7 (Nat.le_refl _) B2.lt; replace R : RR wn g T _ _ _ := ⟨blkB R.out hb hgb⟩; replace B2 := blkB B2 hb (Nat.lt_succ_self _); replace hu := hu.belowB hb hwb; replace hoW := ho7; clear C hb hg7 hor7 ho7 B6; have C := R.out.cells))
    go_roundw
    case rel => exact ⟨acc ++ [10], k, by rw [List.map_append, List.map_singleton]; exact hoW, by rw [List.length_append, List.length_singleton]; have := Ha.out; omega, by omega, R, hu, B2, Hs⟩
    case measure => rw [R.at_, hat.out]; omega
  by_cases h116 : c2 = 116
  case pos =>
   have f116 : ((y : Int) == 116) = true := by rw [Hy.out, h116]; rfl
   have f34 : ((y : Int) == 34) = false := hne 34 (by omega) h34
   have f92 : ((y : Int) == 92) = false := hne 92 (by omega) h92
   have f110 : ((y : Int) == 110) = false := hne 110 (by omega) h110
   have Hs : As (S = strF T.data.toList k (acc ++ [9])) := ⟨by rw [hS2, if_neg (fun h => h.elim h34 h92), if_neg h110, if_pos h116]⟩
   clear hne hS2
   as_aux_lemma =>
    go_wp2_with (first
     | (go_at_call 16; (with_reducible refine (rend_b R false d1).mono ?_); rintro e wn ⟨vn, rfl, rfl, hb⟩; replace R := R.below hb; clear C; have C := R.out.cells; replace hu := hu.trans (Upg.of_below hb); replace B2 := B2.below hb; replace hoW := hoW.below hb; clear hb))
    go_quiet (fail)
    have hb := dr (Below.refl (World.heap wn).size wn) nq
    generalize World.drewN wn nq = w9 at hb ⊢
    replace R := R.below hb
    clear C
    have C := R.out.cells
    replace hu := hu.trans (Upg.of_below hb)
    replace B2 := B2.below hb
    replace hoW := hoW.below hb
    clear hb
    go_wp2_with (first
     | ((with_reducible refine g_store 37 ?_); go_must (refine ev_store rfl rfl R.out (news := [.int .i64 ((i1 : Nat) : Int)]) (by first | rfl | (go_simp; first | rfl | go_num | (simp; omega))) infoI (by simp) (by simp [Value.oneCell']) ?_); intro wn ho Bn; simp only [zI, zA, zC, zD, zE, zF, zH, zB, zG, Nat.reduceAdd] at Bn; have R2 : RR wn g T (i1) 0 0 := ⟨Bn⟩; clear Bn; have hq := Upg.of_only ho; clear C R; have R := R2; clear R2; have C := R.out.cells; replace hu := hu.trans hq; replace B2 := blk_upg B2 hq hne2; replace hoW := ow_upg hoW hq hgb; clear hq; clear ho)
     | (go_at_call 16; (with_reducible refine (rend_b R false d2).mono ?_); rintro e wn ⟨vn, rfl, rfl, hb⟩; replace R := R.below hb; clear C; have C := R.out.cells; replace hu := hu.trans (Upg.of_below hb); replace B2 := B2.below hb; replace hoW := hoW.below hb; clear hb))
    go_quiet (fail)
    have hb := dr (Below.refl (World.heap wn).size wn) nq
    generalize World.drewN wn nq = w9 at hb ⊢
    replace R := R.below hb
    clear C
    have C := R.out.cells
    replace hu := hu.trans (Upg.of_below hb)
    replace B2 := B2.below hb
    replace hoW := hoW.below hb
    clear hb
    go_wp2_with (first
     | ((with_reducible refine g_store 66 ?_); go_must (refine ev_store rfl rfl R.out (news := [.int .i64 ((k : Nat) : Int)]) (by first | rfl | (go_simp; first | rfl | go_num | (simp; omega))) infoI (by simp) (by simp [Value.oneCell']) ?_); intro wn ho Bn; simp only [zI, zA, zC, zD, zE, zF, zH, zB, zG, Nat.reduceAdd] at Bn; have R2 : RR wn g T (k) 0 0 := ⟨Bn⟩; clear Bn; have hq := Upg.of_only ho; clear C R; have R := R2; clear R2; have C := R.out.cells; replace hu := hu.trans hq; replace B2 := blk_upg B2 hq hne2; replace hoW := ow_upg hoW hq hgb; clear hq; clear ho)
     | ((with_reducible refine g_dst 87 ?_); go_must (refine ev_lit (v := fun g => .slice (some ⟨g, 0, none⟩) 1 1) 87 rfl (cs := [valB8 9]) (t := 5) (by go_simp; rfl) ?_); intro g6 wn hb B6 hg6; replace R := R.below hb; clear C; have C := R.out.cells; replace hu := hu.trans (Upg.of_below hb); replace B2 := B2.below hb; replace hoW := hoW.below hb; clear hb)
     | ((with_reducible refine g_dst 88 ?_); go_must (refine ev_append1 88 Tryz.underlying67 infoB rfl (by decide) rfl hoW (9) rfl B6 rfl (oneB _) (by rw [List.length_map]; have := Ha.out; omega) (by rw [List.length_map]; simp only [maxLen]; have := Ha.out; omega) B2.lt ?_); intro v7 wn ho7 hg7 hor7; have hb := hoW.grown (Below.refl (g2 + 1) _) hg7 (Nat.le_refl _) B2.lt; replace R : RR wn g T _ _ _ := ⟨blkB R.out hb hgb⟩; replace B2 := blkB B2 hb (Nat.lt_succ_self _); replace hu := hu.belowB hb hwb; replace hoW := ho7; clear C hb hg7 hor7 ho7 B6; have C := R.out.cells))
    go_roundw
    case rel => exact ⟨acc ++ [9], k, by rw [List.map_append, List.map_singleton]; exact hoW, by rw [List.length_append, List.length_singleton]; have := Ha.out; omega, by omega, R, hu, B2, Hs⟩
    case measure => rw [R.at_, hat.out]; omega
  by_cases h120 : c2 = 120
  case neg =>
   have f34 : ((y : Int) == 34) = false := hne 34 (by omega) h34
   have f92 : ((y : Int) == 92) = false := hne 92 (by omega) h92
   have f110 : ((y : Int) == 110) = false := hne 110 (by omega) h110
   have f116 : ((y : Int) == 116) = false := hne 116 (by omega) h116
   have f120 : ((y : Int) == 120) = false := hne 120 (by omega) h120
   have Hr : As (r = .error (j, 13)) := ⟨by rw [HSr.out, hS2, if_neg (fun h => h.elim h34 h92), if_neg h110, if_neg h116, if_neg h120]; rfl⟩
   clear hne hS2
   as_aux_lemma =>
    go_wp2_with (first
     | (go_at_call 16; (with_reducible refine (rend_b R false d1).mono ?_); rintro e wn ⟨vn, rfl, rfl, hb⟩; replace R := R.below hb; clear C; have C := R.out.cells; replace hu := hu.trans (Upg.of_below hb); replace B2 := B2.below hb; replace hoW := hoW.below hb; clear hb))
    go_quiet (fail)
    have hb := dr (Below.refl (World.heap wn).size wn) nq
    generalize World.drewN wn nq = w9 at hb ⊢
    replace R := R.below hb
    clear C
    have C := R.out.cells
    replace hu := hu.trans (Upg.of_below hb)
    replace B2 := B2.below hb
    replace hoW := hoW.below hb
    clear hb
    go_wp2_with (first
     | ((with_reducible refine g_store 37 ?_); go_must (refine ev_store rfl rfl R.out (news := [.int .i64 ((i1 : Nat) : Int)]) (by first | rfl | (go_simp; first | rfl | go_num | (simp; omega))) infoI (by simp) (by simp [Value.oneCell']) ?_); intro wn ho Bn; simp only [zI, zA, zC, zD, zE, zF, zH, zB, zG, Nat.reduceAdd] at Bn; have R2 : RR wn g T (i1) 0 0 := ⟨Bn⟩; clear Bn; have hq := Upg.of_only ho; clear C R; have R := R2; clear R2; have C := R.out.cells; replace hu := hu.trans hq; replace B2 := blk_upg B2 hq hne2; replace hoW := ow_upg hoW hq hgb; clear hq; clear ho)
     | (go_at_call 16; (with_reducible refine (rend_b R false d2).mono ?_); rintro e wn ⟨vn, rfl, rfl, hb⟩; replace R := R.below hb; clear C; have C := R.out.cells; replace hu := hu.trans (Upg.of_below hb); replace B2 := B2.below hb; replace hoW := hoW.below hb; clear hb))
    go_quiet (fail)
    have hb := dr (Below.refl (World.heap wn).size wn) nq
    generalize World.drewN wn nq = w9 at hb ⊢
    replace R := R.below hb
    clear C
    have C := R.out.cells
    replace hu := hu.trans (Upg.of_below hb)
    replace B2 := B2.below hb
    replace hoW := hoW.below hb
    clear hb
    go_wp2_with (first
     | ((with_reducible refine g_store 66 ?_); go_must (refine ev_store rfl rfl R.out (news := [.int .i64 ((k : Nat) : Int)]) (by first | rfl | (go_simp; first | rfl | go_num | (simp; omega))) infoI (by simp) (by simp [Value.oneCell']) ?_); intro wn ho Bn; simp only [zI, zA, zC, zD, zE, zF, zH, zB, zG, Nat.reduceAdd] at Bn; have R2 : RR wn g T (k) 0 0 := ⟨Bn⟩; clear Bn; have hq := Upg.of_only ho; clear C R; have R := R2; clear R2; have C := R.out.cells; replace hu := hu.trans hq; replace B2 := blk_upg B2 hq hne2; replace hoW := ow_upg hoW hq hgb; clear hq; clear ho)
     | (go_at_call 31; (with_reducible refine (rfail_ok R 13 (j : Int)).mono ?_); rintro e wn ⟨rfl, ho, R2⟩; have hq := Upg.of_only ho; clear C R; have R := R2; clear R2; have C := R.out.cells; replace hu := hu.trans hq; replace B2 := blk_upg B2 hq hne2; replace hoW := ow_upg hoW hq hgb; clear hq)
     | ((with_reducible refine g_store 2 ?_); go_must (refine ev_store rfl rfl B2 (news := [.int .i64 0, .int .i64 0, .bool false, .slice none 0 0, .string ⟨#[]⟩, .slice none 0 0, .slice none 0 0]) (by first | rfl | (go_simp; try rfl)) infoD (by simp) (by simp [Value.oneCell']) ?_); intro wn ho Bn; simp only [encD, zA, zB, zC, zD, zE, zF, zG, zH] at Bn; replace hu := hu.only_new ho hs2; have R2 : RR wn g T _ _ _ := ⟨R.out.only ho (Ne.symm hne2)⟩; clear C R; have R := R2; clear R2; have C := R.out.cells; replace B2 := Bn; clear Bn ho))
    refine bodyPost_ret (results_cell_row rfl _ _ g2 35 ([.int .i64 0, .int .i64 0, .bool false, .slice none 0 0, .string ⟨#[]⟩, .slice none 0 0, .slice none 0 0] : List Value).toArray (0, 0) _ rfl B2.h Tryz.underlying35 rfl (by kernel_rfl)) rfl ?_
    exact ⟨_, rfl, hu, by rw [Hr.out]; exact ⟨_, R, by decide⟩, ldZ, rfl, good_z _ _ _ (by decide) (by decide) _, fun b hb => (by rw [ldZ, foot_z] at hb; cases hb), fun x e h => by rw [Hr.out] at h; cases h⟩
  have f120 : ((y : Int) == 120) = true := by rw [Hy.out, h120]; rfl
  have f34 : ((y : Int) == 34) = false := hne 34 (by omega) h34
  have f92 : ((y : Int) == 92) = false := hne 92 (by omega) h92
  have f110 : ((y : Int) == 110) = false := hne 110 (by omega) h110
  have f116 : ((y : Int) == 116) = false := hne 116 (by omega) h116
  have hS3 : S = (match codeF T.data.toList k with | .error true => .error (T.data.toList.length, 10) | .error false => .error (j, 13) | .ok (v, e) => strF T.data.toList (e + 1) (acc ++ [UInt8.ofNat v])) := by
   rw [hS2, if_neg (fun h => h.elim h34 h92), if_neg h110, if_neg h116, if_pos h120]
  have hw0 : IntKind.i64.wrap 0 = 0 := by decide
  have HER : As (∀ b, codeF T.data.toList k = .error b → r = .error (if b then (T.size, 10) else (j, 13))) := ⟨fun b h => by
   rw [HSr.out, hS3, h, ← Hsl.out]
   cases b <;> rfl⟩
  have HOK : As (∀ v e, codeF T.data.toList k = .ok (v, e) → S = strF T.data.toList (e + 1) (acc ++ [UInt8.ofNat v])) := ⟨fun v e h => by rw [hS3, h]⟩
  clear hne hS2 hS3 h34 h92 h110 h116 h120
  go_wp2_with (first
   | (go_at_call 16; (with_reducible refine (rend_b R false d1).mono ?_); rintro e wn ⟨vn, rfl, rfl, hb⟩; replace R := R.below hb; clear C; have C := R.out.cells; replace hu := hu.trans (Upg.of_below hb); replace B2 := B2.below hb; replace hoW := hoW.below hb; clear hb))
  go_quiet (fail)
  have hb := dr (Below.refl (World.heap wn).size wn) nq
  generalize World.drewN wn nq = w9 at hb ⊢
  replace R := R.below hb
  clear C
  have C := R.out.cells
  replace hu := hu.trans (Upg.of_below hb)
  replace B2 := B2.below hb
  replace hoW := hoW.below hb
  clear hb
  go_wp2_with (first
   | ((with_reducible refine g_store 37 ?_); go_must (refine ev_store rfl rfl R.out (news := [.int .i64 ((i1 : Nat) : Int)]) (by first | rfl | (go_simp; first | rfl | go_num | (simp; omega))) infoI (by simp) (by simp [Value.oneCell']) ?_); intro wn ho Bn; simp only [zI, zA, zC, zD, zE, zF, zH, zB, zG, Nat.reduceAdd] at Bn; have R2 : RR wn g T (i1) 0 0 := ⟨Bn⟩; clear Bn; have hq := Upg.of_only ho; clear C R; have R := R2; clear R2; have C := R.out.cells; replace hu := hu.trans hq; replace B2 := blk_upg B2 hq hne2; replace hoW := ow_upg hoW hq hgb; clear hq; clear ho)
   | (go_at_call 16; (with_reducible refine (rend_b R false d2).mono ?_); rintro e wn ⟨vn, rfl, rfl, hb⟩; replace R := R.below hb; clear C; have C := R.out.cells; replace hu := hu.trans (Upg.of_below hb); replace B2 := B2.below hb; replace hoW := hoW.below hb; clear hb))
  go_quiet (fail)
  have hb := dr (Below.refl (World.heap wn).size wn) nq
  generalize World.drewN wn nq = w9 at hb ⊢
  replace R := R.below hb
  clear C
  have C := R.out.cells
  replace hu := hu.trans (Upg.of_below hb)
  replace B2 := B2.below hb
  replace hoW := hoW.below hb
  clear hb
  go_wp2_with (first
   | ((with_reducible refine g_store 66 ?_); go_must (refine ev_store rfl rfl R.out (news := [.int .i64 ((k : Nat) : Int)]) (by first | rfl | (go_simp; first | rfl | go_num | (simp; omega))) infoI (by simp) (by simp [Value.oneCell']) ?_); intro wn ho Bn; simp only [zI, zA, zC, zD, zE, zF, zH, zB, zG, Nat.reduceAdd] at Bn; have R2 : RR wn g T (k) 0 0 := ⟨Bn⟩; clear Bn; have hq := Upg.of_only ho; clear C R; have R := R2; clear R2; have C := R.out.cells; replace hu := hu.trans hq; replace B2 := blk_upg B2 hq hne2; replace hoW := ow_upg hoW hq hgb; clear hq; clear ho))
  have hk2 : k ≤ T.size := by omega
  by_cases k1 : k < T.size
  case neg =>
   have Hr : As (r = .error (T.size, 10)) := ⟨HER.out true (by rw [codeF, show T.data.toList[k]? = none from List.getElem?_eq_none_iff.2 (by rw [Hsl.out]; omega)])⟩
   have dk : decide (T.size ≤ k) = true := decide_eq_true (by omega)
   as_aux_lemma =>
    clear HOK HER; (try clear hm1); (try clear hp1); (try clear he); (try clear hV); (try clear hcode); (try clear h59); (try clear h593)
    go_wp2
    have HoW0 := As.mk hoW
    go_loopw [6, 7] (fun v q wr => ((v = .int .i64 0 ∧ q = .int .i64 0 ∧ RR wr g T k 0 0)) ∧ Upg g w wr ∧ Blk wr g2 [.int .i64 0, .int .i64 0, .bool false, .slice none 0 0, .string ⟨#[]⟩, .slice none 0 0, .slice none 0 0] 35 ∧ Ow encB 1 5 (g2 + 1) wr (.slice A acc.length cc) (acc.map UInt8.toNat)) (fun _ q _ => 4 - (intOf q).toNat)
    case atStart => exact ⟨⟨rfl, rfl, R⟩, hu, B2, hoW⟩
    case round =>
     clear R hu B2 C hoW HoW0
     obtain ⟨hq, hu, B2, hoW⟩ := hrel
     rcases hq with ⟨rfl, rfl, R⟩
     · have C := R.out.cells
       (try go_wp2)
       have hd := (Below.refl (World.heap wr).size wr).drew
       replace R := R.below hd
       replace hu := hu.trans (Upg.of_below hd)
       replace B2 := B2.below hd
       replace hoW := hoW.below hd
       clear C
       have C := R.out.cells
       have hS : ∀ W, RR W g T k 0 0 → W.cell? ⟨g, 0, none⟩ = some (.string T) ∧ W.cell? ⟨g, 1, none⟩ = some (.int .i64 (k : Int)) := fun W R => ⟨R.out.cells 0, R.out.cells 1⟩
       have hS0 := hS _ R
       refine wp_gen2 (fun Q7 hQ7 => ?_)
       refine wp_region_held_drew (S := fun W => W.cell? ⟨g, 0, none⟩ = some (.string T) ∧ W.cell? ⟨g, 1, none⟩ = some (.int .i64 (k : Int))) (by kernel_rfl) (hS0) (fun hHeld => ?_)
       refine ta 0 (.pointer (some ⟨g, 0, none⟩)) ?_
       refine wpAnyH_ready (rs := [1]) (by decide +kernel) (by simp) ?_
       refine AllReadyH.cons (o := _) (by simp only [List.getElem?_toArray, List.getElem?_cons_succ, List.getElem?_cons_zero]; rfl) (fun K hK => ?_) AllReadyH.nil
       refine gI ?_
       (with_reducible refine s_dst 92 ?_); go_simp; (with_reducible refine (rend_b R true dk).mono ?_); rintro e wn ⟨vn, rfl, rfl, hb⟩; replace R := R.below hb; clear C; have C := R.out.cells; replace hu := hu.trans (Upg.of_below hb); replace B2 := B2.below hb; replace hoW := hoW.below hb; clear hb
       refine hK.out _ _ (hS _ R) (fun hHeld => ?_); clear hK K; (try simp only [Act.put, pA, pB, pC, pD, pE, pF])
       refine ta 2 (.bool false) ?_
       refine ta 3 (.bool false) ?_
       refine tu 4 ?_
       refine tu 5 ?_
       refine ta 6 (.bool false) ?_
       refine ta 7 (.bool false) ?_
       refine tu 8 ?_
       refine tu 9 ?_
       refine tu 10 ?_
       refine tu 11 ?_
       refine tu 12 ?_
       refine tu 13 ?_
       refine tu 14 ?_
       refine tu 15 ?_
       refine tu 16 ?_
       refine tu 17 ?_
       refine tu 18 ?_
       refine ta 19 (.bool false) ?_
       refine wpAnyH_done (by kernel_rfl) ?_ _
       refine NoPanic.normal ?_
       obtain ⟨rfl⟩ := hQ7
       clear hS hS0 hd
       go_wp2_with (first
        | (go_at_call 16; (with_reducible refine (rend_b R true dk).mono ?_); rintro e wn ⟨vn, rfl, rfl, hb⟩; replace R := R.below hb; clear C; have C := R.out.cells; replace hu := hu.trans (Upg.of_below hb); replace B2 := B2.below hb; replace hoW := hoW.below hb; clear hb)
        | (go_at_call 31; (with_reducible refine (rfail_ok R 10 T.size).mono ?_); rintro e wn ⟨rfl, ho, R2⟩; have hq := Upg.of_only ho; clear C R; have R := R2; clear R2; have C := R.out.cells; replace hu := hu.trans hq; replace B2 := blk_upg B2 hq hne2; replace hoW := ow_upg hoW hq hgb; clear hq)
        | ((with_reducible refine g_store 2 ?_); go_must (refine ev_store rfl rfl B2 (news := [.int .i64 0, .int .i64 0, .bool false, .slice none 0 0, .string ⟨#[]⟩, .slice none 0 0, .slice none 0 0]) (by first | rfl | (go_simp; try rfl)) infoD (by simp) (by simp [Value.oneCell']) ?_); intro wn ho Bn; simp only [encD, zA, zB, zC, zD, zE, zF, zG, zH] at Bn; replace hu := hu.only_new ho hs2; have R2 : RR wn g T _ _ _ := ⟨R.out.only ho (Ne.symm hne2)⟩; clear C R; have R := R2; clear R2; have C := R.out.cells; replace B2 := Bn; clear Bn ho))
       refine bodyPost_ret (results_cell_row rfl _ _ g2 35 ([.int .i64 0, .int .i64 0, .bool false, .slice none 0 0, .string ⟨#[]⟩, .slice none 0 0, .slice none 0 0] : List Value).toArray (0, 0) _ rfl B2.h Tryz.underlying35 rfl (by kernel_rfl)) rfl ?_
       exact ⟨_, rfl, hu, by rw [Hr.out]; exact ⟨_, R, by decide⟩, ldZ, rfl, good_z _ _ _ (by decide) (by decide) _, fun b hb => (by rw [ldZ, foot_z] at hb; cases hb), fun x e h => by rw [Hr.out] at h; cases h⟩
  obtain ⟨a1, ha1⟩ := get_size T k1
  have hcx1 := get_c k1 ha1
  have hk1i : (k : Int) < (T.size : Int) := by omega
  have dk : decide (T.size ≤ k) = false := decide_eq_false (by omega)
  cases hd1 : hexD a1 with
  | none =>
    have hx1 : hexI a1 = -1 := by rw [hexI, hd1]
    have Hr : As (r = .error (j, 13)) := ⟨HER.out false (by rw [codeF, ha1]; simp only; rw [hd1])⟩
    as_aux_lemma =>
     clear HOK HER; (try clear hm1); (try clear hp1); (try clear he); (try clear hV); (try clear hcode); (try clear h59); (try clear h593)
     go_wp2
     have HoW0 := As.mk hoW
     go_loopw [6, 7] (fun v q wr => ((v = .int .i64 0 ∧ q = .int .i64 0 ∧ RR wr g T k 0 0)) ∧ Upg g w wr ∧ Blk wr g2 [.int .i64 0, .int .i64 0, .bool false, .slice none 0 0, .string ⟨#[]⟩, .slice none 0 0, .slice none 0 0] 35 ∧ Ow encB 1 5 (g2 + 1) wr (.slice A acc.length cc) (acc.map UInt8.toNat)) (fun _ q _ => 4 - (intOf q).toNat)
     case atStart => exact ⟨⟨rfl, rfl, R⟩, hu, B2, hoW⟩
     case round =>
      clear R hu B2 C hoW HoW0
      obtain ⟨hq, hu, B2, hoW⟩ := hrel
      rcases hq with ⟨rfl, rfl, R⟩
      · have C := R.out.cells
        (try go_wp2)
        have hd := (Below.refl (World.heap wr).size wr).drew
        replace R := R.below hd
        replace hu := hu.trans (Upg.of_below hd)
        replace B2 := B2.below hd
        replace hoW := hoW.below hd
        clear C
        have C := R.out.cells
        have hS : ∀ W, RR W g T k 0 0 → W.cell? ⟨g, 0, none⟩ = some (.string T) ∧ W.cell? ⟨g, 1, none⟩ = some (.int .i64 (k : Int)) := fun W R => ⟨R.out.cells 0, R.out.cells 1⟩
        have hS0 := hS _ R
        go_region_held3 (fun W => W.cell? ⟨g, 0, none⟩ = some (.string T) ∧ W.cell? ⟨g, 1, none⟩ = some (.int .i64 (k : Int))) (first | assumption | exact hS _ R) (first
         | (go_at_call 16; (with_reducible refine (rend_b R false dk).mono ?_); rintro e wn ⟨vn, rfl, rfl, hb⟩; replace R := R.below hb; clear C; have C := R.out.cells; replace hu := hu.trans (Upg.of_below hb); replace B2 := B2.below hb; replace hoW := hoW.below hb; clear hb)
         | (go_at_call 49; (with_reducible refine (rhex_b _ (-1 : Int) hx1 _).mono ?_); rintro e wn ⟨vn, rfl, rfl, hb⟩; replace R := R.below hb; clear C; have C := R.out.cells; replace hu := hu.trans (Upg.of_below hb); replace B2 := B2.below hb; replace hoW := hoW.below hb; clear hb))
        clear hS hS0 hd
        go_wp2_with (first
         | (go_at_call 16; (with_reducible refine (rend_b R false dk).mono ?_); rintro e wn ⟨vn, rfl, rfl, hb⟩; replace R := R.below hb; clear C; have C := R.out.cells; replace hu := hu.trans (Upg.of_below hb); replace B2 := B2.below hb; replace hoW := hoW.below hb; clear hb))
        (try go_wp2)
        have hd := (Below.refl (World.heap wn).size wn).drew
        replace R := R.below hd
        replace hu := hu.trans (Upg.of_below hd)
        replace B2 := B2.below hd
        replace hoW := hoW.below hd
        clear C
        have C := R.out.cells
        have hS : ∀ W, RR W g T k 0 0 → W.cell? ⟨g, 0, none⟩ = some (.string T) ∧ W.cell? ⟨g, 1, none⟩ = some (.int .i64 (k : Int)) := fun W R => ⟨R.out.cells 0, R.out.cells 1⟩
        have hS0 := hS _ R
        refine wp_gen2 (fun Q7 hQ7 => ?_)
        refine wp_region_held_drew (S := fun W => W.cell? ⟨g, 0, none⟩ = some (.string T) ∧ W.cell? ⟨g, 1, none⟩ = some (.int .i64 (k : Int))) (by kernel_rfl) (hS0) (fun hHeld => ?_)
        refine ta 0 (.int .i64 0) ?_
        refine ta 1 (.bool true) ?_
        refine ta 2 (.bool true) ?_
        refine tu 3 ?_
        refine tu 4 ?_
        refine tu 5 ?_
        refine tu 6 ?_
        refine tu 7 ?_
        refine tu 8 ?_
        refine tu 9 ?_
        refine tu 10 ?_
        refine tu 11 ?_
        refine tu 12 ?_
        refine ta 13 (.bool true) ?_
        refine wpAnyH_done (by kernel_rfl) ?_ _
        refine NoPanic.normal ?_
        obtain ⟨rfl⟩ := hQ7
        clear hS hS0 hd
        go_wp2_with (first
         | (go_at_call 31; (with_reducible refine (rfail_ok R 13 (j : Int)).mono ?_); rintro e wn ⟨rfl, ho, R2⟩; have hq := Upg.of_only ho; clear C R; have R := R2; clear R2; have C := R.out.cells; replace hu := hu.trans hq; replace B2 := blk_upg B2 hq hne2; replace hoW := ow_upg hoW hq hgb; clear hq)
         | ((with_reducible refine g_store 2 ?_); go_must (refine ev_store rfl rfl B2 (news := [.int .i64 0, .int .i64 0, .bool false, .slice none 0 0, .string ⟨#[]⟩, .slice none 0 0, .slice none 0 0]) (by first | rfl | (go_simp; try rfl)) infoD (by simp) (by simp [Value.oneCell']) ?_); intro wn ho Bn; simp only [encD, zA, zB, zC, zD, zE, zF, zG, zH] at Bn; replace hu := hu.only_new ho hs2; have R2 : RR wn g T _ _ _ := ⟨R.out.only ho (Ne.symm hne2)⟩; clear C R; have R := R2; clear R2; have C := R.out.cells; replace B2 := Bn; clear Bn ho))
        refine bodyPost_ret (results_cell_row rfl _ _ g2 35 ([.int .i64 0, .int .i64 0, .bool false, .slice none 0 0, .string ⟨#[]⟩, .slice none 0 0, .slice none 0 0] : List Value).toArray (0, 0) _ rfl B2.h Tryz.underlying35 rfl (by kernel_rfl)) rfl ?_
        exact ⟨_, rfl, hu, by rw [Hr.out]; exact ⟨_, R, by decide⟩, ldZ, rfl, good_z _ _ _ (by decide) (by decide) _, fun b hb => (by rw [ldZ, foot_z] at hb; cases hb), fun x e h => by rw [Hr.out] at h; cases h⟩
  | some d1 =>
    have hl1 := hexD_lt hd1
    have hw1 : IntKind.i64.wrap (d1 : Int) = (d1 : Int) := IntWalk.i64_in _ (by omega)
    have hw16 : IntKind.i64.wrap (16 * (d1 : Int)) = 16 * (d1 : Int) := IntWalk.i64_in _ (by omega)
    have hx1 : hexI a1 = (d1 : Int) := by rw [hexI, hd1]
    obtain ⟨m, hm1⟩ : ∃ m, m = k + 1 := ⟨_, rfl⟩
    have hkm : (k : Int) + 1 = (m : Int) := by omega
    by_cases k3 : m < T.size
    case neg =>
     have dm : decide (T.size ≤ m) = true := decide_eq_true (by omega)
     have Hr : As (r = .error (T.size, 10)) := ⟨HER.out true (by rw [codeF, ha1]; simp only; rw [hd1]; simp only; rw [← hm1, show T.data.toList[m]? = none from List.getElem?_eq_none_iff.2 (by rw [Hsl.out]; omega)])⟩
     as_aux_lemma =>
      clear HOK HER; (try clear hm1); (try clear hp1); (try clear he); (try clear hV); (try clear hcode); (try clear h59); (try clear h593)
      go_wp2
      have HoW0 := As.mk hoW
      go_loopw [6, 7] (fun v q wr => ((v = .int .i64 0 ∧ q = .int .i64 0 ∧ RR wr g T k 0 0) ∨ (v = .int .i64 (d1 : Int) ∧ q = .int .i64 1 ∧ RR wr g T m 0 0)) ∧ Upg g w wr ∧ Blk wr g2 [.int .i64 0, .int .i64 0, .bool false, .slice none 0 0, .string ⟨#[]⟩, .slice none 0 0, .slice none 0 0] 35 ∧ Ow encB 1 5 (g2 + 1) wr (.slice A acc.length cc) (acc.map UInt8.toNat)) (fun _ q _ => 4 - (intOf q).toNat)
      case atStart => exact ⟨.inl ⟨rfl, rfl, R⟩, hu, B2, hoW⟩
      case round =>
       clear R hu B2 C hoW HoW0
       obtain ⟨hq, hu, B2, hoW⟩ := hrel
       rcases hq with ⟨rfl, rfl, R⟩ | ⟨rfl, rfl, R⟩
       · have C := R.out.cells
         (try go_wp2)
         have hd := (Below.refl (World.heap wr).size wr).drew
         replace R := R.below hd
         replace hu := hu.trans (Upg.of_below hd)
         replace B2 := B2.below hd
         replace hoW := hoW.below hd
         clear C
         have C := R.out.cells
         have hS : ∀ W, RR W g T k 0 0 → W.cell? ⟨g, 0, none⟩ = some (.string T) ∧ W.cell? ⟨g, 1, none⟩ = some (.int .i64 (k : Int)) := fun W R => ⟨R.out.cells 0, R.out.cells 1⟩
         have hS0 := hS _ R
         go_region_held3 (fun W => W.cell? ⟨g, 0, none⟩ = some (.string T) ∧ W.cell? ⟨g, 1, none⟩ = some (.int .i64 (k : Int))) (first | assumption | exact hS _ R) (first
          | (go_at_call 16; (with_reducible refine (rend_b R false dk).mono ?_); rintro e wn ⟨vn, rfl, rfl, hb⟩; replace R := R.below hb; clear C; have C := R.out.cells; replace hu := hu.trans (Upg.of_below hb); replace B2 := B2.below hb; replace hoW := hoW.below hb; clear hb)
          | (go_at_call 49; (with_reducible refine (rhex_b _ (d1 : Int) hx1 _).mono ?_); rintro e wn ⟨vn, rfl, rfl, hb⟩; replace R := R.below hb; clear C; have C := R.out.cells; replace hu := hu.trans (Upg.of_below hb); replace B2 := B2.below hb; replace hoW := hoW.below hb; clear hb))
         clear hS hS0 hd
         go_wp2
         (try go_wp2)
         have hd := (Below.refl (World.heap wn).size wn).drew
         replace R := R.below hd
         replace hu := hu.trans (Upg.of_below hd)
         replace B2 := B2.below hd
         replace hoW := hoW.below hd
         clear C
         have C := R.out.cells
         have hS : ∀ W, RR W g T k 0 0 → W.cell? ⟨g, 0, none⟩ = some (.string T) ∧ W.cell? ⟨g, 1, none⟩ = some (.int .i64 (k : Int)) := fun W R => ⟨R.out.cells 0, R.out.cells 1⟩
         have hS0 := hS _ R
         go_region_held3 (fun W => W.cell? ⟨g, 0, none⟩ = some (.string T) ∧ W.cell? ⟨g, 1, none⟩ = some (.int .i64 (k : Int))) (first | assumption | exact hS _ R) (first
          | (go_at_call 49; (with_reducible refine (rhex_b _ (d1 : Int) hx1 _).mono ?_); rintro e wn ⟨vn, rfl, rfl, hb⟩; replace R := R.below hb; clear C; have C := R.out.cells; replace hu := hu.trans (Upg.of_below hb); replace B2 := B2.below hb; replace hoW := hoW.below hb; clear hb))
         clear hS hS0 hd
         go_wp2_with (first
          | ((with_reducible refine g_store 130 ?_); go_must (refine ev_store rfl rfl R.out (news := [.int .i64 ((m : Nat) : Int)]) (by first | rfl | (go_simp; first | rfl | go_num | (simp; omega))) infoI (by simp) (by simp [Value.oneCell']) ?_); intro wn ho Bn; simp only [zI, zA, zC, zD, zE, zF, zH, zB, zG, Nat.reduceAdd] at Bn; have R2 : RR wn g T (m) 0 0 := ⟨Bn⟩; clear Bn; have hq := Upg.of_only ho; clear C R; have R := R2; clear R2; have C := R.out.cells; replace hu := hu.trans hq; replace B2 := blk_upg B2 hq hne2; replace hoW := ow_upg hoW hq hgb; clear hq; clear ho))
         go_roundw
         case rel => exact ⟨.inr (⟨by first | rfl | go_num | (congr 1; go_num) | (simp; omega), by first | rfl | go_num, R⟩), hu, B2, hoW⟩
         case measure => simp [intOf]
       · have C := R.out.cells
         (try go_wp2)
         have hd := (Below.refl (World.heap wr).size wr).drew
         replace R := R.below hd
         replace hu := hu.trans (Upg.of_below hd)
         replace B2 := B2.below hd
         replace hoW := hoW.below hd
         clear C
         have C := R.out.cells
         have hS : ∀ W, RR W g T m 0 0 → W.cell? ⟨g, 0, none⟩ = some (.string T) ∧ W.cell? ⟨g, 1, none⟩ = some (.int .i64 (m : Int)) := fun W R => ⟨R.out.cells 0, R.out.cells 1⟩
         have hS0 := hS _ R
         refine wp_gen2 (fun Q7 hQ7 => ?_)
         refine wp_region_held_drew (S := fun W => W.cell? ⟨g, 0, none⟩ = some (.string T) ∧ W.cell? ⟨g, 1, none⟩ = some (.int .i64 (m : Int))) (by kernel_rfl) (hS0) (fun hHeld => ?_)
         refine ta 0 (.pointer (some ⟨g, 0, none⟩)) ?_
         refine wpAnyH_ready (rs := [1]) (by decide +kernel) (by simp) ?_
         refine AllReadyH.cons (o := _) (by simp only [List.getElem?_toArray, List.getElem?_cons_succ, List.getElem?_cons_zero]; rfl) (fun K hK => ?_) AllReadyH.nil
         refine gI ?_
         (with_reducible refine s_dst 92 ?_); go_simp; (with_reducible refine (rend_b R true dm).mono ?_); rintro e wn ⟨vn, rfl, rfl, hb⟩; replace R := R.below hb; clear C; have C := R.out.cells; replace hu := hu.trans (Upg.of_below hb); replace B2 := B2.below hb; replace hoW := hoW.below hb; clear hb
         refine hK.out _ _ (hS _ R) (fun hHeld => ?_); clear hK K; (try simp only [Act.put, pA, pB, pC, pD, pE, pF])
         refine ta 2 (.bool false) ?_
         refine ta 3 (.bool false) ?_
         refine tu 4 ?_
         refine tu 5 ?_
         refine ta 6 (.bool false) ?_
         refine ta 7 (.bool false) ?_
         refine tu 8 ?_
         refine tu 9 ?_
         refine tu 10 ?_
         refine tu 11 ?_
         refine tu 12 ?_
         refine tu 13 ?_
         refine tu 14 ?_
         refine tu 15 ?_
         refine tu 16 ?_
         refine tu 17 ?_
         refine tu 18 ?_
         refine ta 19 (.bool false) ?_
         refine wpAnyH_done (by kernel_rfl) ?_ _
         refine NoPanic.normal ?_
         obtain ⟨rfl⟩ := hQ7
         clear hS hS0 hd
         go_wp2_with (first
          | (go_at_call 16; (with_reducible refine (rend_b R true dm).mono ?_); rintro e wn ⟨vn, rfl, rfl, hb⟩; replace R := R.below hb; clear C; have C := R.out.cells; replace hu := hu.trans (Upg.of_below hb); replace B2 := B2.below hb; replace hoW := hoW.below hb; clear hb)
          | (go_at_call 31; (with_reducible refine (rfail_ok R 10 T.size).mono ?_); rintro e wn ⟨rfl, ho, R2⟩; have hq := Upg.of_only ho; clear C R; have R := R2; clear R2; have C := R.out.cells; replace hu := hu.trans hq; replace B2 := blk_upg B2 hq hne2; replace hoW := ow_upg hoW hq hgb; clear hq)
          | ((with_reducible refine g_store 2 ?_); go_must (refine ev_store rfl rfl B2 (news := [.int .i64 0, .int .i64 0, .bool false, .slice none 0 0, .string ⟨#[]⟩, .slice none 0 0, .slice none 0 0]) (by first | rfl | (go_simp; try rfl)) infoD (by simp) (by simp [Value.oneCell']) ?_); intro wn ho Bn; simp only [encD, zA, zB, zC, zD, zE, zF, zG, zH] at Bn; replace hu := hu.only_new ho hs2; have R2 : RR wn g T _ _ _ := ⟨R.out.only ho (Ne.symm hne2)⟩; clear C R; have R := R2; clear R2; have C := R.out.cells; replace B2 := Bn; clear Bn ho))
         refine bodyPost_ret (results_cell_row rfl _ _ g2 35 ([.int .i64 0, .int .i64 0, .bool false, .slice none 0 0, .string ⟨#[]⟩, .slice none 0 0, .slice none 0 0] : List Value).toArray (0, 0) _ rfl B2.h Tryz.underlying35 rfl (by kernel_rfl)) rfl ?_
         exact ⟨_, rfl, hu, by rw [Hr.out]; exact ⟨_, R, by decide⟩, ldZ, rfl, good_z _ _ _ (by decide) (by decide) _, fun b hb => (by rw [ldZ, foot_z] at hb; cases hb), fun x e h => by rw [Hr.out] at h; cases h⟩
    obtain ⟨a2, ha2⟩ := get_size T k3
    have hcx2 := get_c k3 ha2
    have hm1i : (m : Int) < (T.size : Int) := by omega
    have dm : decide (T.size ≤ m) = false := decide_eq_false (by omega)
    have e59 := u8R a2 59 (by omega)
    by_cases h59 : a2 = 59
    · have z59 : ((a2.toNat : Int) != 59) = false := by rw [h59]; rfl
      have hx2 : hexI a2 = -1 := by rw [h59]; rfl
      obtain ⟨e, he⟩ : ∃ e, e = m := ⟨_, rfl⟩
      have Hs := As.mk (HOK.out d1 m (by rw [codeF, ha1]; simp only; rw [hd1]; simp only; rw [← hm1, ha2]; simp only; rw [if_pos h59]))
      rw [← he] at Hs
      have hme : (m : Int) + 1 = ((e + 1 : Nat) : Int) := by omega
      have Hv : As (d1 < 256) := ⟨by omega⟩
      as_aux_lemma =>
       clear HOK HER; (try clear hm1); (try clear hp1); (try clear he); (try clear hV); (try clear hcode); (try clear h59); (try clear h593)
       go_wp2
       have HoW0 := As.mk hoW
       go_loopw [6, 7] (fun v q wr => ((v = .int .i64 0 ∧ q = .int .i64 0 ∧ RR wr g T k 0 0) ∨ (v = .int .i64 (d1 : Int) ∧ q = .int .i64 1 ∧ RR wr g T m 0 0)) ∧ Upg g w wr ∧ Blk wr g2 [.int .i64 0, .int .i64 0, .bool false, .slice none 0 0, .string ⟨#[]⟩, .slice none 0 0, .slice none 0 0] 35 ∧ Ow encB 1 5 (g2 + 1) wr (.slice A acc.length cc) (acc.map UInt8.toNat)) (fun _ q _ => 4 - (intOf q).toNat)
       case atStart => exact ⟨.inl ⟨rfl, rfl, R⟩, hu, B2, hoW⟩
       case round =>
        clear R hu B2 C hoW HoW0
        obtain ⟨hq, hu, B2, hoW⟩ := hrel
        rcases hq with ⟨rfl, rfl, R⟩ | ⟨rfl, rfl, R⟩
        · have C := R.out.cells
          (try go_wp2)
          have hd := (Below.refl (World.heap wr).size wr).drew
          replace R := R.below hd
          replace hu := hu.trans (Upg.of_below hd)
          replace B2 := B2.below hd
          replace hoW := hoW.below hd
          clear C
          have C := R.out.cells
          have hS : ∀ W, RR W g T k 0 0 → W.cell? ⟨g, 0, none⟩ = some (.string T) ∧ W.cell? ⟨g, 1, none⟩ = some (.int .i64 (k : Int)) := fun W R => ⟨R.out.cells 0, R.out.cells 1⟩
          have hS0 := hS _ R
          go_region_held3 (fun W => W.cell? ⟨g, 0, none⟩ = some (.string T) ∧ W.cell? ⟨g, 1, none⟩ = some (.int .i64 (k : Int))) (first | assumption | exact hS _ R) (first
           | (go_at_call 16; (with_reducible refine (rend_b R false dk).mono ?_); rintro e wn ⟨vn, rfl, rfl, hb⟩; replace R := R.below hb; clear C; have C := R.out.cells; replace hu := hu.trans (Upg.of_below hb); replace B2 := B2.below hb; replace hoW := hoW.below hb; clear hb)
           | (go_at_call 49; (with_reducible refine (rhex_b _ (d1 : Int) hx1 _).mono ?_); rintro e wn ⟨vn, rfl, rfl, hb⟩; replace R := R.below hb; clear C; have C := R.out.cells; replace hu := hu.trans (Upg.of_below hb); replace B2 := B2.below hb; replace hoW := hoW.below hb; clear hb))
          clear hS hS0 hd
          go_wp2
          (try go_wp2)
          have hd := (Below.refl (World.heap wn).size wn).drew
          replace R := R.below hd
          replace hu := hu.trans (Upg.of_below hd)
          replace B2 := B2.below hd
          replace hoW := hoW.below hd
          clear C
          have C := R.out.cells
          have hS : ∀ W, RR W g T k 0 0 → W.cell? ⟨g, 0, none⟩ = some (.string T) ∧ W.cell? ⟨g, 1, none⟩ = some (.int .i64 (k : Int)) := fun W R => ⟨R.out.cells 0, R.out.cells 1⟩
          have hS0 := hS _ R
          go_region_held3 (fun W => W.cell? ⟨g, 0, none⟩ = some (.string T) ∧ W.cell? ⟨g, 1, none⟩ = some (.int .i64 (k : Int))) (first | assumption | exact hS _ R) (first
           | (go_at_call 49; (with_reducible refine (rhex_b _ (d1 : Int) hx1 _).mono ?_); rintro e wn ⟨vn, rfl, rfl, hb⟩; replace R := R.below hb; clear C; have C := R.out.cells; replace hu := hu.trans (Upg.of_below hb); replace B2 := B2.below hb; replace hoW := hoW.below hb; clear hb))
          clear hS hS0 hd
          go_wp2_with (first
           | ((with_reducible refine g_store 130 ?_); go_must (refine ev_store rfl rfl R.out (news := [.int .i64 ((m : Nat) : Int)]) (by first | rfl | (go_simp; first | rfl | go_num | (simp; omega))) infoI (by simp) (by simp [Value.oneCell']) ?_); intro wn ho Bn; simp only [zI, zA, zC, zD, zE, zF, zH, zB, zG, Nat.reduceAdd] at Bn; have R2 : RR wn g T (m) 0 0 := ⟨Bn⟩; clear Bn; have hq := Upg.of_only ho; clear C R; have R := R2; clear R2; have C := R.out.cells; replace hu := hu.trans hq; replace B2 := blk_upg B2 hq hne2; replace hoW := ow_upg hoW hq hgb; clear hq; clear ho))
          go_roundw
          case rel => exact ⟨.inr (⟨by first | rfl | go_num | (congr 1; go_num) | (simp; omega), by first | rfl | go_num, R⟩), hu, B2, hoW⟩
          case measure => simp [intOf]
        · have C := R.out.cells
          (try go_wp2)
          have hd := (Below.refl (World.heap wr).size wr).drew
          replace R := R.below hd
          replace hu := hu.trans (Upg.of_below hd)
          replace B2 := B2.below hd
          replace hoW := hoW.below hd
          clear C
          have C := R.out.cells
          have hS : ∀ W, RR W g T m 0 0 → W.cell? ⟨g, 0, none⟩ = some (.string T) ∧ W.cell? ⟨g, 1, none⟩ = some (.int .i64 (m : Int)) := fun W R => ⟨R.out.cells 0, R.out.cells 1⟩
          have hS0 := hS _ R
          go_region_held3 (fun W => W.cell? ⟨g, 0, none⟩ = some (.string T) ∧ W.cell? ⟨g, 1, none⟩ = some (.int .i64 (m : Int))) (first | assumption | exact hS _ R) (first
           | (go_at_call 16; (with_reducible refine (rend_b R false dm).mono ?_); rintro e wn ⟨vn, rfl, rfl, hb⟩; replace R := R.below hb; clear C; have C := R.out.cells; replace hu := hu.trans (Upg.of_below hb); replace B2 := B2.below hb; replace hoW := hoW.below hb; clear hb)
           | (go_at_call 49; (with_reducible refine (rhex_b _ (-1 : Int) hx2 _).mono ?_); rintro e wn ⟨vn, rfl, rfl, hb⟩; replace R := R.below hb; clear C; have C := R.out.cells; replace hu := hu.trans (Upg.of_below hb); replace B2 := B2.below hb; replace hoW := hoW.below hb; clear hb))
          clear hS hS0 hd
          go_wp2_with (first
           | (go_at_call 16; (with_reducible refine (rend_b R false dm).mono ?_); rintro e wn ⟨vn, rfl, rfl, hb⟩; replace R := R.below hb; clear C; have C := R.out.cells; replace hu := hu.trans (Upg.of_below hb); replace B2 := B2.below hb; replace hoW := hoW.below hb; clear hb))
          (try go_wp2)
          have hd := (Below.refl (World.heap wn).size wn).drew
          replace R := R.below hd
          replace hu := hu.trans (Upg.of_below hd)
          replace B2 := B2.below hd
          replace hoW := hoW.below hd
          clear C
          have C := R.out.cells
          have hS : ∀ W, RR W g T m 0 0 → W.cell? ⟨g, 0, none⟩ = some (.string T) ∧ W.cell? ⟨g, 1, none⟩ = some (.int .i64 (m : Int)) := fun W R => ⟨R.out.cells 0, R.out.cells 1⟩
          have hS0 := hS _ R
          go_region_held3 (fun W => W.cell? ⟨g, 0, none⟩ = some (.string T) ∧ W.cell? ⟨g, 1, none⟩ = some (.int .i64 (m : Int))) (first | assumption | exact hS _ R) (first
           | fail)
          clear hS hS0 hd
          go_wp2_with (first
           | ((with_reducible refine g_store 167 ?_); go_must (refine ev_store rfl rfl R.out (news := [.int .i64 ((e + 1 : Nat) : Int)]) (by first | rfl | (go_simp; first | rfl | go_num | (simp; omega))) infoI (by simp) (by simp [Value.oneCell']) ?_); intro wn ho Bn; simp only [zI, zA, zC, zD, zE, zF, zH, zB, zG, Nat.reduceAdd] at Bn; have R2 : RR wn g T (e + 1) 0 0 := ⟨Bn⟩; clear Bn; have hq := Upg.of_only ho; clear C R; have R := R2; clear R2; have C := R.out.cells; replace hu := hu.trans hq; replace B2 := blk_upg B2 hq hne2; replace hoW := ow_upg hoW hq hgb; clear hq; clear ho)
           | ((with_reducible refine g_dst 171 ?_); go_must (refine ev_lit (v := fun g => .slice (some ⟨g, 0, none⟩) 1 1) 171 rfl (cs := [valB8 d1]) (t := 5) (by go_simp; rfl) ?_); intro g6 wn hb B6 hg6; replace R := R.below hb; clear C; have C := R.out.cells; replace hu := hu.trans (Upg.of_below hb); replace B2 := B2.below hb; replace hoW := hoW.below hb; clear hb)
           | ((with_reducible refine g_dst 172 ?_); go_must (refine ev_append1 172 Tryz.underlying67 infoB rfl (by decide) rfl hoW (d1) rfl B6 rfl (oneB _) (by rw [List.length_map]; have := Ha.out; omega) (by rw [List.length_map]; simp only [maxLen]; have := Ha.out; omega) B2.lt ?_); intro v7 wn ho7 hg7 hor7; have hb := hoW.grown (Below.refl (g2 + 1) _) hg7 (Nat.le_refl _) B2.lt; replace R : RR wn g T _ _ _ := ⟨blkB R.out hb hgb⟩; replace B2 := blkB B2 hb (Nat.lt_succ_self _); replace hu := hu.belowB hb hwb; replace hoW := ho7; clear C hb hg7 hor7 ho7 B6; have C := R.out.cells))
          go_roundw
          case rel => exact ⟨acc ++ [UInt8.ofNat d1], e + 1, by rw [List.map_append, List.map_singleton, UInt8.toNat_ofNat', Nat.mod_eq_of_lt Hv.out]; exact hoW, by rw [List.length_append, List.length_singleton]; have := Ha.out; omega, by omega, R, hu, B2, Hs⟩
          case measure => rw [R.at_, hat.out]; omega
    have z59 : ((a2.toNat : Int) != 59) = true := by
     rw [show (a2 == UInt8.ofNat 59) = false by simpa using h59] at e59
     have e60 : ((a2.toNat : Int) == 59) = false := e59
     rw [bne, e60]; rfl
    cases hd2 : hexD a2 with
    | none =>
      have hx2 : hexI a2 = -1 := by rw [hexI, hd2]
      have Hr : As (r = .error (j, 13)) := ⟨HER.out false (by rw [codeF, ha1]; simp only; rw [hd1]; simp only; rw [← hm1, ha2]; simp only; rw [if_neg h59, hd2])⟩
      as_aux_lemma =>
       clear HOK HER; (try clear hm1); (try clear hp1); (try clear he); (try clear hV); (try clear hcode); (try clear h59); (try clear h593)
       go_wp2
       have HoW0 := As.mk hoW
       go_loopw [6, 7] (fun v q wr => ((v = .int .i64 0 ∧ q = .int .i64 0 ∧ RR wr g T k 0 0) ∨ (v = .int .i64 (d1 : Int) ∧ q = .int .i64 1 ∧ RR wr g T m 0 0)) ∧ Upg g w wr ∧ Blk wr g2 [.int .i64 0, .int .i64 0, .bool false, .slice none 0 0, .string ⟨#[]⟩, .slice none 0 0, .slice none 0 0] 35 ∧ Ow encB 1 5 (g2 + 1) wr (.slice A acc.length cc) (acc.map UInt8.toNat)) (fun _ q _ => 4 - (intOf q).toNat)
       case atStart => exact ⟨.inl ⟨rfl, rfl, R⟩, hu, B2, hoW⟩
       case round =>
        clear R hu B2 C hoW HoW0
        obtain ⟨hq, hu, B2, hoW⟩ := hrel
        rcases hq with ⟨rfl, rfl, R⟩ | ⟨rfl, rfl, R⟩
        · have C := R.out.cells
          (try go_wp2)
          have hd := (Below.refl (World.heap wr).size wr).drew
          replace R := R.below hd
          replace hu := hu.trans (Upg.of_below hd)
          replace B2 := B2.below hd
          replace hoW := hoW.below hd
          clear C
          have C := R.out.cells
          have hS : ∀ W, RR W g T k 0 0 → W.cell? ⟨g, 0, none⟩ = some (.string T) ∧ W.cell? ⟨g, 1, none⟩ = some (.int .i64 (k : Int)) := fun W R => ⟨R.out.cells 0, R.out.cells 1⟩
          have hS0 := hS _ R
          go_region_held3 (fun W => W.cell? ⟨g, 0, none⟩ = some (.string T) ∧ W.cell? ⟨g, 1, none⟩ = some (.int .i64 (k : Int))) (first | assumption | exact hS _ R) (first
           | (go_at_call 16; (with_reducible refine (rend_b R false dk).mono ?_); rintro e wn ⟨vn, rfl, rfl, hb⟩; replace R := R.below hb; clear C; have C := R.out.cells; replace hu := hu.trans (Upg.of_below hb); replace B2 := B2.below hb; replace hoW := hoW.below hb; clear hb)
           | (go_at_call 49; (with_reducible refine (rhex_b _ (d1 : Int) hx1 _).mono ?_); rintro e wn ⟨vn, rfl, rfl, hb⟩; replace R := R.below hb; clear C; have C := R.out.cells; replace hu := hu.trans (Upg.of_below hb); replace B2 := B2.below hb; replace hoW := hoW.below hb; clear hb))
          clear hS hS0 hd
          go_wp2
          (try go_wp2)
          have hd := (Below.refl (World.heap wn).size wn).drew
          replace R := R.below hd
          replace hu := hu.trans (Upg.of_below hd)
          replace B2 := B2.below hd
          replace hoW := hoW.below hd
          clear C
          have C := R.out.cells
          have hS : ∀ W, RR W g T k 0 0 → W.cell? ⟨g, 0, none⟩ = some (.string T) ∧ W.cell? ⟨g, 1, none⟩ = some (.int .i64 (k : Int)) := fun W R => ⟨R.out.cells 0, R.out.cells 1⟩
          have hS0 := hS _ R
          go_region_held3 (fun W => W.cell? ⟨g, 0, none⟩ = some (.string T) ∧ W.cell? ⟨g, 1, none⟩ = some (.int .i64 (k : Int))) (first | assumption | exact hS _ R) (first
           | (go_at_call 49; (with_reducible refine (rhex_b _ (d1 : Int) hx1 _).mono ?_); rintro e wn ⟨vn, rfl, rfl, hb⟩; replace R := R.below hb; clear C; have C := R.out.cells; replace hu := hu.trans (Upg.of_below hb); replace B2 := B2.below hb; replace hoW := hoW.below hb; clear hb))
          clear hS hS0 hd
          go_wp2_with (first
           | ((with_reducible refine g_store 130 ?_); go_must (refine ev_store rfl rfl R.out (news := [.int .i64 ((m : Nat) : Int)]) (by first | rfl | (go_simp; first | rfl | go_num | (simp; omega))) infoI (by simp) (by simp [Value.oneCell']) ?_); intro wn ho Bn; simp only [zI, zA, zC, zD, zE, zF, zH, zB, zG, Nat.reduceAdd] at Bn; have R2 : RR wn g T (m) 0 0 := ⟨Bn⟩; clear Bn; have hq := Upg.of_only ho; clear C R; have R := R2; clear R2; have C := R.out.cells; replace hu := hu.trans hq; replace B2 := blk_upg B2 hq hne2; replace hoW := ow_upg hoW hq hgb; clear hq; clear ho))
          go_roundw
          case rel => exact ⟨.inr (⟨by first | rfl | go_num | (congr 1; go_num) | (simp; omega), by first | rfl | go_num, R⟩), hu, B2, hoW⟩
          case measure => simp [intOf]
        · have C := R.out.cells
          (try go_wp2)
          have hd := (Below.refl (World.heap wr).size wr).drew
          replace R := R.below hd
          replace hu := hu.trans (Upg.of_below hd)
          replace B2 := B2.below hd
          replace hoW := hoW.below hd
          clear C
          have C := R.out.cells
          have hS : ∀ W, RR W g T m 0 0 → W.cell? ⟨g, 0, none⟩ = some (.string T) ∧ W.cell? ⟨g, 1, none⟩ = some (.int .i64 (m : Int)) := fun W R => ⟨R.out.cells 0, R.out.cells 1⟩
          have hS0 := hS _ R
          go_region_held3 (fun W => W.cell? ⟨g, 0, none⟩ = some (.string T) ∧ W.cell? ⟨g, 1, none⟩ = some (.int .i64 (m : Int))) (first | assumption | exact hS _ R) (first
           | (go_at_call 16; (with_reducible refine (rend_b R false dm).mono ?_); rintro e wn ⟨vn, rfl, rfl, hb⟩; replace R := R.below hb; clear C; have C := R.out.cells; replace hu := hu.trans (Upg.of_below hb); replace B2 := B2.below hb; replace hoW := hoW.below hb; clear hb)
           | (go_at_call 49; (with_reducible refine (rhex_b _ (-1 : Int) hx2 _).mono ?_); rintro e wn ⟨vn, rfl, rfl, hb⟩; replace R := R.below hb; clear C; have C := R.out.cells; replace hu := hu.trans (Upg.of_below hb); replace B2 := B2.below hb; replace hoW := hoW.below hb; clear hb))
          clear hS hS0 hd
          go_wp2_with (first
           | (go_at_call 16; (with_reducible refine (rend_b R false dm).mono ?_); rintro e wn ⟨vn, rfl, rfl, hb⟩; replace R := R.below hb; clear C; have C := R.out.cells; replace hu := hu.trans (Upg.of_below hb); replace B2 := B2.below hb; replace hoW := hoW.below hb; clear hb))
          (try go_wp2)
          have hd := (Below.refl (World.heap wn).size wn).drew
          replace R := R.below hd
          replace hu := hu.trans (Upg.of_below hd)
          replace B2 := B2.below hd
          replace hoW := hoW.below hd
          clear C
          have C := R.out.cells
          have hS : ∀ W, RR W g T m 0 0 → W.cell? ⟨g, 0, none⟩ = some (.string T) ∧ W.cell? ⟨g, 1, none⟩ = some (.int .i64 (m : Int)) := fun W R => ⟨R.out.cells 0, R.out.cells 1⟩
          have hS0 := hS _ R
          go_region_held3 (fun W => W.cell? ⟨g, 0, none⟩ = some (.string T) ∧ W.cell? ⟨g, 1, none⟩ = some (.int .i64 (m : Int))) (first | assumption | exact hS _ R) (first
           | fail)
          clear hS hS0 hd
          go_wp2_with (first
           | (go_at_call 31; (with_reducible refine (rfail_ok R 13 (j : Int)).mono ?_); rintro e wn ⟨rfl, ho, R2⟩; have hq := Upg.of_only ho; clear C R; have R := R2; clear R2; have C := R.out.cells; replace hu := hu.trans hq; replace B2 := blk_upg B2 hq hne2; replace hoW := ow_upg hoW hq hgb; clear hq)
           | ((with_reducible refine g_store 2 ?_); go_must (refine ev_store rfl rfl B2 (news := [.int .i64 0, .int .i64 0, .bool false, .slice none 0 0, .string ⟨#[]⟩, .slice none 0 0, .slice none 0 0]) (by first | rfl | (go_simp; try rfl)) infoD (by simp) (by simp [Value.oneCell']) ?_); intro wn ho Bn; simp only [encD, zA, zB, zC, zD, zE, zF, zG, zH] at Bn; replace hu := hu.only_new ho hs2; have R2 : RR wn g T _ _ _ := ⟨R.out.only ho (Ne.symm hne2)⟩; clear C R; have R := R2; clear R2; have C := R.out.cells; replace B2 := Bn; clear Bn ho))
          refine bodyPost_ret (results_cell_row rfl _ _ g2 35 ([.int .i64 0, .int .i64 0, .bool false, .slice none 0 0, .string ⟨#[]⟩, .slice none 0 0, .slice none 0 0] : List Value).toArray (0, 0) _ rfl B2.h Tryz.underlying35 rfl (by kernel_rfl)) rfl ?_
          exact ⟨_, rfl, hu, by rw [Hr.out]; exact ⟨_, R, by decide⟩, ldZ, rfl, good_z _ _ _ (by decide) (by decide) _, fun b hb => (by rw [ldZ, foot_z] at hb; cases hb), fun x e h => by rw [Hr.out] at h; cases h⟩
    | some d2 =>
      have hl2 := hexD_lt hd2
      obtain ⟨V, hV⟩ : ∃ V, V = 16 * d1 + d2 := ⟨_, rfl⟩
      have HVV : 16 * (d1 : Int) + (d2 : Int) = (V : Int) := by omega
      have hwV : IntKind.i64.wrap (V : Int) = (V : Int) := IntWalk.i64_in _ (by omega)
      have hx2 : hexI a2 = (d2 : Int) := by rw [hexI, hd2]
      obtain ⟨p, hp1⟩ : ∃ p, p = m + 1 := ⟨_, rfl⟩
      have hmp : (m : Int) + 1 = (p : Int) := by omega
      have hcode : codeF T.data.toList k = (match T.data.toList[p]? with | none => .error true | some e => if e = 59 then .ok (16 * d1 + d2, p) else .error false) := by
       rw [codeF, ha1]; simp only; rw [hd1]; simp only; rw [← hm1, ha2]; simp only; rw [if_neg h59, hd2]; simp only
       rw [show k + 2 = p by omega]
       cases T.data.toList[p]? <;> rfl
      by_cases k5 : p < T.size
      case neg =>
       have dp : decide (T.size ≤ p) = true := decide_eq_true (by omega)
       have Hr : As (r = .error (T.size, 10)) := ⟨HER.out true (by rw [hcode, show T.data.toList[p]? = none from List.getElem?_eq_none_iff.2 (by rw [Hsl.out]; omega)])⟩
       as_aux_lemma =>
        clear HOK HER; (try clear hm1); (try clear hp1); (try clear he); (try clear hV); (try clear hcode); (try clear h59); (try clear h593)
        go_wp2
        have HoW0 := As.mk hoW
        go_loopw [6, 7] (fun v q wr => ((v = .int .i64 0 ∧ q = .int .i64 0 ∧ RR wr g T k 0 0) ∨ (v = .int .i64 (d1 : Int) ∧ q = .int .i64 1 ∧ RR wr g T m 0 0) ∨ (v = .int .i64 (V : Int) ∧ q = .int .i64 2 ∧ RR wr g T p 0 0)) ∧ Upg g w wr ∧ Blk wr g2 [.int .i64 0, .int .i64 0, .bool false, .slice none 0 0, .string ⟨#[]⟩, .slice none 0 0, .slice none 0 0] 35 ∧ Ow encB 1 5 (g2 + 1) wr (.slice A acc.length cc) (acc.map UInt8.toNat)) (fun _ q _ => 4 - (intOf q).toNat)
        case atStart => exact ⟨.inl ⟨rfl, rfl, R⟩, hu, B2, hoW⟩
        case round =>
         clear R hu B2 C hoW HoW0
         obtain ⟨hq, hu, B2, hoW⟩ := hrel
         rcases hq with ⟨rfl, rfl, R⟩ | ⟨rfl, rfl, R⟩ | ⟨rfl, rfl, R⟩
         · have C := R.out.cells
           (try go_wp2)
           have hd := (Below.refl (World.heap wr).size wr).drew
           replace R := R.below hd
           replace hu := hu.trans (Upg.of_below hd)
           replace B2 := B2.below hd
           replace hoW := hoW.below hd
           clear C
           have C := R.out.cells
           have hS : ∀ W, RR W g T k 0 0 → W.cell? ⟨g, 0, none⟩ = some (.string T) ∧ W.cell? ⟨g, 1, none⟩ = some (.int .i64 (k : Int)) := fun W R => ⟨R.out.cells 0, R.out.cells 1⟩
           have hS0 := hS _ R
           go_region_held3 (fun W => W.cell? ⟨g, 0, none⟩ = some (.string T) ∧ W.cell? ⟨g, 1, none⟩ = some (.int .i64 (k : Int))) (first | assumption | exact hS _ R) (first
            | (go_at_call 16; (with_reducible refine (rend_b R false dk).mono ?_); rintro e wn ⟨vn, rfl, rfl, hb⟩; replace R := R.below hb; clear C; have C := R.out.cells; replace hu := hu.trans (Upg.of_below hb); replace B2 := B2.below hb; replace hoW := hoW.below hb; clear hb)
            | (go_at_call 49; (with_reducible refine (rhex_b _ (d1 : Int) hx1 _).mono ?_); rintro e wn ⟨vn, rfl, rfl, hb⟩; replace R := R.below hb; clear C; have C := R.out.cells; replace hu := hu.trans (Upg.of_below hb); replace B2 := B2.below hb; replace hoW := hoW.below hb; clear hb))
           clear hS hS0 hd
           go_wp2
           (try go_wp2)
           have hd := (Below.refl (World.heap wn).size wn).drew
           replace R := R.below hd
           replace hu := hu.trans (Upg.of_below hd)
           replace B2 := B2.below hd
           replace hoW := hoW.below hd
           clear C
           have C := R.out.cells
           have hS : ∀ W, RR W g T k 0 0 → W.cell? ⟨g, 0, none⟩ = some (.string T) ∧ W.cell? ⟨g, 1, none⟩ = some (.int .i64 (k : Int)) := fun W R => ⟨R.out.cells 0, R.out.cells 1⟩
           have hS0 := hS _ R
           go_region_held3 (fun W => W.cell? ⟨g, 0, none⟩ = some (.string T) ∧ W.cell? ⟨g, 1, none⟩ = some (.int .i64 (k : Int))) (first | assumption | exact hS _ R) (first
            | (go_at_call 49; (with_reducible refine (rhex_b _ (d1 : Int) hx1 _).mono ?_); rintro e wn ⟨vn, rfl, rfl, hb⟩; replace R := R.below hb; clear C; have C := R.out.cells; replace hu := hu.trans (Upg.of_below hb); replace B2 := B2.below hb; replace hoW := hoW.below hb; clear hb))
           clear hS hS0 hd
           go_wp2_with (first
            | ((with_reducible refine g_store 130 ?_); go_must (refine ev_store rfl rfl R.out (news := [.int .i64 ((m : Nat) : Int)]) (by first | rfl | (go_simp; first | rfl | go_num | (simp; omega))) infoI (by simp) (by simp [Value.oneCell']) ?_); intro wn ho Bn; simp only [zI, zA, zC, zD, zE, zF, zH, zB, zG, Nat.reduceAdd] at Bn; have R2 : RR wn g T (m) 0 0 := ⟨Bn⟩; clear Bn; have hq := Upg.of_only ho; clear C R; have R := R2; clear R2; have C := R.out.cells; replace hu := hu.trans hq; replace B2 := blk_upg B2 hq hne2; replace hoW := ow_upg hoW hq hgb; clear hq; clear ho))
           go_roundw
           case rel => exact ⟨.inr (.inl ⟨by first | rfl | go_num | (congr 1; go_num) | (simp; omega), by first | rfl | go_num, R⟩), hu, B2, hoW⟩
           case measure => simp [intOf]
         · have C := R.out.cells
           (try go_wp2)
           have hd := (Below.refl (World.heap wr).size wr).drew
           replace R := R.below hd
           replace hu := hu.trans (Upg.of_below hd)
           replace B2 := B2.below hd
           replace hoW := hoW.below hd
           clear C
           have C := R.out.cells
           have hS : ∀ W, RR W g T m 0 0 → W.cell? ⟨g, 0, none⟩ = some (.string T) ∧ W.cell? ⟨g, 1, none⟩ = some (.int .i64 (m : Int)) := fun W R => ⟨R.out.cells 0, R.out.cells 1⟩
           have hS0 := hS _ R
           go_region_held3 (fun W => W.cell? ⟨g, 0, none⟩ = some (.string T) ∧ W.cell? ⟨g, 1, none⟩ = some (.int .i64 (m : Int))) (first | assumption | exact hS _ R) (first
            | (go_at_call 16; (with_reducible refine (rend_b R false dm).mono ?_); rintro e wn ⟨vn, rfl, rfl, hb⟩; replace R := R.below hb; clear C; have C := R.out.cells; replace hu := hu.trans (Upg.of_below hb); replace B2 := B2.below hb; replace hoW := hoW.below hb; clear hb)
            | (go_at_call 49; (with_reducible refine (rhex_b _ (d2 : Int) hx2 _).mono ?_); rintro e wn ⟨vn, rfl, rfl, hb⟩; replace R := R.below hb; clear C; have C := R.out.cells; replace hu := hu.trans (Upg.of_below hb); replace B2 := B2.below hb; replace hoW := hoW.below hb; clear hb))
           clear hS hS0 hd
           go_wp2
           (try go_wp2)
           have hd := (Below.refl (World.heap wn).size wn).drew
           replace R := R.below hd
           replace hu := hu.trans (Upg.of_below hd)
           replace B2 := B2.below hd
           replace hoW := hoW.below hd
           clear C
           have C := R.out.cells
           have hS : ∀ W, RR W g T m 0 0 → W.cell? ⟨g, 0, none⟩ = some (.string T) ∧ W.cell? ⟨g, 1, none⟩ = some (.int .i64 (m : Int)) := fun W R => ⟨R.out.cells 0, R.out.cells 1⟩
           have hS0 := hS _ R
           go_region_held3 (fun W => W.cell? ⟨g, 0, none⟩ = some (.string T) ∧ W.cell? ⟨g, 1, none⟩ = some (.int .i64 (m : Int))) (first | assumption | exact hS _ R) (first
            | (go_at_call 49; (with_reducible refine (rhex_b _ (d2 : Int) hx2 _).mono ?_); rintro e wn ⟨vn, rfl, rfl, hb⟩; replace R := R.below hb; clear C; have C := R.out.cells; replace hu := hu.trans (Upg.of_below hb); replace B2 := B2.below hb; replace hoW := hoW.below hb; clear hb))
           clear hS hS0 hd
           go_wp2_with (first
            | ((with_reducible refine g_store 130 ?_); go_must (refine ev_store rfl rfl R.out (news := [.int .i64 ((p : Nat) : Int)]) (by first | rfl | (go_simp; first | rfl | go_num | (simp; omega))) infoI (by simp) (by simp [Value.oneCell']) ?_); intro wn ho Bn; simp only [zI, zA, zC, zD, zE, zF, zH, zB, zG, Nat.reduceAdd] at Bn; have R2 : RR wn g T (p) 0 0 := ⟨Bn⟩; clear Bn; have hq := Upg.of_only ho; clear C R; have R := R2; clear R2; have C := R.out.cells; replace hu := hu.trans hq; replace B2 := blk_upg B2 hq hne2; replace hoW := ow_upg hoW hq hgb; clear hq; clear ho))
           go_roundw
           case rel => exact ⟨.inr (.inr (⟨by first | rfl | go_num | (congr 1; go_num) | (simp; omega), by first | rfl | go_num, R⟩)), hu, B2, hoW⟩
           case measure => simp [intOf]
         · have C := R.out.cells
           (try go_wp2)
           have hd := (Below.refl (World.heap wr).size wr).drew
           replace R := R.below hd
           replace hu := hu.trans (Upg.of_below hd)
           replace B2 := B2.below hd
           replace hoW := hoW.below hd
           clear C
           have C := R.out.cells
           have hS : ∀ W, RR W g T p 0 0 → W.cell? ⟨g, 0, none⟩ = some (.string T) ∧ W.cell? ⟨g, 1, none⟩ = some (.int .i64 (p : Int)) := fun W R => ⟨R.out.cells 0, R.out.cells 1⟩
           have hS0 := hS _ R
           refine wp_gen2 (fun Q7 hQ7 => ?_)
           refine wp_region_held_drew (S := fun W => W.cell? ⟨g, 0, none⟩ = some (.string T) ∧ W.cell? ⟨g, 1, none⟩ = some (.int .i64 (p : Int))) (by kernel_rfl) (hS0) (fun hHeld => ?_)
           refine ta 0 (.pointer (some ⟨g, 0, none⟩)) ?_
           refine wpAnyH_ready (rs := [1]) (by decide +kernel) (by simp) ?_
           refine AllReadyH.cons (o := _) (by simp only [List.getElem?_toArray, List.getElem?_cons_succ, List.getElem?_cons_zero]; rfl) (fun K hK => ?_) AllReadyH.nil
           refine gI ?_
           (with_reducible refine s_dst 92 ?_); go_simp; (with_reducible refine (rend_b R true dp).mono ?_); rintro e wn ⟨vn, rfl, rfl, hb⟩; replace R := R.below hb; clear C; have C := R.out.cells; replace hu := hu.trans (Upg.of_below hb); replace B2 := B2.below hb; replace hoW := hoW.below hb; clear hb
           refine hK.out _ _ (hS _ R) (fun hHeld => ?_); clear hK K; (try simp only [Act.put, pA, pB, pC, pD, pE, pF])
           refine ta 2 (.bool false) ?_
           refine ta 3 (.bool false) ?_
           refine tu 4 ?_
           refine tu 5 ?_
           refine ta 6 (.bool false) ?_
           refine ta 7 (.bool false) ?_
           refine tu 8 ?_
           refine tu 9 ?_
           refine tu 10 ?_
           refine tu 11 ?_
           refine tu 12 ?_
           refine tu 13 ?_
           refine tu 14 ?_
           refine tu 15 ?_
           refine tu 16 ?_
           refine tu 17 ?_
           refine tu 18 ?_
           refine ta 19 (.bool false) ?_
           refine wpAnyH_done (by kernel_rfl) ?_ _
           refine NoPanic.normal ?_
           obtain ⟨rfl⟩ := hQ7
           clear hS hS0 hd
           go_wp2_with (first
            | (go_at_call 16; (with_reducible refine (rend_b R true dp).mono ?_); rintro e wn ⟨vn, rfl, rfl, hb⟩; replace R := R.below hb; clear C; have C := R.out.cells; replace hu := hu.trans (Upg.of_below hb); replace B2 := B2.below hb; replace hoW := hoW.below hb; clear hb)
            | (go_at_call 31; (with_reducible refine (rfail_ok R 10 T.size).mono ?_); rintro e wn ⟨rfl, ho, R2⟩; have hq := Upg.of_only ho; clear C R; have R := R2; clear R2; have C := R.out.cells; replace hu := hu.trans hq; replace B2 := blk_upg B2 hq hne2; replace hoW := ow_upg hoW hq hgb; clear hq)
            | ((with_reducible refine g_store 2 ?_); go_must (refine ev_store rfl rfl B2 (news := [.int .i64 0, .int .i64 0, .bool false, .slice none 0 0, .string ⟨#[]⟩, .slice none 0 0, .slice none 0 0]) (by first | rfl | (go_simp; try rfl)) infoD (by simp) (by simp [Value.oneCell']) ?_); intro wn ho Bn; simp only [encD, zA, zB, zC, zD, zE, zF, zG, zH] at Bn; replace hu := hu.only_new ho hs2; have R2 : RR wn g T _ _ _ := ⟨R.out.only ho (Ne.symm hne2)⟩; clear C R; have R := R2; clear R2; have C := R.out.cells; replace B2 := Bn; clear Bn ho))
           refine bodyPost_ret (results_cell_row rfl _ _ g2 35 ([.int .i64 0, .int .i64 0, .bool false, .slice none 0 0, .string ⟨#[]⟩, .slice none 0 0, .slice none 0 0] : List Value).toArray (0, 0) _ rfl B2.h Tryz.underlying35 rfl (by kernel_rfl)) rfl ?_
           exact ⟨_, rfl, hu, by rw [Hr.out]; exact ⟨_, R, by decide⟩, ldZ, rfl, good_z _ _ _ (by decide) (by decide) _, fun b hb => (by rw [ldZ, foot_z] at hb; cases hb), fun x e h => by rw [Hr.out] at h; cases h⟩
      obtain ⟨a3, ha3⟩ := get_size T k5
      have hcx3 := get_c k5 ha3
      have hp1i : (p : Int) < (T.size : Int) := by omega
      have dp : decide (T.size ≤ p) = false := decide_eq_false (by omega)
      have e593 := u8R a3 59 (by omega)
      by_cases h593 : a3 = 59
      · have z593 : ((a3.toNat : Int) != 59) = false := by rw [h593]; rfl
        obtain ⟨e, he⟩ : ∃ e, e = p := ⟨_, rfl⟩
        have Hs := As.mk (HOK.out V p (by rw [hcode, ha3]; simp only; rw [if_pos h593, hV]))
        rw [← he] at Hs
        have hpe : (p : Int) + 1 = ((e + 1 : Nat) : Int) := by omega
        have Hv : As (V < 256) := ⟨by omega⟩
        as_aux_lemma =>
         clear HOK HER; (try clear hm1); (try clear hp1); (try clear he); (try clear hV); (try clear hcode); (try clear h59); (try clear h593)
         go_wp2
         have HoW0 := As.mk hoW
         go_loopw [6, 7] (fun v q wr => ((v = .int .i64 0 ∧ q = .int .i64 0 ∧ RR wr g T k 0 0) ∨ (v = .int .i64 (d1 : Int) ∧ q = .int .i64 1 ∧ RR wr g T m 0 0) ∨ (v = .int .i64 (V : Int) ∧ q = .int .i64 2 ∧ RR wr g T p 0 0)) ∧ Upg g w wr ∧ Blk wr g2 [.int .i64 0, .int .i64 0, .bool false, .slice none 0 0, .string ⟨#[]⟩, .slice none 0 0, .slice none 0 0] 35 ∧ Ow encB 1 5 (g2 + 1) wr (.slice A acc.length cc) (acc.map UInt8.toNat)) (fun _ q _ => 4 - (intOf q).toNat)
         case atStart => exact ⟨.inl ⟨rfl, rfl, R⟩, hu, B2, hoW⟩
         case round =>
          clear R hu B2 C hoW HoW0
          obtain ⟨hq, hu, B2, hoW⟩ := hrel
          rcases hq with ⟨rfl, rfl, R⟩ | ⟨rfl, rfl, R⟩ | ⟨rfl, rfl, R⟩
          · have C := R.out.cells
            (try go_wp2)
            have hd := (Below.refl (World.heap wr).size wr).drew
            replace R := R.below hd
            replace hu := hu.trans (Upg.of_below hd)
            replace B2 := B2.below hd
            replace hoW := hoW.below hd
            clear C
            have C := R.out.cells
            have hS : ∀ W, RR W g T k 0 0 → W.cell? ⟨g, 0, none⟩ = some (.string T) ∧ W.cell? ⟨g, 1, none⟩ = some (.int .i64 (k : Int)) := fun W R => ⟨R.out.cells 0, R.out.cells 1⟩
            have hS0 := hS _ R
            go_region_held3 (fun W => W.cell? ⟨g, 0, none⟩ = some (.string T) ∧ W.cell? ⟨g, 1, none⟩ = some (.int .i64 (k : Int))) (first | assumption | exact hS _ R) (first
             | (go_at_call 16; (with_reducible refine (rend_b R false dk).mono ?_); rintro e wn ⟨vn, rfl, rfl, hb⟩; replace R := R.below hb; clear C; have C := R.out.cells; replace hu := hu.trans (Upg.of_below hb); replace B2 := B2.below hb; replace hoW := hoW.below hb; clear hb)
             | (go_at_call 49; (with_reducible refine (rhex_b _ (d1 : Int) hx1 _).mono ?_); rintro e wn ⟨vn, rfl, rfl, hb⟩; replace R := R.below hb; clear C; have C := R.out.cells; replace hu := hu.trans (Upg.of_below hb); replace B2 := B2.below hb; replace hoW := hoW.below hb; clear hb))
            clear hS hS0 hd
            go_wp2
            (try go_wp2)
            have hd := (Below.refl (World.heap wn).size wn).drew
            replace R := R.below hd
            replace hu := hu.trans (Upg.of_below hd)
            replace B2 := B2.below hd
            replace hoW := hoW.below hd
            clear C
            have C := R.out.cells
            have hS : ∀ W, RR W g T k 0 0 → W.cell? ⟨g, 0, none⟩ = some (.string T) ∧ W.cell? ⟨g, 1, none⟩ = some (.int .i64 (k : Int)) := fun W R => ⟨R.out.cells 0, R.out.cells 1⟩
            have hS0 := hS _ R
            go_region_held3 (fun W => W.cell? ⟨g, 0, none⟩ = some (.string T) ∧ W.cell? ⟨g, 1, none⟩ = some (.int .i64 (k : Int))) (first | assumption | exact hS _ R) (first
             | (go_at_call 49; (with_reducible refine (rhex_b _ (d1 : Int) hx1 _).mono ?_); rintro e wn ⟨vn, rfl, rfl, hb⟩; replace R := R.below hb; clear C; have C := R.out.cells; replace hu := hu.trans (Upg.of_below hb); replace B2 := B2.below hb; replace hoW := hoW.below hb; clear hb))
            clear hS hS0 hd
            go_wp2_with (first
             | ((with_reducible refine g_store 130 ?_); go_must (refine ev_store rfl rfl R.out (news := [.int .i64 ((m : Nat) : Int)]) (by first | rfl | (go_simp; first | rfl | go_num | (simp; omega))) infoI (by simp) (by simp [Value.oneCell']) ?_); intro wn ho Bn; simp only [zI, zA, zC, zD, zE, zF, zH, zB, zG, Nat.reduceAdd] at Bn; have R2 : RR wn g T (m) 0 0 := ⟨Bn⟩; clear Bn; have hq := Upg.of_only ho; clear C R; have R := R2; clear R2; have C := R.out.cells; replace hu := hu.trans hq; replace B2 := blk_upg B2 hq hne2; replace hoW := ow_upg hoW hq hgb; clear hq; clear ho))
            go_roundw
            case rel => exact ⟨.inr (.inl ⟨by first | rfl | go_num | (congr 1; go_num) | (simp; omega), by first | rfl | go_num, R⟩), hu, B2, hoW⟩
            case measure => simp [intOf]
          · have C := R.out.cells
            (try go_wp2)
            have hd := (Below.refl (World.heap wr).size wr).drew
            replace R := R.below hd
            replace hu := hu.trans (Upg.of_below hd)
            replace B2 := B2.below hd
            replace hoW := hoW.below hd
            clear C
            have C := R.out.cells
            have hS : ∀ W, RR W g T m 0 0 → W.cell? ⟨g, 0, none⟩ = some (.string T) ∧ W.cell? ⟨g, 1, none⟩ = some (.int .i64 (m : Int)) := fun W R => ⟨R.out.cells 0, R.out.cells 1⟩
            have hS0 := hS _ R
            go_region_held3 (fun W => W.cell? ⟨g, 0, none⟩ = some (.string T) ∧ W.cell? ⟨g, 1, none⟩ = some (.int .i64 (m : Int))) (first | assumption | exact hS _ R) (first
             | (go_at_call 16; (with_reducible refine (rend_b R false dm).mono ?_); rintro e wn ⟨vn, rfl, rfl, hb⟩; replace R := R.below hb; clear C; have C := R.out.cells; replace hu := hu.trans (Upg.of_below hb); replace B2 := B2.below hb; replace hoW := hoW.below hb; clear hb)
             | (go_at_call 49; (with_reducible refine (rhex_b _ (d2 : Int) hx2 _).mono ?_); rintro e wn ⟨vn, rfl, rfl, hb⟩; replace R := R.below hb; clear C; have C := R.out.cells; replace hu := hu.trans (Upg.of_below hb); replace B2 := B2.below hb; replace hoW := hoW.below hb; clear hb))
            clear hS hS0 hd
            go_wp2
            (try go_wp2)
            have hd := (Below.refl (World.heap wn).size wn).drew
            replace R := R.below hd
            replace hu := hu.trans (Upg.of_below hd)
            replace B2 := B2.below hd
            replace hoW := hoW.below hd
            clear C
            have C := R.out.cells
            have hS : ∀ W, RR W g T m 0 0 → W.cell? ⟨g, 0, none⟩ = some (.string T) ∧ W.cell? ⟨g, 1, none⟩ = some (.int .i64 (m : Int)) := fun W R => ⟨R.out.cells 0, R.out.cells 1⟩
            have hS0 := hS _ R
            go_region_held3 (fun W => W.cell? ⟨g, 0, none⟩ = some (.string T) ∧ W.cell? ⟨g, 1, none⟩ = some (.int .i64 (m : Int))) (first | assumption | exact hS _ R) (first
             | (go_at_call 49; (with_reducible refine (rhex_b _ (d2 : Int) hx2 _).mono ?_); rintro e wn ⟨vn, rfl, rfl, hb⟩; replace R := R.below hb; clear C; have C := R.out.cells; replace hu := hu.trans (Upg.of_below hb); replace B2 := B2.below hb; replace hoW := hoW.below hb; clear hb))
            clear hS hS0 hd
            go_wp2_with (first
             | ((with_reducible refine g_store 130 ?_); go_must (refine ev_store rfl rfl R.out (news := [.int .i64 ((p : Nat) : Int)]) (by first | rfl | (go_simp; first | rfl | go_num | (simp; omega))) infoI (by simp) (by simp [Value.oneCell']) ?_); intro wn ho Bn; simp only [zI, zA, zC, zD, zE, zF, zH, zB, zG, Nat.reduceAdd] at Bn; have R2 : RR wn g T (p) 0 0 := ⟨Bn⟩; clear Bn; have hq := Upg.of_only ho; clear C R; have R := R2; clear R2; have C := R.out.cells; replace hu := hu.trans hq; replace B2 := blk_upg B2 hq hne2; replace hoW := ow_upg hoW hq hgb; clear hq; clear ho))
            go_roundw
            case rel => exact ⟨.inr (.inr (⟨by first | rfl | go_num | (congr 1; go_num) | (simp; omega), by first | rfl | go_num, R⟩)), hu, B2, hoW⟩
            case measure => simp [intOf]
          · have C := R.out.cells
            (try go_wp2)
            have hd := (Below.refl (World.heap wr).size wr).drew
            replace R := R.below hd
            replace hu := hu.trans (Upg.of_below hd)
            replace B2 := B2.below hd
            replace hoW := hoW.below hd
            clear C
            have C := R.out.cells
            have hS : ∀ W, RR W g T p 0 0 → W.cell? ⟨g, 0, none⟩ = some (.string T) ∧ W.cell? ⟨g, 1, none⟩ = some (.int .i64 (p : Int)) := fun W R => ⟨R.out.cells 0, R.out.cells 1⟩
            have hS0 := hS _ R
            refine wp_gen2 (fun Q7 hQ7 => ?_)
            refine wp_region_held_drew (S := fun W => W.cell? ⟨g, 0, none⟩ = some (.string T) ∧ W.cell? ⟨g, 1, none⟩ = some (.int .i64 (p : Int))) (by kernel_rfl) (hS0) (fun hHeld => ?_)
            refine ta 0 (.pointer (some ⟨g, 0, none⟩)) ?_
            refine wpAnyH_ready (rs := [1]) (by decide +kernel) (by simp) ?_
            refine AllReadyH.cons (o := _) (by simp only [List.getElem?_toArray, List.getElem?_cons_succ, List.getElem?_cons_zero]; rfl) (fun K hK => ?_) AllReadyH.nil
            refine gI ?_
            (with_reducible refine s_dst 92 ?_); go_simp; (with_reducible refine (rend_b R false dp).mono ?_); rintro e wn ⟨vn, rfl, rfl, hb⟩; replace R := R.below hb; clear C; have C := R.out.cells; replace hu := hu.trans (Upg.of_below hb); replace B2 := B2.below hb; replace hoW := hoW.below hb; clear hb
            refine hK.out _ _ (hS _ R) (fun hHeld => ?_); clear hK K; (try simp only [Act.put, pA, pB, pC, pD, pE, pF])
            refine ta 2 (.bool true) ?_
            refine ta 3 (.bool true) ?_
            refine ta 4 (.int .i64 2) ?_
            refine ta 5 (.bool false) ?_
            refine ta 6 (.bool false) ?_
            refine ta 7 (.bool false) ?_
            refine tu 8 ?_
            refine tu 9 ?_
            refine tu 10 ?_
            refine tu 11 ?_
            refine tu 12 ?_
            refine tu 13 ?_
            refine tu 14 ?_
            refine tu 15 ?_
            refine tu 16 ?_
            refine tu 17 ?_
            refine tu 18 ?_
            refine ta 19 (.bool false) ?_
            refine wpAnyH_done (by kernel_rfl) ?_ _
            refine NoPanic.normal ?_
            obtain ⟨rfl⟩ := hQ7
            clear hS hS0 hd
            go_wp2_with (first
             | (go_at_call 16; (with_reducible refine (rend_b R false dp).mono ?_); rintro e wn ⟨vn, rfl, rfl, hb⟩; replace R := R.below hb; clear C; have C := R.out.cells; replace hu := hu.trans (Upg.of_below hb); replace B2 := B2.below hb; replace hoW := hoW.below hb; clear hb))
            (try go_wp2)
            have hd := (Below.refl (World.heap wn).size wn).drew
            replace R := R.below hd
            replace hu := hu.trans (Upg.of_below hd)
            replace B2 := B2.below hd
            replace hoW := hoW.below hd
            clear C
            have C := R.out.cells
            have hS : ∀ W, RR W g T p 0 0 → W.cell? ⟨g, 0, none⟩ = some (.string T) ∧ W.cell? ⟨g, 1, none⟩ = some (.int .i64 (p : Int)) := fun W R => ⟨R.out.cells 0, R.out.cells 1⟩
            have hS0 := hS _ R
            go_region_held3 (fun W => W.cell? ⟨g, 0, none⟩ = some (.string T) ∧ W.cell? ⟨g, 1, none⟩ = some (.int .i64 (p : Int))) (first | assumption | exact hS _ R) (first
             | fail)
            clear hS hS0 hd
            go_wp2_with (first
             | ((with_reducible refine g_store 167 ?_); go_must (refine ev_store rfl rfl R.out (news := [.int .i64 ((e + 1 : Nat) : Int)]) (by first | rfl | (go_simp; first | rfl | go_num | (simp; omega))) infoI (by simp) (by simp [Value.oneCell']) ?_); intro wn ho Bn; simp only [zI, zA, zC, zD, zE, zF, zH, zB, zG, Nat.reduceAdd] at Bn; have R2 : RR wn g T (e + 1) 0 0 := ⟨Bn⟩; clear Bn; have hq := Upg.of_only ho; clear C R; have R := R2; clear R2; have C := R.out.cells; replace hu := hu.trans hq; replace B2 := blk_upg B2 hq hne2; replace hoW := ow_upg hoW hq hgb; clear hq; clear ho)
             | ((with_reducible refine g_dst 171 ?_); go_must (refine ev_lit (v := fun g => .slice (some ⟨g, 0, none⟩) 1 1) 171 rfl (cs := [valB8 V]) (t := 5) (by go_simp; rfl) ?_); intro g6 wn hb B6 hg6; replace R := R.below hb; clear C; have C := R.out.cells; replace hu := hu.trans (Upg.of_below hb); replace B2 := B2.below hb; replace hoW := hoW.below hb; clear hb)
             | ((with_reducible refine g_dst 172 ?_); go_must (refine ev_append1 172 Tryz.underlying67 infoB rfl (by decide) rfl hoW (V) rfl B6 rfl (oneB _) (by rw [List.length_map]; have := Ha.out; omega) (by rw [List.length_map]; simp only [maxLen]; have := Ha.out; omega) B2.lt ?_); intro v7 wn ho7 hg7 hor7; have hb := hoW.grown (Below.refl (g2 + 1) _) hg7 (Nat.le_refl _) B2.lt; replace R : RR wn g T _ _ _ := ⟨blkB R.out hb hgb⟩; replace B2 := blkB B2 hb (Nat.lt_succ_self _); replace hu := hu.belowB hb hwb; replace hoW := ho7; clear C hb hg7 hor7 ho7 B6; have C := R.out.cells))
            go_roundw
            case rel => exact ⟨acc ++ [UInt8.ofNat V], e + 1, by rw [List.map_append, List.map_singleton, UInt8.toNat_ofNat', Nat.mod_eq_of_lt Hv.out]; exact hoW, by rw [List.length_append, List.length_singleton]; have := Ha.out; omega, by omega, R, hu, B2, Hs⟩
            case measure => rw [R.at_, hat.out]; omega
      have z593 : ((a3.toNat : Int) != 59) = true := by
       rw [show (a3 == UInt8.ofNat 59) = false by simpa using h593] at e593
       have e60 : ((a3.toNat : Int) == 59) = false := e593
       rw [bne, e60]; rfl
      have Hr : As (r = .error (j, 13)) := ⟨HER.out false (by rw [hcode, ha3]; simp only; rw [if_neg h593])⟩
      as_aux_lemma =>
       clear HOK HER; (try clear hm1); (try clear hp1); (try clear he); (try clear hV); (try clear hcode); (try clear h59); (try clear h593)
       go_wp2
       have HoW0 := As.mk hoW
       go_loopw [6, 7] (fun v q wr => ((v = .int .i64 0 ∧ q = .int .i64 0 ∧ RR wr g T k 0 0) ∨ (v = .int .i64 (d1 : Int) ∧ q = .int .i64 1 ∧ RR wr g T m 0 0) ∨ (v = .int .i64 (V : Int) ∧ q = .int .i64 2 ∧ RR wr g T p 0 0)) ∧ Upg g w wr ∧ Blk wr g2 [.int .i64 0, .int .i64 0, .bool false, .slice none 0 0, .string ⟨#[]⟩, .slice none 0 0, .slice none 0 0] 35 ∧ Ow encB 1 5 (g2 + 1) wr (.slice A acc.length cc) (acc.map UInt8.toNat)) (fun _ q _ => 4 - (intOf q).toNat)
       case atStart => exact ⟨.inl ⟨rfl, rfl, R⟩, hu, B2, hoW⟩
       case round =>
        clear R hu B2 C hoW HoW0
        obtain ⟨hq, hu, B2, hoW⟩ := hrel
        rcases hq with ⟨rfl, rfl, R⟩ | ⟨rfl, rfl, R⟩ | ⟨rfl, rfl, R⟩
        · have C := R.out.cells
          (try go_wp2)
          have hd := (Below.refl (World.heap wr).size wr).drew
          replace R := R.below hd
          replace hu := hu.trans (Upg.of_below hd)
          replace B2 := B2.below hd
          replace hoW := hoW.below hd
          clear C
          have C := R.out.cells
          have hS : ∀ W, RR W g T k 0 0 → W.cell? ⟨g, 0, none⟩ = some (.string T) ∧ W.cell? ⟨g, 1, none⟩ = some (.int .i64 (k : Int)) := fun W R => ⟨R.out.cells 0, R.out.cells 1⟩
          have hS0 := hS _ R
          go_region_held3 (fun W => W.cell? ⟨g, 0, none⟩ = some (.string T) ∧ W.cell? ⟨g, 1, none⟩ = some (.int .i64 (k : Int))) (first | assumption | exact hS _ R) (first
           | (go_at_call 16; (with_reducible refine (rend_b R false dk).mono ?_); rintro e wn ⟨vn, rfl, rfl, hb⟩; replace R := R.below hb; clear C; have C := R.out.cells; replace hu := hu.trans (Upg.of_below hb); replace B2 := B2.below hb; replace hoW := hoW.below hb; clear hb)
           | (go_at_call 49; (with_reducible refine (rhex_b _ (d1 : Int) hx1 _).mono ?_); rintro e wn ⟨vn, rfl, rfl, hb⟩; replace R := R.below hb; clear C; have C := R.out.cells; replace hu := hu.trans (Upg.of_below hb); replace B2 := B2.below hb; replace hoW := hoW.below hb; clear hb))
          clear hS hS0 hd
          go_wp2
          (try go_wp2)
          have hd := (Below.refl (World.heap wn).size wn).drew
          replace R := R.below hd
          replace hu := hu.trans (Upg.of_below hd)
          replace B2 := B2.below hd
          replace hoW := hoW.below hd
          clear C
          have C := R.out.cells
          have hS : ∀ W, RR W g T k 0 0 → W.cell? ⟨g, 0, none⟩ = some (.string T) ∧ W.cell? ⟨g, 1, none⟩ = some (.int .i64 (k : Int)) := fun W R => ⟨R.out.cells 0, R.out.cells 1⟩
          have hS0 := hS _ R
          go_region_held3 (fun W => W.cell? ⟨g, 0, none⟩ = some (.string T) ∧ W.cell? ⟨g, 1, none⟩ = some (.int .i64 (k : Int))) (first | assumption | exact hS _ R) (first
           | (go_at_call 49; (with_reducible refine (rhex_b _ (d1 : Int) hx1 _).mono ?_); rintro e wn ⟨vn, rfl, rfl, hb⟩; replace R := R.below hb; clear C; have C := R.out.cells; replace hu := hu.trans (Upg.of_below hb); replace B2 := B2.below hb; replace hoW := hoW.below hb; clear hb))
          clear hS hS0 hd
          go_wp2_with (first
           | ((with_reducible refine g_store 130 ?_); go_must (refine ev_store rfl rfl R.out (news := [.int .i64 ((m : Nat) : Int)]) (by first | rfl | (go_simp; first | rfl | go_num | (simp; omega))) infoI (by simp) (by simp [Value.oneCell']) ?_); intro wn ho Bn; simp only [zI, zA, zC, zD, zE, zF, zH, zB, zG, Nat.reduceAdd] at Bn; have R2 : RR wn g T (m) 0 0 := ⟨Bn⟩; clear Bn; have hq := Upg.of_only ho; clear C R; have R := R2; clear R2; have C := R.out.cells; replace hu := hu.trans hq; replace B2 := blk_upg B2 hq hne2; replace hoW := ow_upg hoW hq hgb; clear hq; clear ho))
          go_roundw
          case rel => exact ⟨.inr (.inl ⟨by first | rfl | go_num | (congr 1; go_num) | (simp; omega), by first | rfl | go_num, R⟩), hu, B2, hoW⟩
          case measure => simp [intOf]
        · have C := R.out.cells
          (try go_wp2)
          have hd := (Below.refl (World.heap wr).size wr).drew
          replace R := R.below hd
          replace hu := hu.trans (Upg.of_below hd)
          replace B2 := B2.below hd
          replace hoW := hoW.below hd
          clear C
          have C := R.out.cells
          have hS : ∀ W, RR W g T m 0 0 → W.cell? ⟨g, 0, none⟩ = some (.string T) ∧ W.cell? ⟨g, 1, none⟩ = some (.int .i64 (m : Int)) := fun W R => ⟨R.out.cells 0, R.out.cells 1⟩
          have hS0 := hS _ R
          go_region_held3 (fun W => W.cell? ⟨g, 0, none⟩ = some (.string T) ∧ W.cell? ⟨g, 1, none⟩ = some (.int .i64 (m : Int))) (first | assumption | exact hS _ R) (first
           | (go_at_call 16; (with_reducible refine (rend_b R false dm).mono ?_); rintro e wn ⟨vn, rfl, rfl, hb⟩; replace R := R.below hb; clear C; have C := R.out.cells; replace hu := hu.trans (Upg.of_below hb); replace B2 := B2.below hb; replace hoW := hoW.below hb; clear hb)
           | (go_at_call 49; (with_reducible refine (rhex_b _ (d2 : Int) hx2 _).mono ?_); rintro e wn ⟨vn, rfl, rfl, hb⟩; replace R := R.below hb; clear C; have C := R.out.cells; replace hu := hu.trans (Upg.of_below hb); replace B2 := B2.below hb; replace hoW := hoW.below hb; clear hb))
          clear hS hS0 hd
          go_wp2
          (try go_wp2)
          have hd := (Below.refl (World.heap wn).size wn).drew
          replace R := R.below hd
          replace hu := hu.trans (Upg.of_below hd)
          replace B2 := B2.below hd
          replace hoW := hoW.below hd
          clear C
          have C := R.out.cells
          have hS : ∀ W, RR W g T m 0 0 → W.cell? ⟨g, 0, none⟩ = some (.string T) ∧ W.cell? ⟨g, 1, none⟩ = some (.int .i64 (m : Int)) := fun W R => ⟨R.out.cells 0, R.out.cells 1⟩
          have hS0 := hS _ R
          go_region_held3 (fun W => W.cell? ⟨g, 0, none⟩ = some (.string T) ∧ W.cell? ⟨g, 1, none⟩ = some (.int .i64 (m : Int))) (first | assumption | exact hS _ R) (first
           | (go_at_call 49; (with_reducible refine (rhex_b _ (d2 : Int) hx2 _).mono ?_); rintro e wn ⟨vn, rfl, rfl, hb⟩; replace R := R.below hb; clear C; have C := R.out.cells; replace hu := hu.trans (Upg.of_below hb); replace B2 := B2.below hb; replace hoW := hoW.below hb; clear hb))
          clear hS hS0 hd
          go_wp2_with (first
           | ((with_reducible refine g_store 130 ?_); go_must (refine ev_store rfl rfl R.out (news := [.int .i64 ((p : Nat) : Int)]) (by first | rfl | (go_simp; first | rfl | go_num | (simp; omega))) infoI (by simp) (by simp [Value.oneCell']) ?_); intro wn ho Bn; simp only [zI, zA, zC, zD, zE, zF, zH, zB, zG, Nat.reduceAdd] at Bn; have R2 : RR wn g T (p) 0 0 := ⟨Bn⟩; clear Bn; have hq := Upg.of_only ho; clear C R; have R := R2; clear R2; have C := R.out.cells; replace hu := hu.trans hq; replace B2 := blk_upg B2 hq hne2; replace hoW := ow_upg hoW hq hgb; clear hq; clear ho))
          go_roundw
          case rel => exact ⟨.inr (.inr (⟨by first | rfl | go_num | (congr 1; go_num) | (simp; omega), by first | rfl | go_num, R⟩)), hu, B2, hoW⟩
          case measure => simp [intOf]
        · have C := R.out.cells
          (try go_wp2)
          have hd := (Below.refl (World.heap wr).size wr).drew
          replace R := R.below hd
          replace hu := hu.trans (Upg.of_below hd)
          replace B2 := B2.below hd
          replace hoW := hoW.below hd
          clear C
          have C := R.out.cells
          have hS : ∀ W, RR W g T p 0 0 → W.cell? ⟨g, 0, none⟩ = some (.string T) ∧ W.cell? ⟨g, 1, none⟩ = some (.int .i64 (p : Int)) := fun W R => ⟨R.out.cells 0, R.out.cells 1⟩
          have hS0 := hS _ R
          refine wp_gen2 (fun Q7 hQ7 => ?_)
          refine wp_region_held_drew (S := fun W => W.cell? ⟨g, 0, none⟩ = some (.string T) ∧ W.cell? ⟨g, 1, none⟩ = some (.int .i64 (p : Int))) (by kernel_rfl) (hS0) (fun hHeld => ?_)
          refine ta 0 (.pointer (some ⟨g, 0, none⟩)) ?_
          refine wpAnyH_ready (rs := [1]) (by decide +kernel) (by simp) ?_
          refine AllReadyH.cons (o := _) (by simp only [List.getElem?_toArray, List.getElem?_cons_succ, List.getElem?_cons_zero]; rfl) (fun K hK => ?_) AllReadyH.nil
          refine gI ?_
          (with_reducible refine s_dst 92 ?_); go_simp; (with_reducible refine (rend_b R false dp).mono ?_); rintro e wn ⟨vn, rfl, rfl, hb⟩; replace R := R.below hb; clear C; have C := R.out.cells; replace hu := hu.trans (Upg.of_below hb); replace B2 := B2.below hb; replace hoW := hoW.below hb; clear hb
          refine hK.out _ _ (hS _ R) (fun hHeld => ?_); clear hK K; (try simp only [Act.put, pA, pB, pC, pD, pE, pF])
          refine ta 2 (.bool true) ?_
          refine ta 3 (.bool true) ?_
          refine ta 4 (.int .i64 2) ?_
          refine ta 5 (.bool false) ?_
          refine ta 6 (.bool false) ?_
          refine ta 7 (.bool false) ?_
          refine tu 8 ?_
          refine tu 9 ?_
          refine tu 10 ?_
          refine tu 11 ?_
          refine tu 12 ?_
          refine tu 13 ?_
          refine tu 14 ?_
          refine tu 15 ?_
          refine tu 16 ?_
          refine tu 17 ?_
          refine tu 18 ?_
          refine ta 19 (.bool false) ?_
          refine wpAnyH_done (by kernel_rfl) ?_ _
          refine NoPanic.normal ?_
          obtain ⟨rfl⟩ := hQ7
          clear hS hS0 hd
          go_wp2_with (first
           | (go_at_call 16; (with_reducible refine (rend_b R false dp).mono ?_); rintro e wn ⟨vn, rfl, rfl, hb⟩; replace R := R.below hb; clear C; have C := R.out.cells; replace hu := hu.trans (Upg.of_below hb); replace B2 := B2.below hb; replace hoW := hoW.below hb; clear hb))
          (try go_wp2)
          have hd := (Below.refl (World.heap wn).size wn).drew
          replace R := R.below hd
          replace hu := hu.trans (Upg.of_below hd)
          replace B2 := B2.below hd
          replace hoW := hoW.below hd
          clear C
          have C := R.out.cells
          have hS : ∀ W, RR W g T p 0 0 → W.cell? ⟨g, 0, none⟩ = some (.string T) ∧ W.cell? ⟨g, 1, none⟩ = some (.int .i64 (p : Int)) := fun W R => ⟨R.out.cells 0, R.out.cells 1⟩
          have hS0 := hS _ R
          go_region_held3 (fun W => W.cell? ⟨g, 0, none⟩ = some (.string T) ∧ W.cell? ⟨g, 1, none⟩ = some (.int .i64 (p : Int))) (first | assumption | exact hS _ R) (first
           | fail)
          clear hS hS0 hd
          go_wp2_with (first
           | (go_at_call 31; (with_reducible refine (rfail_ok R 13 (j : Int)).mono ?_); rintro e wn ⟨rfl, ho, R2⟩; have hq := Upg.of_only ho; clear C R; have R := R2; clear R2; have C := R.out.cells; replace hu := hu.trans hq; replace B2 := blk_upg B2 hq hne2; replace hoW := ow_upg hoW hq hgb; clear hq)
           | ((with_reducible refine g_store 2 ?_); go_must (refine ev_store rfl rfl B2 (news := [.int .i64 0, .int .i64 0, .bool false, .slice none 0 0, .string ⟨#[]⟩, .slice none 0 0, .slice none 0 0]) (by first | rfl | (go_simp; try rfl)) infoD (by simp) (by simp [Value.oneCell']) ?_); intro wn ho Bn; simp only [encD, zA, zB, zC, zD, zE, zF, zG, zH] at Bn; replace hu := hu.only_new ho hs2; have R2 : RR wn g T _ _ _ := ⟨R.out.only ho (Ne.symm hne2)⟩; clear C R; have R := R2; clear R2; have C := R.out.cells; replace B2 := Bn; clear Bn ho))
          refine bodyPost_ret (results_cell_row rfl _ _ g2 35 ([.int .i64 0, .int .i64 0, .bool false, .slice none 0 0, .string ⟨#[]⟩, .slice none 0 0, .slice none 0 0] : List Value).toArray (0, 0) _ rfl B2.h Tryz.underlying35 rfl (by kernel_rfl)) rfl ?_
          exact ⟨_, rfl, hu, by rw [Hr.out]; exact ⟨_, R, by decide⟩, ldZ, rfl, good_z _ _ _ (by decide) (by decide) _, fun b hb => (by rw [ldZ, foot_z] at hb; cases hb), fun x e h => by rw [Hr.out] at h; cases h⟩
end Go.Proofs.YtdapbegadhcpcaaGreatDoor
