/- NumSmallBack. -/
import Derived.Test.YtigoofeodbbbhaaDoorNum15
namespace Go.Proofs.YtigoofeodbbbhaaDoor
open Go.RowKit Go.Proofs.YtigoofeodbbbhaaDoorL Go.Proofs.YtigoofeodbbbhaaDoorM
set_option linter.unusedVariables false
set_option linter.unusedSimpArgs false
theorem sb_in (v : Int) : (decide (-2305843009213693952 ≤ v) = false ∧ smB v = false ∧ smV v = 0) ∨ (decide (-2305843009213693952 ≤ v) = true ∧ decide (v < 2305843009213693952) = false ∧ smB v = false ∧ smV v = 0) ∨ (decide (-2305843009213693952 ≤ v) = true ∧ decide (v < 2305843009213693952) = true ∧ smB v = true ∧ smV v = v) := by
  by_cases h1 : -2305843009213693952 ≤ v
  · by_cases h2 : v < 2305843009213693952
    · have hb : smB v = true := by rw [smB, decide_eq_true_iff]; exact ⟨h1, h2⟩
      exact .inr (.inr ⟨decide_eq_true h1, decide_eq_true h2, hb, by rw [smV, hb]; rfl⟩)
    · have hb : smB v = false := by rw [smB, decide_eq_false_iff_not]; omega
      exact .inr (.inl ⟨decide_eq_true h1, decide_eq_false h2, hb, by rw [smV, hb]; rfl⟩)
  · have hb : smB v = false := by rw [smB, decide_eq_false_iff_not]; omega
    exact .inl ⟨decide_eq_false h1, hb, by rw [smV, hb]; rfl⟩
theorem sb_cmp (z : Int) : ∃ low high : Int, cmpZ z (-2305843009213693952) = low ∧ cmpZ z 2305843009213693952 = high ∧ ((smB z = false ∧ smV z = 0 ∧ decide (0 ≤ low) = false) ∨ (smB z = false ∧ smV z = 0 ∧ decide (0 ≤ low) = true ∧ decide (high < 0) = false) ∨ (smB z = true ∧ smV z = z ∧ decide (0 ≤ low) = true ∧ decide (high < 0) = true)) := by
  refine ⟨_, _, rfl, rfl, ?_⟩
  rcases sb_in z with ⟨h1, h2, h3⟩ | ⟨h1, h4, h2, h3⟩ | ⟨h1, h4, h2, h3⟩
  · refine .inl ⟨h2, h3, ?_⟩
    rw [decide_eq_false_iff_not] at h1 ⊢
    rw [cmpZ, if_pos (by omega)]; omega
  · refine .inr (.inl ⟨h2, h3, ?_, ?_⟩)
    · rw [decide_eq_true_iff] at h1 ⊢
      rw [cmpZ, if_neg (by omega)]; split <;> omega
    · rw [decide_eq_false_iff_not] at h4 ⊢
      rw [cmpZ, if_neg (by omega)]; split <;> omega
  · refine .inr (.inr ⟨h2, h3, ?_, ?_⟩)
    · rw [decide_eq_true_iff] at h1 ⊢
      rw [cmpZ, if_neg (by omega)]; split <;> omega
    · rw [decide_eq_true_iff] at h4 ⊢
      rw [cmpZ, if_pos (by omega)]; omega
theorem cmpZ_self (z : Int) : cmpZ z z = 0 := by rw [cmpZ, if_neg (by omega), if_pos (by omega)]
set_option maxRecDepth 16000 in
set_option maxHeartbeats 16000000 in
theorem numSmallBack_any (v : Int) (x : LN) (w : World) (htab : Tab w) (hv : -9223372036854775808 ≤ v ∧ v ≤ 9223372036854775807) (hx : LimN w x) (hxl : x.mag.length ≤ 1073741824) :
    Calls Tryd.prog 6 #[.int .i64 v, .agg (encN x).toArray] w (Gives w fun r _ => r = .bool true) := by
  obtain ⟨n1, A, c, l⟩ := x
  simp only [encN]
  replace hx : Lim w A c l := hx
  replace hxl : l.length ≤ 1073741824 := hxl
  have Hx := As.mk hx
  have HT := As.mk htab
  have Hv := As.mk hv
  have HS1 := As.mk (fun W A c (h : Lim W A c l) => numSmall_any l n1 A c W h)
  have HSv : As (∀ (W : World) (A : Option Addr) (c : Nat) (E : List Nat) (h : Lim W A c E) (e : E = digB 4294967296 v.natAbs), Calls Tryd.prog 25 #[.agg #[.bool (decide (v < 0)), .slice A E.length c]] W (Gives W fun r _ => r = .tuple #[.int .i64 (smV v), .bool (smB v)])) := ⟨fun W A c E h e => by
    have := numSmall_any E (decide (v < 0)) A c W h
    rw [show sval (decide (v < 0)) (valB 4294967296 E) = v by rw [e, digB_val _ (by omega), sval_of]] at this
    exact this⟩
  obtain ⟨z, hz⟩ : ∃ z, z = sval n1 (valB 4294967296 l) := ⟨_, rfl⟩
  have HCmp : As (∀ (k : Int) (W : World) (A A2 : Option Addr) (c c2 : Nat) (E : List Nat) (h : Lim W A c l) (h2 : Lim W A2 c2 E) (e : E = digB 4294967296 k.natAbs) (hl : E.length ≤ 274877906942), Calls Tryd.prog 33 #[.agg #[.bool n1, .slice A l.length c], .agg #[.bool (decide (k < 0)), .slice A2 E.length c2]] W (Gives W fun r _ => r = .int .i64 (cmpZ z k))) := ⟨fun k W A A2 c c2 E h h2 e hl => by
    have := numCmp_any l E n1 (decide (k < 0)) A A2 c c2 W h h2 (by omega) hl
    rw [show sval (decide (k < 0)) (valB 4294967296 E) = k by rw [e, digB_val _ (by omega), sval_of], ← hz] at this
    exact this⟩
  have HCmp2 : As (∀ (W : World) (A A2 : Option Addr) (c c2 : Nat) (E : List Nat) (h : Lim W A c l) (h2 : Lim W A2 c2 E) (e : E = digB 4294967296 z.natAbs) (hl : E.length ≤ 274877906942), Calls Tryd.prog 33 #[.agg #[.bool (decide (z < 0)), .slice A2 E.length c2], .agg #[.bool n1, .slice A l.length c]] W (Gives W fun r _ => r = .int .i64 0)) := ⟨fun W A A2 c c2 E h h2 e hl => by
    have := numCmp_any E l (decide (z < 0)) n1 A2 A c2 c W h2 h hl (by omega)
    rw [show sval (decide (z < 0)) (valB 4294967296 E) = z by rw [e, digB_val _ (by omega), sval_of], ← hz, cmpZ_self] at this
    exact this⟩
  rw [← hz] at HS1
  have HLo := As.mk (HCmp.out (-2305843009213693952))
  have HHi := As.mk (HCmp.out 2305843009213693952)
  obtain ⟨low, high, hlow, hhigh, hzc⟩ := sb_cmp z
  rw [hlow] at HLo
  rw [hhigh] at HHi
  have HZr : As (smB z = true → -9223372036854775808 ≤ z ∧ z ≤ 9223372036854775807) := ⟨fun h => by rw [smB, decide_eq_true_iff] at h; omega⟩
  have hvc := sb_in v
  obtain ⟨sv, hsv⟩ : ∃ sv, sv = smV v := ⟨_, rfl⟩
  obtain ⟨sb, hsb⟩ : ∃ sb, sb = smB v := ⟨_, rfl⟩
  obtain ⟨zv, hzv⟩ : ∃ zv, zv = smV z := ⟨_, rfl⟩
  obtain ⟨zb, hzb⟩ : ∃ zb, zb = smB z := ⟨_, rfl⟩
  rw [← hsv, ← hsb] at hvc HSv
  rw [← hzv, ← hzb] at hzc HS1
  rw [← hzb] at HZr
  have hlen : ∀ (k : Int) (E : List Nat), E = digB 4294967296 k.natAbs → (-9223372036854775808 ≤ k ∧ k ≤ 9223372036854775807) → E.length ≤ 274877906942 := fun k E e hk => by rw [e]; exact Nat.le_trans (int_len (by omega)) (by omega)
  have HLen := As.mk hlen
  have HLim := As.mk (fun (W : World) (A : Option Addr) (c : Nat) (E : List Nat) (base : Nat) (k : Int) (o : Ow encU 1 62 base W (.slice A E.length c) E) (e : E = digB 4294967296 k.natAbs) (hc : E.length ≤ c) (hk : -9223372036854775808 ≤ k ∧ k ≤ 9223372036854775807) => lim_int o e hc (by omega))
  clear hx htab hv hz hlow hhigh hsv hsb hzv hzb hlen HCmp
  rcases hvc with ⟨v1, rfl, rfl⟩ | ⟨v1, v2, rfl, rfl⟩ | ⟨v1, v2, rfl, rfl⟩ <;> rcases hzc with ⟨rfl, rfl, z1⟩ | ⟨rfl, rfl, z1, z2⟩ | ⟨rfl, rfl, z1, z2⟩
  all_goals
    go_enter Tryd.func6, Tryd.ntmps6
    go_wp2_with (first
      | ((with_reducible refine g_dst 3 ?_); go_must (refine ev_box 3 rfl (cs := [.bool n1, .slice A l.length c]) (by rfl) ?_); intro g3 w3 hb3 B3 hg3; have hcur := hb3)
      | (go_at_call 27; (with_reducible refine (numInt_any _ _ Hv.out.1 Hv.out.2).mono ?_); rintro e wn ⟨vn, rfl, ht, hbn⟩; obtain ⟨An, cn, En, rfl, on, HEn, hn1⟩ := told_sl ht; have hln := HLim.out _ An cn En _ _ on HEn.out hn1 Hv.out; replace B3 := B3.below hbn; replace hcur := bthen hcur hbn; clear ht)
      | (go_at_call 25; (with_reducible refine (HSv.out _ An cn En hln HEn.out).mono ?_); rintro e wn ⟨vn, rfl, rfl, hbn⟩; replace B3 := B3.below hbn; have C3 := B3.cells; replace hcur := bthen hcur hbn)
      | (go_at_call 21; (with_reducible refine (c_any l n1 A c _ (Hx.out.below hcur)).mono ?_); rintro e wn ⟨vn, rfl, ⟨Aa, ca, rfl, hla, _, _⟩, hbn⟩; replace B3 := B3.below hbn; clear C3; have C3 := B3.cells; replace hcur := bthen hcur hbn)
      | (go_at_call 25; (with_reducible refine (HS1.out _ Aa ca hla).mono ?_); rintro e wn ⟨vn, rfl, rfl, hbn⟩; replace B3 := B3.below hbn; clear C3; have C3 := B3.cells; replace hcur := bthen hcur hbn)
      | (go_at_call 27; (with_reducible refine (numInt_any (-2305843009213693952) _ (by omega) (by omega)).mono ?_); rintro e wn ⟨vn, rfl, ht, hbn⟩; obtain ⟨Ak, ck, Ek, rfl, ok, HEk, hk1⟩ := told_sl ht; have hlk := HLim.out _ Ak ck Ek _ _ ok HEk.out hk1 (by omega); replace hla := hla.below hbn; replace B3 := B3.below hbn; clear C3; have C3 := B3.cells; replace hcur := bthen hcur hbn; clear ht)
      | (go_at_call 27; (with_reducible refine (numInt_any 2305843009213693952 _ (by omega) (by omega)).mono ?_); rintro e wn ⟨vn, rfl, ht, hbn⟩; obtain ⟨Aj, cj, Ej, rfl, oj, HEj, hj1⟩ := told_sl ht; have hlj := HLim.out _ Aj cj Ej _ _ oj HEj.out hj1 (by omega); replace hla := hla.below hbn; replace B3 := B3.below hbn; clear C3; have C3 := B3.cells; replace hcur := bthen hcur hbn; clear ht)
      | (go_at_call 33; (refine (HLo.out _ Aa Ak ca ck Ek hla hlk HEk.out (HLen.out _ Ek HEk.out (by omega))).mono ?_); rintro e wn ⟨vn, rfl, rfl, hbn⟩; replace B3 := B3.below hbn; clear C3 hlk; have C3 := B3.cells; replace hcur := bthen hcur hbn)
      | (go_at_call 33; (refine (HHi.out _ Aa Aj ca cj Ej hla hlj HEj.out (HLen.out _ Ej HEj.out (by omega))).mono ?_); rintro e wn ⟨vn, rfl, rfl, hbn⟩; replace B3 := B3.below hbn; clear C3 hlj; have C3 := B3.cells; replace hcur := bthen hcur hbn))
    have hb8 := hcur
    clear hcur
    have hS : ∀ W, Below wn.heap.size wn W → W.cell? ⟨g3, 0, none⟩ = some (.bool n1) ∧ W.cell? ⟨g3, 1, none⟩ = some (.slice A l.length c) := fun W hb => ⟨(B3.below hb).cells 0, (B3.below hb).cells 1⟩
    have hcur := (Below.refl wn.heap.size wn).drew
    have hS0 := hS _ hcur
    have HS := As.mk hS
    clear hS C3
    have hb9 := As.mk hb8
    clear hb8
    refine wp_region_noPanic ?_
    refine wp_region_held_drew (S := fun W => W.cell? ⟨g3, 0, none⟩ = some (.bool n1) ∧ W.cell? ⟨g3, 1, none⟩ = some (.slice A l.length c)) (by kernel_rfl) (by first | assumption | exact HS.out _ hcur) (fun hHeld => ?_)
    first
      | (have hgood := HZr.out trivial
         refine wpAnyH_take (i := 0) (oi := _) (v := .bool true) rfl (by kernel_rfl) (by kernel_rfl) (by kernel_rfl) (fun _ _ _ h => h) (Or.inl ⟨by kernel_rfl, fun W hSw => by ((try dsimp only at hSw); go_simp; try (with_reducible rfl))⟩) (by assumption) ?_; (try simp only [Act.put, List.setIfInBounds_toArray, List.set_cons_zero, List.set_cons_succ])
         refine wpAnyH_take (i := 1) (oi := _) (v := .bool false) rfl (by kernel_rfl) (by kernel_rfl) (by kernel_rfl) (fun _ _ _ h => h) (Or.inl ⟨by kernel_rfl, fun W hSw => by ((try dsimp only at hSw); go_simp; try (with_reducible rfl))⟩) (by assumption) ?_; (try simp only [Act.put, List.setIfInBounds_toArray, List.set_cons_zero, List.set_cons_succ])
         refine wpAnyH_take (i := 2) (oi := _) (v := .bool false) rfl (by kernel_rfl) (by kernel_rfl) (by kernel_rfl) (fun _ _ _ h => h) (Or.inl ⟨by kernel_rfl, fun W hSw => by ((try dsimp only at hSw); go_simp; try (with_reducible rfl))⟩) (by assumption) ?_; (try simp only [Act.put, List.setIfInBounds_toArray, List.set_cons_zero, List.set_cons_succ])
         refine wpAnyH_take (i := 3) (oi := _) (v := undef) rfl (by kernel_rfl) (by kernel_rfl) (by kernel_rfl) (fun _ _ _ h => h) (Or.inr ⟨by kernel_rfl, rfl⟩) (by assumption) ?_; (try simp only [Act.put, List.setIfInBounds_toArray, List.set_cons_zero, List.set_cons_succ])
         refine wpAnyH_take (i := 4) (oi := _) (v := undef) rfl (by kernel_rfl) (by kernel_rfl) (by kernel_rfl) (fun _ _ _ h => h) (Or.inr ⟨by kernel_rfl, rfl⟩) (by assumption) ?_; (try simp only [Act.put, List.setIfInBounds_toArray, List.set_cons_zero, List.set_cons_succ])
         refine wpAnyH_take (i := 5) (oi := _) (v := .bool false) rfl (by kernel_rfl) (by kernel_rfl) (by kernel_rfl) (fun _ _ _ h => h) (Or.inl ⟨by kernel_rfl, fun W hSw => by ((try dsimp only at hSw); go_simp; try (with_reducible rfl))⟩) (by assumption) ?_; (try simp only [Act.put, List.setIfInBounds_toArray, List.set_cons_zero, List.set_cons_succ])
         refine wpAnyH_take (i := 6) (oi := _) (v := .bool false) rfl (by kernel_rfl) (by kernel_rfl) (by kernel_rfl) (fun _ _ _ h => h) (Or.inl ⟨by kernel_rfl, fun W hSw => by ((try dsimp only at hSw); go_simp; try (with_reducible rfl))⟩) (by assumption) ?_; (try simp only [Act.put, List.setIfInBounds_toArray, List.set_cons_zero, List.set_cons_succ])
         refine wpAnyH_take (i := 7) (oi := _) (v := .bool true) rfl (by kernel_rfl) (by kernel_rfl) (by kernel_rfl) (fun _ _ _ h => h) (Or.inl ⟨by kernel_rfl, fun W hSw => by ((try dsimp only at hSw); go_simp; try (with_reducible rfl))⟩) (by assumption) ?_; (try simp only [Act.put, List.setIfInBounds_toArray, List.set_cons_zero, List.set_cons_succ])
         refine wpAnyH_take (i := 8) (oi := _) (v := .bool true) rfl (by kernel_rfl) (by kernel_rfl) (by kernel_rfl) (fun _ _ _ h => h) (Or.inl ⟨by kernel_rfl, fun W hSw => by ((try dsimp only at hSw); go_simp; try (with_reducible rfl))⟩) (by assumption) ?_; (try simp only [Act.put, List.setIfInBounds_toArray, List.set_cons_zero, List.set_cons_succ])
         refine wpAnyH_take (i := 9) (oi := _) (v := .int .i64 zv) rfl (by kernel_rfl) (by kernel_rfl) (by kernel_rfl) (fun _ _ _ h => h) (Or.inl ⟨by kernel_rfl, fun W hSw => by ((try dsimp only at hSw); go_simp; try (with_reducible rfl))⟩) (by assumption) ?_; (try simp only [Act.put, List.setIfInBounds_toArray, List.set_cons_zero, List.set_cons_succ])
         refine wpAnyH_take (i := 11) (oi := _) (v := .agg #[.bool n1, .slice A l.length c]) rfl (by kernel_rfl) (by kernel_rfl) (by kernel_rfl) (fun _ _ _ h => h) (Or.inl ⟨by kernel_rfl, fun W hSw => by ((try dsimp only at hSw); go_simp; try (with_reducible rfl))⟩) (by assumption) ?_; (try simp only [Act.put, List.setIfInBounds_toArray, List.set_cons_zero, List.set_cons_succ])
         refine wpAnyH_ready (rs := [10]) (by kernel_rfl) (by simp) ?_; refine AllReadyH.cons (o := _) rfl (fun K hK => ?_) AllReadyH.nil; go_simp; (with_reducible refine (numInt_any zv _ (HZr.out trivial).1 (HZr.out trivial).2).mono ?_); rintro e wm ⟨vn, rfl, ht, hbn⟩; obtain ⟨Az, cz, Ez, rfl, oz, HEz, hz1⟩ := told_sl ht; have hlz := HLim.out _ Az cz Ez _ _ oz HEz.out hz1 (HZr.out trivial); have Hlzl := As.mk (HLen.out _ Ez HEz.out (HZr.out trivial)); replace hcur := bthen hcur hbn; clear ht; go_wp2_with fail; refine hK.out _ _ (by first | assumption | exact HS.out _ hcur) (fun hHeld => ?_); clear hK K; (try simp only [Act.put, List.setIfInBounds_toArray, List.set_cons_zero, List.set_cons_succ])
         refine wpAnyH_ready (rs := [12]) (by kernel_rfl) (by simp) ?_; refine AllReadyH.cons (o := _) rfl (fun K hK => ?_) AllReadyH.nil; go_simp; (with_reducible refine (c_any l n1 A c _ (Hx.out.below (bthen hb9.out hcur))).mono ?_); rintro e wm ⟨vn, rfl, ⟨Ac, cc, rfl, hlc, _, _⟩, hbn⟩; replace hlz := hlz.below hbn; replace hcur := bthen hcur hbn; go_wp2_with fail; refine hK.out _ _ (by first | assumption | exact HS.out _ hcur) (fun hHeld => ?_); clear hK K; (try simp only [Act.put, List.setIfInBounds_toArray, List.set_cons_zero, List.set_cons_succ])
         refine wpAnyH_ready (rs := [13]) (by kernel_rfl) (by simp) ?_; refine AllReadyH.cons (o := _) rfl (fun K hK => ?_) AllReadyH.nil; go_simp; (with_reducible refine (HCmp2.out _ Ac Az cc cz Ez hlc hlz HEz.out Hlzl.out).mono ?_); rintro e wm ⟨vn, rfl, rfl, hbn⟩; replace hcur := bthen hcur hbn; go_wp2_with fail; refine hK.out _ _ (by first | assumption | exact HS.out _ hcur) (fun hHeld => ?_); clear hK K; (try simp only [Act.put, List.setIfInBounds_toArray, List.set_cons_zero, List.set_cons_succ])
         refine wpAnyH_take (i := 14) (oi := _) (v := .bool true) rfl (by kernel_rfl) (by kernel_rfl) (by kernel_rfl) (fun _ _ _ h => h) (Or.inl ⟨by kernel_rfl, fun W hSw => by ((try dsimp only at hSw); go_simp; try (with_reducible rfl))⟩) (by assumption) ?_; (try simp only [Act.put, List.setIfInBounds_toArray, List.set_cons_zero, List.set_cons_succ])
         refine wpAnyH_take (i := 15) (oi := _) (v := .bool true) rfl (by kernel_rfl) (by kernel_rfl) (by kernel_rfl) (fun _ _ _ h => h) (Or.inl ⟨by kernel_rfl, fun W hSw => by ((try dsimp only at hSw); go_simp; try (with_reducible rfl))⟩) (by assumption) ?_; (try simp only [Act.put, List.setIfInBounds_toArray, List.set_cons_zero, List.set_cons_succ])
         refine wpAnyH_take (i := 16) (oi := _) (v := .bool true) rfl (by kernel_rfl) (by kernel_rfl) (by kernel_rfl) (fun _ _ _ h => h) (Or.inl ⟨by kernel_rfl, fun W hSw => by ((try dsimp only at hSw); go_simp; try (with_reducible rfl))⟩) (by assumption) ?_; (try simp only [Act.put, List.setIfInBounds_toArray, List.set_cons_zero, List.set_cons_succ])
         refine wpAnyH_take (i := 17) (oi := _) (v := .bool true) rfl (by kernel_rfl) (by kernel_rfl) (by kernel_rfl) (fun _ _ _ h => h) (Or.inl ⟨by kernel_rfl, fun W hSw => by ((try dsimp only at hSw); go_simp; try (with_reducible rfl))⟩) (by assumption) ?_; (try simp only [Act.put, List.setIfInBounds_toArray, List.set_cons_zero, List.set_cons_succ])
         refine wpAnyH_ready (rs := [18]) (by kernel_rfl) (by simp) ?_; refine AllReadyH.cons (o := _) rfl (fun K hK => ?_) AllReadyH.nil; go_simp; (with_reducible refine (awake02_any _ (HT.out.below (bthen hb9.out hcur))).mono ?_); rintro e wm ⟨vn, rfl, rfl, hbn⟩; replace hcur := bthen hcur hbn; go_wp2_with fail; refine hK.out _ _ (by first | assumption | exact HS.out _ hcur) (fun hHeld => ?_); clear hK K; (try simp only [Act.put, List.setIfInBounds_toArray, List.set_cons_zero, List.set_cons_succ])
         refine wpAnyH_take (i := 19) (oi := _) (v := .bool true) rfl (by kernel_rfl) (by kernel_rfl) (by kernel_rfl) (fun _ _ _ h => h) (Or.inl ⟨by kernel_rfl, fun W hSw => by ((try dsimp only at hSw); go_simp; try (with_reducible rfl))⟩) (by assumption) ?_; (try simp only [Act.put, List.setIfInBounds_toArray, List.set_cons_zero, List.set_cons_succ])
         refine wpAnyH_ready (rs := [20]) (by kernel_rfl) (by simp) ?_; refine AllReadyH.cons (o := _) rfl (fun K hK => ?_) AllReadyH.nil; go_simp; refine hK.out _ _ (by first | assumption | exact HS.out _ hcur) (fun hHeld => ?_); clear hK K; (try simp only [Act.put, List.setIfInBounds_toArray, List.set_cons_zero, List.set_cons_succ])
         refine wpAnyH_done (by kernel_rfl) ?_ _)
      | (refine wpAnyH_take (i := 0) (oi := _) (v := .bool false) rfl (by kernel_rfl) (by kernel_rfl) (by kernel_rfl) (fun _ _ _ h => h) (Or.inl ⟨by kernel_rfl, fun W hSw => by ((try dsimp only at hSw); go_simp; try (with_reducible rfl))⟩) (by assumption) ?_; (try simp only [Act.put, List.setIfInBounds_toArray, List.set_cons_zero, List.set_cons_succ])
         refine wpAnyH_take (i := 1) (oi := _) (v := .bool true) rfl (by kernel_rfl) (by kernel_rfl) (by kernel_rfl) (fun _ _ _ h => h) (Or.inl ⟨by kernel_rfl, fun W hSw => by ((try dsimp only at hSw); go_simp; try (with_reducible rfl))⟩) (by assumption) ?_; (try simp only [Act.put, List.setIfInBounds_toArray, List.set_cons_zero, List.set_cons_succ])
         refine wpAnyH_take (i := 2) (oi := _) (v := .bool true) rfl (by kernel_rfl) (by kernel_rfl) (by kernel_rfl) (fun _ _ _ h => h) (Or.inl ⟨by kernel_rfl, fun W hSw => by ((try dsimp only at hSw); go_simp; try (with_reducible rfl))⟩) (by assumption) ?_; (try simp only [Act.put, List.setIfInBounds_toArray, List.set_cons_zero, List.set_cons_succ])
         refine wpAnyH_take (i := 3) (oi := _) (v := .int .i64 0) rfl (by kernel_rfl) (by kernel_rfl) (by kernel_rfl) (fun _ _ _ h => h) (Or.inl ⟨by kernel_rfl, fun W hSw => by ((try dsimp only at hSw); go_simp; try (with_reducible rfl))⟩) (by assumption) ?_; (try simp only [Act.put, List.setIfInBounds_toArray, List.set_cons_zero, List.set_cons_succ])
         refine wpAnyH_take (i := 4) (oi := _) (v := .bool true) rfl (by kernel_rfl) (by kernel_rfl) (by kernel_rfl) (fun _ _ _ h => h) (Or.inl ⟨by kernel_rfl, fun W hSw => by ((try dsimp only at hSw); go_simp; try (with_reducible rfl))⟩) (by assumption) ?_; (try simp only [Act.put, List.setIfInBounds_toArray, List.set_cons_zero, List.set_cons_succ])
         refine wpAnyH_take (i := 5) (oi := _) (v := .bool true) rfl (by kernel_rfl) (by kernel_rfl) (by kernel_rfl) (fun _ _ _ h => h) (Or.inl ⟨by kernel_rfl, fun W hSw => by ((try dsimp only at hSw); go_simp; try (with_reducible rfl))⟩) (by assumption) ?_; (try simp only [Act.put, List.setIfInBounds_toArray, List.set_cons_zero, List.set_cons_succ])
         refine wpAnyH_take (i := 6) (oi := _) (v := .bool true) rfl (by kernel_rfl) (by kernel_rfl) (by kernel_rfl) (fun _ _ _ h => h) (Or.inl ⟨by kernel_rfl, fun W hSw => by ((try dsimp only at hSw); go_simp; try (with_reducible rfl))⟩) (by assumption) ?_; (try simp only [Act.put, List.setIfInBounds_toArray, List.set_cons_zero, List.set_cons_succ])
         refine wpAnyH_take (i := 7) (oi := _) (v := undef) rfl (by kernel_rfl) (by kernel_rfl) (by kernel_rfl) (fun _ _ _ h => h) (Or.inr ⟨by kernel_rfl, rfl⟩) (by assumption) ?_; (try simp only [Act.put, List.setIfInBounds_toArray, List.set_cons_zero, List.set_cons_succ])
         refine wpAnyH_take (i := 8) (oi := _) (v := undef) rfl (by kernel_rfl) (by kernel_rfl) (by kernel_rfl) (fun _ _ _ h => h) (Or.inr ⟨by kernel_rfl, rfl⟩) (by assumption) ?_; (try simp only [Act.put, List.setIfInBounds_toArray, List.set_cons_zero, List.set_cons_succ])
         refine wpAnyH_take (i := 9) (oi := _) (v := undef) rfl (by kernel_rfl) (by kernel_rfl) (by kernel_rfl) (fun _ _ _ h => h) (Or.inr ⟨by kernel_rfl, rfl⟩) (by assumption) ?_; (try simp only [Act.put, List.setIfInBounds_toArray, List.set_cons_zero, List.set_cons_succ])
         refine wpAnyH_take (i := 11) (oi := _) (v := undef) rfl (by kernel_rfl) (by kernel_rfl) (by kernel_rfl) (fun _ _ _ h => h) (Or.inr ⟨by kernel_rfl, rfl⟩) (by assumption) ?_; (try simp only [Act.put, List.setIfInBounds_toArray, List.set_cons_zero, List.set_cons_succ])
         refine wpAnyH_take (i := 10) (oi := _) (v := undef) rfl (by kernel_rfl) (by kernel_rfl) (by kernel_rfl) (fun _ _ _ h => h) (Or.inr ⟨by kernel_rfl, rfl⟩) (by assumption) ?_; (try simp only [Act.put, List.setIfInBounds_toArray, List.set_cons_zero, List.set_cons_succ])
         refine wpAnyH_take (i := 12) (oi := _) (v := undef) rfl (by kernel_rfl) (by kernel_rfl) (by kernel_rfl) (fun _ _ _ h => h) (Or.inr ⟨by kernel_rfl, rfl⟩) (by assumption) ?_; (try simp only [Act.put, List.setIfInBounds_toArray, List.set_cons_zero, List.set_cons_succ])
         refine wpAnyH_take (i := 13) (oi := _) (v := undef) rfl (by kernel_rfl) (by kernel_rfl) (by kernel_rfl) (fun _ _ _ h => h) (Or.inr ⟨by kernel_rfl, rfl⟩) (by assumption) ?_; (try simp only [Act.put, List.setIfInBounds_toArray, List.set_cons_zero, List.set_cons_succ])
         refine wpAnyH_take (i := 14) (oi := _) (v := undef) rfl (by kernel_rfl) (by kernel_rfl) (by kernel_rfl) (fun _ _ _ h => h) (Or.inr ⟨by kernel_rfl, rfl⟩) (by assumption) ?_; (try simp only [Act.put, List.setIfInBounds_toArray, List.set_cons_zero, List.set_cons_succ])
         refine wpAnyH_take (i := 15) (oi := _) (v := undef) rfl (by kernel_rfl) (by kernel_rfl) (by kernel_rfl) (fun _ _ _ h => h) (Or.inr ⟨by kernel_rfl, rfl⟩) (by assumption) ?_; (try simp only [Act.put, List.setIfInBounds_toArray, List.set_cons_zero, List.set_cons_succ])
         refine wpAnyH_take (i := 16) (oi := _) (v := .bool true) rfl (by kernel_rfl) (by kernel_rfl) (by kernel_rfl) (fun _ _ _ h => h) (Or.inl ⟨by kernel_rfl, fun W hSw => by ((try dsimp only at hSw); go_simp; try (with_reducible rfl))⟩) (by assumption) ?_; (try simp only [Act.put, List.setIfInBounds_toArray, List.set_cons_zero, List.set_cons_succ])
         refine wpAnyH_take (i := 17) (oi := _) (v := .bool true) rfl (by kernel_rfl) (by kernel_rfl) (by kernel_rfl) (fun _ _ _ h => h) (Or.inl ⟨by kernel_rfl, fun W hSw => by ((try dsimp only at hSw); go_simp; try (with_reducible rfl))⟩) (by assumption) ?_; (try simp only [Act.put, List.setIfInBounds_toArray, List.set_cons_zero, List.set_cons_succ])
         refine wpAnyH_ready (rs := [18]) (by kernel_rfl) (by simp) ?_; refine AllReadyH.cons (o := _) rfl (fun K hK => ?_) AllReadyH.nil; go_simp; (with_reducible refine (awake02_any _ (HT.out.below (bthen hb9.out hcur))).mono ?_); rintro e wm ⟨vn, rfl, rfl, hbn⟩; replace hcur := bthen hcur hbn; go_wp2_with fail; refine hK.out _ _ (by first | assumption | exact HS.out _ hcur) (fun hHeld => ?_); clear hK K; (try simp only [Act.put, List.setIfInBounds_toArray, List.set_cons_zero, List.set_cons_succ])
         refine wpAnyH_take (i := 19) (oi := _) (v := .bool true) rfl (by kernel_rfl) (by kernel_rfl) (by kernel_rfl) (fun _ _ _ h => h) (Or.inl ⟨by kernel_rfl, fun W hSw => by ((try dsimp only at hSw); go_simp; try (with_reducible rfl))⟩) (by assumption) ?_; (try simp only [Act.put, List.setIfInBounds_toArray, List.set_cons_zero, List.set_cons_succ])
         refine wpAnyH_ready (rs := [20]) (by kernel_rfl) (by simp) ?_; refine AllReadyH.cons (o := _) rfl (fun K hK => ?_) AllReadyH.nil; go_simp; refine hK.out _ _ (by first | assumption | exact HS.out _ hcur) (fun hHeld => ?_); clear hK K; (try simp only [Act.put, List.setIfInBounds_toArray, List.set_cons_zero, List.set_cons_succ])
         refine wpAnyH_done (by kernel_rfl) ?_ _)
      | fail
    refine NoPanic.normal ?_
    go_wp2
    go_ret
    exact ⟨_, rfl, rfl, bthen hb9.out hcur⟩
end Go.Proofs.YtigoofeodbbbhaaDoor
