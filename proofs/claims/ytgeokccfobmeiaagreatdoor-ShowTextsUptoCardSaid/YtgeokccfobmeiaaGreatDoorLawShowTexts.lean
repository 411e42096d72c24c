import Derived.Test.YtgeokccfobmeiaaGreatDoorLawShowBack
import Derived.Test.YtgeokccfobmeiaaGreatDoorMJ
import Derived.Test.YtgeokccfobmeiaaGreatDoorMN
/- tandemlaw06.ShowTexts. -/
namespace Go.Proofs.YtgeokccfobmeiaaGreatDoor
open Go.RowKit Go.Proofs.YtgeokccfobmeiaaGreatDoorL Go.Proofs.YtgeokccfobmeiaaGreatDoorM
set_option linter.unusedVariables false
set_option linter.unusedSimpArgs false
theorem conv_c {w : World} {g : Nat} {c : UInt8} (B : Blk w g [valB8 c.toNat] 5) : (convert 29 9 (.slice (some ⟨g, 0, none⟩) 1 1)).run Tryz.prog w = .ok (.string ⟨#[c]⟩) w := by
  rw [conv_one c.toNat_lt B]; simp
theorem show_c (c : UInt8) : showL false (.mk 3 (c.toNat : Int) false none 0 [] [] none 0 [] none 0 []) = [c] := by
  rw [showL, if_neg (by decide), if_neg (by decide), if_pos rfl, if_neg (by decide)]
  have h := c.toNat_lt
  have h2 : (((c.toNat : Int) % 256).toNat) = c.toNat := by omega
  rw [h2]; simp
set_option maxRecDepth 16000 in
set_option maxHeartbeats 16000000 in
theorem showTexts_any (s : List UInt8) (c : UInt8) (w : World) (htab : Tab w) (hs : s.length ≤ 1048576) : Calls Tryz.prog 3 #[.string ⟨s.toArray⟩, .int .u8 (c.toNat : Int)] w (Gives w fun v _ => v = .bool true) := by
  have hc := c.toNat_lt
  have HTab := As.mk htab
  have wd : wtD (.mk 4 0 false none 0 [] s none 0 [] none 0 []) ≤ 1073741824 := by simp only [wtD, wtAll, List.length_nil]; omega
  have wx : wtD (.mk 3 (c.toNat : Int) false none 0 [] [] none 0 [] none 0 []) ≤ 1073741824 := by simp [wtD, wtAll]
  have gd : ∀ W : World, Good W (.mk 4 0 false none 0 [] s none 0 [] none 0 []) := fun W => good_z _ _ _ (by omega) (by omega) _
  have gx : ∀ W : World, Good W (.mk 3 (c.toNat : Int) false none 0 [] [] none 0 [] none 0 []) := fun W => good_z _ _ _ (by omega) (by omega) _
  have s1 : showL false (.mk 4 0 false none 0 [] s none 0 [] none 0 []) = s := by rw [showL]; simp
  have HDd := As.mk (fun (W : World) (h : Tab W) => display_any (.mk 4 0 false none 0 [] s none 0 [] none 0 []) W h (gd W) wd)
  have HDx := As.mk (fun (W : World) (h : Tab W) => display_any (.mk 3 (c.toNat : Int) false none 0 [] [] none 0 [] none 0 []) W h (gx W) wx)
  have HWd := As.mk (fun (W : World) (h : Tab W) => write_any (.mk 4 0 false none 0 [] s none 0 [] none 0 []) W h (gd W) wd)
  have HWx := As.mk (fun (W : World) (h : Tab W) => write_any (.mk 3 (c.toNat : Int) false none 0 [] [] none 0 [] none 0 []) W h (gx W) wx)
  have rd := one_reads (Rdb.str (n := 100) s)
  have rx := one_reads (Rdb.char (n := 100) c.toNat hc)
  rw [s1] at HDd
  rw [show_c] at HDx
  rw [showL_er (Rdb.str (n := 100) s) (.mk 4 0 false none 0 [] s none 0 [] none 0 []) (by simp [erD, erAll, dStr])] at HWd
  rw [showL_er (Rdb.char (n := 100) c.toNat hc) (.mk 3 (c.toNat : Int) false none 0 [] [] none 0 [] none 0 []) (by simp [erD, erAll, dChar])] at HWx
  have hZl : (wV (dChar c.toNat)).length ≤ 9 := by rw [← showL_er (Rdb.char (n := 100) c.toNat hc) (.mk 3 (c.toNat : Int) false none 0 [] [] none 0 [] none 0 []) (by simp [erD, erAll, dChar]), showL, if_neg (by decide), if_neg (by decide), if_pos rfl, if_pos rfl]; exact charL_len _
  have HDW : As (wtV (dStr s) ≤ 1099511627776) := ⟨by rw [dStr, wtV]; simp [wtVs]⟩
  have HXW : As (wtV (dChar c.toNat) ≤ 1099511627776) := ⟨by rw [dChar, wtV]; simp [wtVs]⟩
  obtain ⟨Y, hY⟩ : ∃ Y, Y = wV (dStr s) := ⟨_, rfl⟩
  obtain ⟨Z, hZ⟩ : ∃ Z, Z = wV (dChar c.toNat) := ⟨_, rfl⟩
  rw [← hY] at HWd rd
  rw [← hZ] at HWx rx hZl
  have HRd := As.mk rd
  have HRx := As.mk rx
  have hzx : (⟨Z.toArray⟩ : ByteArray).size ≤ 65536 := by simp [ByteArray.size]; omega
  have HOx := As.mk (fun w => one0_any (w := w) hzx (.ok (dChar c.toNat, Z.length)) (by simpa using HRx.out))
  clear hzx rd rx hY hZ hZl wd wx gd gx s1 htab hs
  simp only [encD, List.length_nil] at HDd HDx HWd HWx
  have hb1 := Below.refl w.heap.size w
  by_cases hY65 : Y.length ≤ 65536
  · have hY65i : (Y.length : Int) ≤ 65536 := by omega
    have hz65 : (⟨Y.toArray⟩ : ByteArray).size ≤ 65536 := by simpa [ByteArray.size] using hY65
    have HOd := As.mk (fun w => one0_any (w := w) hz65 (.ok (dStr s, Y.length)) (by simpa using HRd.out))
    clear hz65
    go_enter Tryz.func3, Tryz.ntmps3
    go_wp2_with (first
      | ((with_reducible refine g_dst 5 ?_); go_must (refine ev_alloc 5 rfl infoD (cs := [.int .i64 0, .int .i64 0, .bool false, .slice none 0 0, .string ⟨#[]⟩, .slice none 0 0, .slice none 0 0]) rfl ?_); intro g5 wn hb B5 hg5; have hs5 := Nat.le_trans hb1.size hg5; replace hb1 := bthen hb1 hb; clear hb hg5)
      | ((with_reducible refine g_store 5 ?_); go_must (refine ev_store rfl rfl B5 (news := [.int .i64 4, .int .i64 0, .bool false, .slice none 0 0, .string ⟨s.toArray⟩, .slice none 0 0, .slice none 0 0]) (by first | rfl | (go_simp; try rfl)) infoD (by simp) (by simp [Value.oneCell']) ?_); intro wn ho Bn; simp only [encD, List.take_zero, List.nil_append, List.length_cons, List.length_nil, List.drop_succ_cons, List.drop_zero, List.append_nil, List.cons_append] at Bn; replace hb1 := hb1.trans (ho.below hs5); replace B5 := Bn; clear Bn ho; have C5 := B5.cells)
      | ((with_reducible refine g_dst 6 ?_); go_must (refine ev_alloc 6 rfl infoD (cs := [.int .i64 0, .int .i64 0, .bool false, .slice none 0 0, .string ⟨#[]⟩, .slice none 0 0, .slice none 0 0]) rfl ?_); intro g6 wn hb B6 hg6; have hne6_5 : g5 ≠ g6 := (fun h => by have := B5.lt; omega); replace B5 := B5.below hb; have hs6 := Nat.le_trans hb1.size hg6; replace hb1 := bthen hb1 hb; clear hb hg6)
      | ((with_reducible refine g_store 6 ?_); go_must (refine ev_store rfl rfl B6 (news := [.int .i64 3, .int .i64 (c.toNat : Int), .bool false, .slice none 0 0, .string ⟨#[]⟩, .slice none 0 0, .slice none 0 0]) (by first | rfl | (go_simp; try rfl)) infoD (by simp) (by simp [Value.oneCell']) ?_); intro wn ho Bn; simp only [encD, List.take_zero, List.nil_append, List.length_cons, List.length_nil, List.drop_succ_cons, List.drop_zero, List.append_nil, List.cons_append] at Bn; replace B5 := B5.only ho hne6_5; replace hb1 := hb1.trans (ho.below hs6); replace B6 := Bn; clear Bn ho; have C6 := B6.cells))
    (try clear C5 C6)
    have hd := (Below.refl (World.heap wn).size wn).drew
    replace B5 := B5.below hd
    replace B6 := B6.below hd
    replace hb1 := bthen hb1 hd
    clear hd
    have hS : ∀ W : World, Blk W g5 [.int .i64 4, .int .i64 0, .bool false, .slice none 0 0, .string ⟨s.toArray⟩, .slice none 0 0, .slice none 0 0] 27 → Blk W g6 [.int .i64 3, .int .i64 (c.toNat : Int), .bool false, .slice none 0 0, .string ⟨#[]⟩, .slice none 0 0, .slice none 0 0] 27 → (W.cell? ⟨g5, 0, none⟩ = some (.int .i64 4) ∧ W.cell? ⟨g5, 1, none⟩ = some (.int .i64 0) ∧ W.cell? ⟨g5, 2, none⟩ = some (.bool false) ∧ W.cell? ⟨g5, 3, none⟩ = some (.slice none 0 0) ∧ W.cell? ⟨g5, 4, none⟩ = some (.string ⟨s.toArray⟩) ∧ W.cell? ⟨g5, 5, none⟩ = some (.slice none 0 0) ∧ W.cell? ⟨g5, 6, none⟩ = some (.slice none 0 0)) ∧ (W.cell? ⟨g6, 0, none⟩ = some (.int .i64 3) ∧ W.cell? ⟨g6, 1, none⟩ = some (.int .i64 (c.toNat : Int)) ∧ W.cell? ⟨g6, 2, none⟩ = some (.bool false) ∧ W.cell? ⟨g6, 3, none⟩ = some (.slice none 0 0) ∧ W.cell? ⟨g6, 4, none⟩ = some (.string ⟨#[]⟩) ∧ W.cell? ⟨g6, 5, none⟩ = some (.slice none 0 0) ∧ W.cell? ⟨g6, 6, none⟩ = some (.slice none 0 0)) := fun W B C => ⟨⟨B.cells 0, B.cells 1, B.cells 2, B.cells 3, B.cells 4, B.cells 5, B.cells 6⟩, ⟨C.cells 0, C.cells 1, C.cells 2, C.cells 3, C.cells 4, C.cells 5, C.cells 6⟩⟩
    have hS0 := hS _ B5 B6
    refine wp_gen2 (fun Q7 hQ7 => ?_)
    refine wp_region_held_drew (S := fun W => (W.cell? ⟨g5, 0, none⟩ = some (.int .i64 4) ∧ W.cell? ⟨g5, 1, none⟩ = some (.int .i64 0) ∧ W.cell? ⟨g5, 2, none⟩ = some (.bool false) ∧ W.cell? ⟨g5, 3, none⟩ = some (.slice none 0 0) ∧ W.cell? ⟨g5, 4, none⟩ = some (.string ⟨s.toArray⟩) ∧ W.cell? ⟨g5, 5, none⟩ = some (.slice none 0 0) ∧ W.cell? ⟨g5, 6, none⟩ = some (.slice none 0 0)) ∧ (W.cell? ⟨g6, 0, none⟩ = some (.int .i64 3) ∧ W.cell? ⟨g6, 1, none⟩ = some (.int .i64 (c.toNat : Int)) ∧ W.cell? ⟨g6, 2, none⟩ = some (.bool false) ∧ W.cell? ⟨g6, 3, none⟩ = some (.slice none 0 0) ∧ W.cell? ⟨g6, 4, none⟩ = some (.string ⟨#[]⟩) ∧ W.cell? ⟨g6, 5, none⟩ = some (.slice none 0 0) ∧ W.cell? ⟨g6, 6, none⟩ = some (.slice none 0 0))) (by kernel_rfl) (hS0) (fun hHeld => ?_)
    repeat' (first
      | ((with_reducible refine gI ?_); first
        | ((with_reducible refine s_dst 21 ?_); go_simp; (with_reducible refine (HDd.out _ (HTab.out.below hb1)).mono ?_); rintro e9 wn ⟨vn, rfl, rfl, hb⟩; replace B5 := B5.below hb; replace B6 := B6.below hb; replace hb1 := bthen hb1 hb; clear hb; refine hK.out _ _ (hS _ B5 B6) (fun hHeld => ?_); clear hK K; (try simp only [Act.put, pA, pB, pC, pD, pE, pF]))
        | ((with_reducible refine s_dst 26 ?_); go_simp; (with_reducible refine (HDx.out _ (HTab.out.below hb1)).mono ?_); rintro e9 wn ⟨vn, rfl, rfl, hb⟩; replace B5 := B5.below hb; replace B6 := B6.below hb; replace hb1 := bthen hb1 hb; (try replace B28 := B28.below hb); clear hb; refine hK.out _ _ (hS _ B5 B6) (fun hHeld => ?_); clear hK K; (try simp only [Act.put, pA, pB, pC, pD, pE, pF]))
        | ((with_reducible refine s_dst 28 ?_); refine st_lit (v := fun g => .slice (some ⟨g, 0, none⟩) 1 1) 28 rfl (cs := [valB8 c.toNat]) (t := 5) (by go_simp; rfl) ?_; intro g28 wn hb B28 hg28; replace B5 := B5.below hb; replace B6 := B6.below hb; replace hb1 := bthen hb1 hb; clear hb hg28; refine hK.out _ _ (hS _ B5 B6) (fun hHeld => ?_); clear hK K; (try simp only [Act.put, pA, pB, pC, pD, pE, pF]))
        | ((with_reducible refine s_dst 29 ?_); go_must (refine st (v := .string ⟨#[c]⟩) (by kernel_rfl) (by have e := conv_c B28; go_simp; try (with_reducible rfl)) ?_); refine hK.out _ _ (hS _ B5 B6) (fun hHeld => ?_); clear hK K; (try simp only [Act.put, pA, pB, pC, pD, pE, pF])))
      | ((with_reducible refine gW ?_); first
        | (refine tk (i := 0) (v := .agg #[.int .i64 4, .int .i64 0, .bool false, .slice none 0 0, .string ⟨s.toArray⟩, .slice none 0 0, .slice none 0 0]) rfl (by decide +kernel) (by kernel_rfl) (fun W hSw => by (go_split_ands; go_simp; (try (with_reducible rfl)))) (by assumption) ?_; (try simp only [Act.put, pA, pB, pC, pD, pE, pF]))
        | (refine tk (i := 2) (v := .string ⟨s.toArray⟩) rfl (by decide +kernel) (by kernel_rfl) (fun W hSw => by (go_split_ands; go_simp; (try (with_reducible rfl)))) (by assumption) ?_; (try simp only [Act.put, pA, pB, pC, pD, pE, pF]))
        | (refine tk (i := 3) (v := .bool false) rfl (by decide +kernel) (by kernel_rfl) (fun W hSw => by (go_split_ands; go_simp; (try (with_reducible rfl)))) (by assumption) ?_; (try simp only [Act.put, pA, pB, pC, pD, pE, pF]))
        | (refine tk (i := 4) (v := .bool false) rfl (by decide +kernel) (by kernel_rfl) (fun W hSw => by (go_split_ands; go_simp; (try (with_reducible rfl)))) (by assumption) ?_; (try simp only [Act.put, pA, pB, pC, pD, pE, pF]))
        | (refine tk (i := 5) (v := .agg #[.int .i64 3, .int .i64 (c.toNat : Int), .bool false, .slice none 0 0, .string ⟨#[]⟩, .slice none 0 0, .slice none 0 0]) rfl (by decide +kernel) (by kernel_rfl) (fun W hSw => by (go_split_ands; go_simp; (try (with_reducible rfl)))) (by assumption) ?_; (try simp only [Act.put, pA, pB, pC, pD, pE, pF]))
        | (refine tk (i := 7) (v := .int .u8 (c.toNat : Int)) rfl (by decide +kernel) (by kernel_rfl) (fun W hSw => by (go_split_ands; go_simp; (try (with_reducible rfl)))) (by assumption) ?_; (try simp only [Act.put, pA, pB, pC, pD, pE, pF]))
        | (refine tk (i := 10) (v := .bool false) rfl (by decide +kernel) (by kernel_rfl) (fun W hSw => by (go_split_ands; go_simp; (try (with_reducible rfl)))) (by assumption) ?_; (try simp only [Act.put, pA, pB, pC, pD, pE, pF]))
        | (refine tk (i := 11) (v := .bool false) rfl (by decide +kernel) (by kernel_rfl) (fun W hSw => by (go_split_ands; go_simp; (try (with_reducible rfl)))) (by assumption) ?_; (try simp only [Act.put, pA, pB, pC, pD, pE, pF]))
        | refine wpAnyH_ready (rs := [1]) (by decide +kernel) (by simp) ?_
        | refine wpAnyH_ready (rs := [6, 8]) (by decide +kernel) (by simp) ?_
        | refine wpAnyH_ready (rs := [8]) (by decide +kernel) (by simp) ?_
        | refine wpAnyH_ready (rs := [6, 9]) (by decide +kernel) (by simp) ?_
        | refine wpAnyH_ready (rs := [9]) (by decide +kernel) (by simp) ?_
        | refine wpAnyH_ready (rs := [6]) (by decide +kernel) (by simp) ?_)
      | ((with_reducible refine gA ?_); first
        | exact AllReadyH.nil
        | (refine AllReadyH.cons (o := _) (by simp only [List.getElem?_toArray, List.getElem?_cons_succ, List.getElem?_cons_zero]; rfl) (fun K hK => ?_) ?_)))
    all_goals
      refine wpAnyH_done (by kernel_rfl) ?_ _
      refine NoPanic.normal ?_
      obtain ⟨rfl⟩ := hQ7
      have C5 := B5.cells
      have C6 := B6.cells
      go_wp2_with (first
        | (go_at_call 6; (with_reducible refine (HWd.out _ (HTab.out.below hb1)).mono ?_); rintro e2 w2 ⟨v2, rfl, rfl, hb⟩; replace B5 := B5.below hb; (try clear C5); have C5 := B5.cells; replace B6 := B6.below hb; (try clear C6); have C6 := B6.cells; replace hb1 := bthen hb1 hb; clear hb)
        | (go_at_call 7; (with_reducible refine (HOd.out _).mono ?_); rintro e4 w4 ⟨v4, rfl, ⟨d1, rfl, hgd1, hfd, hed⟩, hb⟩; have HED1 := As.mk hed; clear hed hfd; have HSM1 := As.mk (same_ok _ d1 hgd1 (by rw [HED1.out]; exact HDW.out)); clear hgd1; replace B5 := B5.below hb; (try clear C5); have C5 := B5.cells; replace B6 := B6.below hb; (try clear C6); have C6 := B6.cells; replace hb1 := bthen hb1 hb; clear hb; have hbe := Below.refl (World.heap w4).size w4; have hse := Nat.le_refl (World.heap w4).size; obtain ⟨kind1, n1, neg1, mA1, mc1, mag1, text1, Ai1, ci1, items1, Ar1, cr1, rest1⟩ := d1)
        | ((with_reducible refine g_dst 8 ?_); go_must (refine ev_alloc 8 rfl infoD (cs := [.int .i64 0, .int .i64 0, .bool false, .slice none 0 0, .string ⟨#[]⟩, .slice none 0 0, .slice none 0 0]) rfl ?_); intro g8 wn hb B8 hg8; have hne8_5 : g5 ≠ g8 := (fun h => by have := B5.lt; omega); have hne8_6 : g6 ≠ g8 := (fun h => by have := B6.lt; omega); have hs8 := Nat.le_trans hb1.size hg8; replace B5 := B5.below hb; (try clear C5); have C5 := B5.cells; replace B6 := B6.below hb; (try clear C6); have C6 := B6.cells; replace hb1 := bthen hb1 hb; replace hbe := bthen hbe hb; have hge8 := hg8; clear hb hg8)
        | ((with_reducible refine g_store 8 ?_); go_must (refine ev_store rfl rfl B8 (news := [.int .i64 kind1, .int .i64 n1, .bool neg1, .slice mA1 mag1.length mc1, .string ⟨text1.toArray⟩, .slice Ai1 items1.length ci1, .slice Ar1 rest1.length cr1]) (by first | rfl | (go_simp; try rfl)) infoD (by simp) (by simp [Value.oneCell']) ?_); intro wn ho Bn; simp only [encD, List.take_zero, List.nil_append, List.length_cons, List.length_nil, List.drop_succ_cons, List.drop_zero, List.append_nil, List.cons_append] at Bn; replace B5 := B5.only ho hne8_5; clear C5; have C5 := B5.cells; replace B6 := B6.only ho hne8_6; clear C6; have C6 := B6.cells; replace hb1 := hb1.trans (ho.below hs8); replace hbe := hbe.trans (ho.below hge8); replace B8 := Bn; clear Bn ho; have C8 := B8.cells; have HC8 := As.mk (HSM1.out (.mk 4 0 false none 0 [] s none 0 [] none 0 []) _ hbe (good_z _ _ _ (by omega) (by omega) _) (by rw [HED1.out]; simp [erD, erAll, dStr])); simp only [encD, List.length_nil] at HC8; clear HSM1 HED1 hbe hse hge8)
        | (go_at_call 8; (with_reducible refine HC8.out.mono ?_); rintro e7 w7 ⟨v7, rfl, rfl, hb⟩; replace B5 := B5.below hb; (try clear C5); have C5 := B5.cells; replace B6 := B6.below hb; (try clear C6); have C6 := B6.cells; replace hb1 := bthen hb1 hb; clear hb)
        | (go_at_call 6; (with_reducible refine (HWx.out _ (HTab.out.below hb1)).mono ?_); rintro e2 w2 ⟨v2, rfl, rfl, hb⟩; replace B5 := B5.below hb; (try clear C5); have C5 := B5.cells; replace B6 := B6.below hb; (try clear C6); have C6 := B6.cells; replace hb1 := bthen hb1 hb; clear hb)
        | (go_at_call 7; (with_reducible refine (HOx.out _).mono ?_); rintro e4 w4 ⟨v4, rfl, ⟨d3, rfl, hgd3, hfd, hed⟩, hb⟩; have HED3 := As.mk hed; clear hed hfd; have HSM3 := As.mk (same_ok _ d3 hgd3 (by rw [HED3.out]; exact HXW.out)); clear hgd3; replace B6 := B6.below hb; (try clear C6); have C6 := B6.cells; replace hb1 := bthen hb1 hb; clear hb; have hbe := Below.refl (World.heap w4).size w4; have hse := Nat.le_refl (World.heap w4).size; obtain ⟨kind3, n3, neg3, mA3, mc3, mag3, text3, Ai3, ci3, items3, Ar3, cr3, rest3⟩ := d3)
        | ((with_reducible refine g_dst 12 ?_); go_must (refine ev_alloc 12 rfl infoD (cs := [.int .i64 0, .int .i64 0, .bool false, .slice none 0 0, .string ⟨#[]⟩, .slice none 0 0, .slice none 0 0]) rfl ?_); intro g12 wn hb B12 hg12; have hne12_6 : g6 ≠ g12 := (fun h => by have := B6.lt; omega); have hs12 := Nat.le_trans hb1.size hg12; replace B6 := B6.below hb; (try clear C6); have C6 := B6.cells; replace hb1 := bthen hb1 hb; replace hbe := bthen hbe hb; have hge12 := hg12; clear hb hg12)
        | ((with_reducible refine g_store 12 ?_); go_must (refine ev_store rfl rfl B12 (news := [.int .i64 kind3, .int .i64 n3, .bool neg3, .slice mA3 mag3.length mc3, .string ⟨text3.toArray⟩, .slice Ai3 items3.length ci3, .slice Ar3 rest3.length cr3]) (by first | rfl | (go_simp; try rfl)) infoD (by simp) (by simp [Value.oneCell']) ?_); intro wn ho Bn; simp only [encD, List.take_zero, List.nil_append, List.length_cons, List.length_nil, List.drop_succ_cons, List.drop_zero, List.append_nil, List.cons_append] at Bn; replace B6 := B6.only ho hne12_6; clear C6; have C6 := B6.cells; replace hb1 := hb1.trans (ho.below hs12); replace hbe := hbe.trans (ho.below hge12); replace B12 := Bn; clear Bn ho; have C12 := B12.cells; have HC12 := As.mk (HSM3.out (.mk 3 (c.toNat : Int) false none 0 [] [] none 0 [] none 0 []) _ hbe (good_z _ _ _ (by omega) (by omega) _) (by rw [HED3.out]; simp [erD, erAll, dChar])); simp only [encD, List.length_nil] at HC12; clear HSM3 HED3 hbe hse hge12)
        | (go_at_call 8; (with_reducible refine HC12.out.mono ?_); rintro e7 w7 ⟨v7, rfl, rfl, hb⟩; replace hb1 := bthen hb1 hb; clear hb)
        | (go_at_call 9; (with_reducible refine (awake_any _ (HTab.out.below hb1)).mono ?_); rintro e3 w3 ⟨v3, rfl, rfl, hb⟩; replace hb1 := bthen hb1 hb))
      go_ret
      exact ⟨_, rfl, by simp, hb1⟩
  · have hY65i : ¬ (Y.length : Int) ≤ 65536 := by omega
    go_enter Tryz.func3, Tryz.ntmps3
    go_wp2_with (first
      | ((with_reducible refine g_dst 5 ?_); go_must (refine ev_alloc 5 rfl infoD (cs := [.int .i64 0, .int .i64 0, .bool false, .slice none 0 0, .string ⟨#[]⟩, .slice none 0 0, .slice none 0 0]) rfl ?_); intro g5 wn hb B5 hg5; have hs5 := Nat.le_trans hb1.size hg5; replace hb1 := bthen hb1 hb; clear hb hg5)
      | ((with_reducible refine g_store 5 ?_); go_must (refine ev_store rfl rfl B5 (news := [.int .i64 4, .int .i64 0, .bool false, .slice none 0 0, .string ⟨s.toArray⟩, .slice none 0 0, .slice none 0 0]) (by first | rfl | (go_simp; try rfl)) infoD (by simp) (by simp [Value.oneCell']) ?_); intro wn ho Bn; simp only [encD, List.take_zero, List.nil_append, List.length_cons, List.length_nil, List.drop_succ_cons, List.drop_zero, List.append_nil, List.cons_append] at Bn; replace hb1 := hb1.trans (ho.below hs5); replace B5 := Bn; clear Bn ho; have C5 := B5.cells)
      | ((with_reducible refine g_dst 6 ?_); go_must (refine ev_alloc 6 rfl infoD (cs := [.int .i64 0, .int .i64 0, .bool false, .slice none 0 0, .string ⟨#[]⟩, .slice none 0 0, .slice none 0 0]) rfl ?_); intro g6 wn hb B6 hg6; have hne6_5 : g5 ≠ g6 := (fun h => by have := B5.lt; omega); replace B5 := B5.below hb; have hs6 := Nat.le_trans hb1.size hg6; replace hb1 := bthen hb1 hb; clear hb hg6)
      | ((with_reducible refine g_store 6 ?_); go_must (refine ev_store rfl rfl B6 (news := [.int .i64 3, .int .i64 (c.toNat : Int), .bool false, .slice none 0 0, .string ⟨#[]⟩, .slice none 0 0, .slice none 0 0]) (by first | rfl | (go_simp; try rfl)) infoD (by simp) (by simp [Value.oneCell']) ?_); intro wn ho Bn; simp only [encD, List.take_zero, List.nil_append, List.length_cons, List.length_nil, List.drop_succ_cons, List.drop_zero, List.append_nil, List.cons_append] at Bn; replace B5 := B5.only ho hne6_5; replace hb1 := hb1.trans (ho.below hs6); replace B6 := Bn; clear Bn ho; have C6 := B6.cells))
    (try clear C5 C6)
    have hd := (Below.refl (World.heap wn).size wn).drew
    replace B5 := B5.below hd
    replace B6 := B6.below hd
    replace hb1 := bthen hb1 hd
    clear hd
    have hS : ∀ W : World, Blk W g5 [.int .i64 4, .int .i64 0, .bool false, .slice none 0 0, .string ⟨s.toArray⟩, .slice none 0 0, .slice none 0 0] 27 → Blk W g6 [.int .i64 3, .int .i64 (c.toNat : Int), .bool false, .slice none 0 0, .string ⟨#[]⟩, .slice none 0 0, .slice none 0 0] 27 → (W.cell? ⟨g5, 0, none⟩ = some (.int .i64 4) ∧ W.cell? ⟨g5, 1, none⟩ = some (.int .i64 0) ∧ W.cell? ⟨g5, 2, none⟩ = some (.bool false) ∧ W.cell? ⟨g5, 3, none⟩ = some (.slice none 0 0) ∧ W.cell? ⟨g5, 4, none⟩ = some (.string ⟨s.toArray⟩) ∧ W.cell? ⟨g5, 5, none⟩ = some (.slice none 0 0) ∧ W.cell? ⟨g5, 6, none⟩ = some (.slice none 0 0)) ∧ (W.cell? ⟨g6, 0, none⟩ = some (.int .i64 3) ∧ W.cell? ⟨g6, 1, none⟩ = some (.int .i64 (c.toNat : Int)) ∧ W.cell? ⟨g6, 2, none⟩ = some (.bool false) ∧ W.cell? ⟨g6, 3, none⟩ = some (.slice none 0 0) ∧ W.cell? ⟨g6, 4, none⟩ = some (.string ⟨#[]⟩) ∧ W.cell? ⟨g6, 5, none⟩ = some (.slice none 0 0) ∧ W.cell? ⟨g6, 6, none⟩ = some (.slice none 0 0)) := fun W B C => ⟨⟨B.cells 0, B.cells 1, B.cells 2, B.cells 3, B.cells 4, B.cells 5, B.cells 6⟩, ⟨C.cells 0, C.cells 1, C.cells 2, C.cells 3, C.cells 4, C.cells 5, C.cells 6⟩⟩
    have hS0 := hS _ B5 B6
    refine wp_gen2 (fun Q7 hQ7 => ?_)
    refine wp_region_held_drew (S := fun W => (W.cell? ⟨g5, 0, none⟩ = some (.int .i64 4) ∧ W.cell? ⟨g5, 1, none⟩ = some (.int .i64 0) ∧ W.cell? ⟨g5, 2, none⟩ = some (.bool false) ∧ W.cell? ⟨g5, 3, none⟩ = some (.slice none 0 0) ∧ W.cell? ⟨g5, 4, none⟩ = some (.string ⟨s.toArray⟩) ∧ W.cell? ⟨g5, 5, none⟩ = some (.slice none 0 0) ∧ W.cell? ⟨g5, 6, none⟩ = some (.slice none 0 0)) ∧ (W.cell? ⟨g6, 0, none⟩ = some (.int .i64 3) ∧ W.cell? ⟨g6, 1, none⟩ = some (.int .i64 (c.toNat : Int)) ∧ W.cell? ⟨g6, 2, none⟩ = some (.bool false) ∧ W.cell? ⟨g6, 3, none⟩ = some (.slice none 0 0) ∧ W.cell? ⟨g6, 4, none⟩ = some (.string ⟨#[]⟩) ∧ W.cell? ⟨g6, 5, none⟩ = some (.slice none 0 0) ∧ W.cell? ⟨g6, 6, none⟩ = some (.slice none 0 0))) (by kernel_rfl) (hS0) (fun hHeld => ?_)
    repeat' (first
      | ((with_reducible refine gI ?_); first
        | ((with_reducible refine s_dst 21 ?_); go_simp; (with_reducible refine (HDd.out _ (HTab.out.below hb1)).mono ?_); rintro e9 wn ⟨vn, rfl, rfl, hb⟩; replace B5 := B5.below hb; replace B6 := B6.below hb; replace hb1 := bthen hb1 hb; clear hb; refine hK.out _ _ (hS _ B5 B6) (fun hHeld => ?_); clear hK K; (try simp only [Act.put, pA, pB, pC, pD, pE, pF]))
        | ((with_reducible refine s_dst 26 ?_); go_simp; (with_reducible refine (HDx.out _ (HTab.out.below hb1)).mono ?_); rintro e9 wn ⟨vn, rfl, rfl, hb⟩; replace B5 := B5.below hb; replace B6 := B6.below hb; replace hb1 := bthen hb1 hb; (try replace B28 := B28.below hb); clear hb; refine hK.out _ _ (hS _ B5 B6) (fun hHeld => ?_); clear hK K; (try simp only [Act.put, pA, pB, pC, pD, pE, pF]))
        | ((with_reducible refine s_dst 28 ?_); refine st_lit (v := fun g => .slice (some ⟨g, 0, none⟩) 1 1) 28 rfl (cs := [valB8 c.toNat]) (t := 5) (by go_simp; rfl) ?_; intro g28 wn hb B28 hg28; replace B5 := B5.below hb; replace B6 := B6.below hb; replace hb1 := bthen hb1 hb; clear hb hg28; refine hK.out _ _ (hS _ B5 B6) (fun hHeld => ?_); clear hK K; (try simp only [Act.put, pA, pB, pC, pD, pE, pF]))
        | ((with_reducible refine s_dst 29 ?_); go_must (refine st (v := .string ⟨#[c]⟩) (by kernel_rfl) (by have e := conv_c B28; go_simp; try (with_reducible rfl)) ?_); refine hK.out _ _ (hS _ B5 B6) (fun hHeld => ?_); clear hK K; (try simp only [Act.put, pA, pB, pC, pD, pE, pF])))
      | ((with_reducible refine gW ?_); first
        | (refine tk (i := 0) (v := .agg #[.int .i64 4, .int .i64 0, .bool false, .slice none 0 0, .string ⟨s.toArray⟩, .slice none 0 0, .slice none 0 0]) rfl (by decide +kernel) (by kernel_rfl) (fun W hSw => by (go_split_ands; go_simp; (try (with_reducible rfl)))) (by assumption) ?_; (try simp only [Act.put, pA, pB, pC, pD, pE, pF]))
        | (refine tk (i := 2) (v := .string ⟨s.toArray⟩) rfl (by decide +kernel) (by kernel_rfl) (fun W hSw => by (go_split_ands; go_simp; (try (with_reducible rfl)))) (by assumption) ?_; (try simp only [Act.put, pA, pB, pC, pD, pE, pF]))
        | (refine tk (i := 3) (v := .bool false) rfl (by decide +kernel) (by kernel_rfl) (fun W hSw => by (go_split_ands; go_simp; (try (with_reducible rfl)))) (by assumption) ?_; (try simp only [Act.put, pA, pB, pC, pD, pE, pF]))
        | (refine tk (i := 4) (v := .bool false) rfl (by decide +kernel) (by kernel_rfl) (fun W hSw => by (go_split_ands; go_simp; (try (with_reducible rfl)))) (by assumption) ?_; (try simp only [Act.put, pA, pB, pC, pD, pE, pF]))
        | (refine tk (i := 5) (v := .agg #[.int .i64 3, .int .i64 (c.toNat : Int), .bool false, .slice none 0 0, .string ⟨#[]⟩, .slice none 0 0, .slice none 0 0]) rfl (by decide +kernel) (by kernel_rfl) (fun W hSw => by (go_split_ands; go_simp; (try (with_reducible rfl)))) (by assumption) ?_; (try simp only [Act.put, pA, pB, pC, pD, pE, pF]))
        | (refine tk (i := 7) (v := .int .u8 (c.toNat : Int)) rfl (by decide +kernel) (by kernel_rfl) (fun W hSw => by (go_split_ands; go_simp; (try (with_reducible rfl)))) (by assumption) ?_; (try simp only [Act.put, pA, pB, pC, pD, pE, pF]))
        | (refine tk (i := 10) (v := .bool false) rfl (by decide +kernel) (by kernel_rfl) (fun W hSw => by (go_split_ands; go_simp; (try (with_reducible rfl)))) (by assumption) ?_; (try simp only [Act.put, pA, pB, pC, pD, pE, pF]))
        | (refine tk (i := 11) (v := .bool false) rfl (by decide +kernel) (by kernel_rfl) (fun W hSw => by (go_split_ands; go_simp; (try (with_reducible rfl)))) (by assumption) ?_; (try simp only [Act.put, pA, pB, pC, pD, pE, pF]))
        | refine wpAnyH_ready (rs := [1]) (by decide +kernel) (by simp) ?_
        | refine wpAnyH_ready (rs := [6, 8]) (by decide +kernel) (by simp) ?_
        | refine wpAnyH_ready (rs := [8]) (by decide +kernel) (by simp) ?_
        | refine wpAnyH_ready (rs := [6, 9]) (by decide +kernel) (by simp) ?_
        | refine wpAnyH_ready (rs := [9]) (by decide +kernel) (by simp) ?_
        | refine wpAnyH_ready (rs := [6]) (by decide +kernel) (by simp) ?_)
      | ((with_reducible refine gA ?_); first
        | exact AllReadyH.nil
        | (refine AllReadyH.cons (o := _) (by simp only [List.getElem?_toArray, List.getElem?_cons_succ, List.getElem?_cons_zero]; rfl) (fun K hK => ?_) ?_)))
    all_goals
      refine wpAnyH_done (by kernel_rfl) ?_ _
      refine NoPanic.normal ?_
      obtain ⟨rfl⟩ := hQ7
      have C5 := B5.cells
      have C6 := B6.cells
      go_wp2_with (first
        | (go_at_call 6; (with_reducible refine (HWd.out _ (HTab.out.below hb1)).mono ?_); rintro e2 w2 ⟨v2, rfl, rfl, hb⟩; replace B5 := B5.below hb; (try clear C5); have C5 := B5.cells; replace B6 := B6.below hb; (try clear C6); have C6 := B6.cells; replace hb1 := bthen hb1 hb; clear hb)
        | (go_at_call 6; (with_reducible refine (HWx.out _ (HTab.out.below hb1)).mono ?_); rintro e2 w2 ⟨v2, rfl, rfl, hb⟩; replace B5 := B5.below hb; (try clear C5); have C5 := B5.cells; replace B6 := B6.below hb; (try clear C6); have C6 := B6.cells; replace hb1 := bthen hb1 hb; clear hb)
        | (go_at_call 7; (with_reducible refine (HOx.out _).mono ?_); rintro e4 w4 ⟨v4, rfl, ⟨d3, rfl, hgd3, hfd, hed⟩, hb⟩; have HED3 := As.mk hed; clear hed hfd; have HSM3 := As.mk (same_ok _ d3 hgd3 (by rw [HED3.out]; exact HXW.out)); clear hgd3; replace B6 := B6.below hb; (try clear C6); have C6 := B6.cells; replace hb1 := bthen hb1 hb; clear hb; have hbe := Below.refl (World.heap w4).size w4; have hse := Nat.le_refl (World.heap w4).size; obtain ⟨kind3, n3, neg3, mA3, mc3, mag3, text3, Ai3, ci3, items3, Ar3, cr3, rest3⟩ := d3)
        | ((with_reducible refine g_dst 12 ?_); go_must (refine ev_alloc 12 rfl infoD (cs := [.int .i64 0, .int .i64 0, .bool false, .slice none 0 0, .string ⟨#[]⟩, .slice none 0 0, .slice none 0 0]) rfl ?_); intro g12 wn hb B12 hg12; have hne12_6 : g6 ≠ g12 := (fun h => by have := B6.lt; omega); have hs12 := Nat.le_trans hb1.size hg12; replace B6 := B6.below hb; (try clear C6); have C6 := B6.cells; replace hb1 := bthen hb1 hb; replace hbe := bthen hbe hb; have hge12 := hg12; clear hb hg12)
        | ((with_reducible refine g_store 12 ?_); go_must (refine ev_store rfl rfl B12 (news := [.int .i64 kind3, .int .i64 n3, .bool neg3, .slice mA3 mag3.length mc3, .string ⟨text3.toArray⟩, .slice Ai3 items3.length ci3, .slice Ar3 rest3.length cr3]) (by first | rfl | (go_simp; try rfl)) infoD (by simp) (by simp [Value.oneCell']) ?_); intro wn ho Bn; simp only [encD, List.take_zero, List.nil_append, List.length_cons, List.length_nil, List.drop_succ_cons, List.drop_zero, List.append_nil, List.cons_append] at Bn; replace B6 := B6.only ho hne12_6; clear C6; have C6 := B6.cells; replace hb1 := hb1.trans (ho.below hs12); replace hbe := hbe.trans (ho.below hge12); replace B12 := Bn; clear Bn ho; have C12 := B12.cells; have HC12 := As.mk (HSM3.out (.mk 3 (c.toNat : Int) false none 0 [] [] none 0 [] none 0 []) _ hbe (good_z _ _ _ (by omega) (by omega) _) (by rw [HED3.out]; simp [erD, erAll, dChar])); simp only [encD, List.length_nil] at HC12; clear HSM3 HED3 hbe hse hge12)
        | (go_at_call 8; (with_reducible refine HC12.out.mono ?_); rintro e7 w7 ⟨v7, rfl, rfl, hb⟩; replace hb1 := bthen hb1 hb; clear hb)
        | (go_at_call 9; (with_reducible refine (awake_any _ (HTab.out.below hb1)).mono ?_); rintro e3 w3 ⟨v3, rfl, rfl, hb⟩; replace hb1 := bthen hb1 hb))
      go_ret
      exact ⟨_, rfl, by simp, hb1⟩
end Go.Proofs.YtgeokccfobmeiaaGreatDoor
