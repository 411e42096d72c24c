/- NumMakes. -/
import Derived.Test.YtigoofeodbbbhaaDoorNumMakesF
import Derived.Test.YtigoofeodbbbhaaDoorDrawn
namespace Go.Proofs.YtigoofeodbbbhaaDoor
open Go.RowKit Go.Proofs.YtigoofeodbbbhaaDoorL Go.Proofs.YtigoofeodbbbhaaDoorM
set_option linter.unusedVariables false
set_option linter.unusedSimpArgs false
set_option maxRecDepth 16000 in
set_option maxHeartbeats 64000000 in
theorem numMakesP (n1 n2 : Bool) (A1 A2 : Option Addr) (c1 c2 k1 k2 : Nat) (z1 z2 : Int) (w : World) (HT : As (Tab w)) (F0 : Fs w [⟨n2, A2, k2, c2, z2, k2, false⟩, ⟨n1, A1, k1, c1, z1, k1, false⟩]) (hxy : k1 + k2 ≤ 1048576) (hsg : 0 < z2) :
    Calls Tryd.prog 9 #[.agg [.bool n1, .slice A1 k1 c1].toArray, .agg [.bool n2, .slice A2 k2 c2].toArray] w (Gives w fun r _ => r = .bool true) := by
  have Hsg := As.mk hsg
  clear hsg
  obtain ⟨zq, zr, ok, hTQ⟩ := tq_ex z1 z2
  obtain ⟨fq, fr, hFQ⟩ := fq_ex z1 z2
  have hok := hTQ.ok
  rw [← hok] at hFQ
  clear hok
  have HTQ := As.mk hTQ
  have HFQ := As.mk hFQ
  clear hTQ hFQ
  go_enter Tryd.func9, Tryd.ntmps9
  go_wp2_with (first
    | ((with_reducible refine g_dst 2 ?_); go_must (refine ev_box 2 rfl (cs := [.bool n1, .slice A1 k1 c1]) (by rfl) ?_); intro g2 wb hb2 B2 hg2; have hbt := hb2)
    | ((with_reducible refine g_dst 3 ?_); go_must (refine ev_box 3 rfl (cs := [.bool n2, .slice A2 k2 c2]) (by rfl) ?_); intro g3 wb hb3 B3 hg3; replace B2 := B2.below hb3; replace hbt := bthen hbt hb3))
  replace F0 := F0.below hbt
  clear hg2 hb2 hg3 hb3
  go_cut [5, 6, 7] (fun s5 s6 s7 wx => ∃ (g5 g6 : Nat) (b5 b6 : Bool) (A5 A6 : Option Addr) (n5 n6 c5 c6 : Nat), s5 = .pointer (some ⟨g5, 0, none⟩) ∧ s6 = .pointer (some ⟨g6, 0, none⟩) ∧ s7 = .bool ok ∧ Below wb.heap.size wb wx ∧ Blk wx g5 [.bool b5, .slice A5 n5 c5] 26 ∧ Blk wx g6 [.bool b6, .slice A6 n6 c6] 26 ∧ Fs wx [⟨b5, A5, n5, c5, zq, k1, true⟩] ∧ Fs wx [⟨b6, A6, n6, c6, zr, k1, true⟩])
  case first =>
    as_aux_lemma =>
      have hcur := (Below.refl wb.heap.size wb).drew
      have F := F0.below hcur
      refine wp_gen2 (fun Q7 hQ7 => ?_)
      refine wp_region_held_drew (S := fun W => Below wb.heap.size wb W) (by kernel_rfl) hcur (fun hHeld => ?_)
      clear hHeld
      repeat' (first
        | ((with_reducible refine gI ?_); first
            | ((with_reducible refine s_dst 18 ?_); go_simp; (with_reducible refine (cF F (by repeat (first | exact m0 | apply m1))).mono ?_); rintro e wn ⟨vn, rfl, ⟨b18, A18, n18, c18, rfl, o, hf⟩, hb⟩; replace F := (F.below hb).cons o; (try have hne18_5 := ner hf B5); (try have hne18_6 := ner hf B6); have hfr18 := ltf hf; clear hf; (try replace B5 := B5.below hb); (try replace B6 := B6.below hb); (try replace hfr20 := lte hfr20 hb); (try replace hfr21 := lte hfr21 hb); (try replace hfr21r := lte hfr21r hb); replace hcur := bthen hcur hb; go_wp2_with fail; refine hK.out _ _ hcur (fun hHeld => ?_); clear hK K hHeld; (try simp only [Act.put, pA, pB, pC, pD, pE, pF]))
            | ((with_reducible refine s_dst 20 ?_); go_simp; (with_reducible refine (cF F (by repeat (first | exact m0 | apply m1))).mono ?_); rintro e wn ⟨vn, rfl, ⟨b20, A20, n20, c20, rfl, o, hf⟩, hb⟩; replace F := (F.below hb).cons o; (try have hne20_5 := ner hf B5); (try have hne20_6 := ner hf B6); have hfr20 := ltf hf; clear hf; (try replace B5 := B5.below hb); (try replace B6 := B6.below hb); (try replace hfr18 := lte hfr18 hb); (try replace hfr21 := lte hfr21 hb); (try replace hfr21r := lte hfr21r hb); replace hcur := bthen hcur hb; go_wp2_with fail; refine hK.out _ _ hcur (fun hHeld => ?_); clear hK K hHeld; (try simp only [Act.put, pA, pB, pC, pD, pE, pF]))
            | ((with_reducible refine s_dst 21 ?_); go_simp; (with_reducible refine (truncF F (by repeat (first | exact m0 | apply m1)) (by repeat (first | exact m0 | apply m1)) HTQ.out (by omega)).mono ?_); rintro e wn ⟨vn, rfl, ⟨qn, rn, rfl, ⟨b21, A21, n21, c21, rfl, o, hf⟩, ⟨b21r, A21r, n21r, c21r, rfl, o2, hf2⟩⟩, hb⟩; replace F := ((F.below hb).cons o).cons o2; (try have hne21_5 := ner hf B5); (try have hne21r_5 := ner hf2 B5); (try have hne21_6 := ner hf B6); (try have hne21r_6 := ner hf2 B6); have hfr21 := ltf hf; have hfr21r := ltf hf2; clear hf hf2; (try replace B5 := B5.below hb); (try replace B6 := B6.below hb); (try replace hfr18 := lte hfr18 hb); (try replace hfr20 := lte hfr20 hb); replace hcur := bthen hcur hb; go_wp2_with fail; refine hK.out _ _ hcur (fun hHeld => ?_); clear hK K hHeld; (try simp only [Act.put, pA, pB, pC, pD, pE, pF]))
            | ((with_reducible refine s_dst 5 ?_); refine st_alloc 5 rfl infoNum (cs := [.bool false, .slice none 0 0]) rfl ?_; intro g5 wn hb B5 hgn; (try have hneb5_6 := nbx B6 hgn); (try have hne18_5 := nal hfr18 hgn); (try have hne20_5 := nal hfr20 hgn); (try have hne21_5 := nal hfr21 hgn); (try have hne21r_5 := nal hfr21r hgn); have hg5 := Nat.le_trans hcur.size hgn; replace F := F.below hb; (try replace B6 := B6.below hb); (try replace hfr18 := lte hfr18 hb); (try replace hfr20 := lte hfr20 hb); (try replace hfr21 := lte hfr21 hb); (try replace hfr21r := lte hfr21r hb); replace hcur := bthen hcur hb; refine hK.out _ _ hcur (fun hHeld => ?_); clear hK K hHeld; (try simp only [Act.put, pA, pB, pC, pD, pE, pF]))
            | ((with_reducible refine s_dst 6 ?_); refine st_alloc 6 rfl infoNum (cs := [.bool false, .slice none 0 0]) rfl ?_; intro g6 wn hb B6 hgn; (try have hneb6_5 := nbx B5 hgn); (try have hne18_6 := nal hfr18 hgn); (try have hne20_6 := nal hfr20 hgn); (try have hne21_6 := nal hfr21 hgn); (try have hne21r_6 := nal hfr21r hgn); have hg6 := Nat.le_trans hcur.size hgn; replace F := F.below hb; (try replace B5 := B5.below hb); (try replace hfr18 := lte hfr18 hb); (try replace hfr20 := lte hfr20 hb); (try replace hfr21 := lte hfr21 hb); (try replace hfr21r := lte hfr21r hb); replace hcur := bthen hcur hb; refine hK.out _ _ hcur (fun hHeld => ?_); clear hK K hHeld; (try simp only [Act.put, pA, pB, pC, pD, pE, pF]))
            | (refine st_store rfl rfl B5 (news := [.bool b21, .slice A21 n21 c21]) (by rfl) infoNum (by simp) (by simp [Value.oneCell']) ?_; intro wn hon Bx; replace B5 := st2 Bx; clear Bx; replace B6 := B6.only hon (by first | exact hneb6_5 | exact (Ne.symm hneb5_6)); have oo5 : NR.Ok _ _ := (F.out _ (show (⟨b21, A21, n21, c21, _, _, _⟩ : NR) ∈ _ from (by repeat (first | exact m0 | apply m1)))).only hon hne21_5; have F1 := F; clear F; have F := F0.below (hcur.trans (hon.below hg5)); replace F := F.cons ((F1.out _ (show (⟨b21r, A21r, n21r, c21r, _, _, _⟩ : NR) ∈ _ from (by repeat (first | exact m0 | apply m1)))).only hon hne21r_5); clear F1; replace hcur := hcur.trans (hon.below hg5); clear hon; refine hK.out _ _ hcur (fun hHeld => ?_); clear hK K hHeld; (try simp only [Act.put, pA, pB, pC, pD, pE, pF]))
            | (refine st_store rfl rfl B6 (news := [.bool b21r, .slice A21r n21r c21r]) (by rfl) infoNum (by simp) (by simp [Value.oneCell']) ?_; intro wn hon Bx; replace B6 := st2 Bx; clear Bx; replace B5 := B5.only hon (by first | exact (Ne.symm hneb6_5) | exact hneb5_6); have oo6 : NR.Ok _ _ := (F.out _ (show (⟨b21r, A21r, n21r, c21r, _, _, _⟩ : NR) ∈ _ from (by repeat (first | exact m0 | apply m1)))).only hon hne21r_6; replace oo5 := oo5.only hon hne21_6; have F1 := F; clear F; have F := F0.below (hcur.trans (hon.below hg6)); clear F1; replace hcur := hcur.trans (hon.below hg6); clear hon; refine hK.out _ _ hcur (fun hHeld => ?_); clear hK K hHeld; (try simp only [Act.put, pA, pB, pC, pD, pE, pF]))
            | ((with_reducible refine s_dst 7 ?_); go_simp; refine hK.out _ _ hcur (fun hHeld => ?_); clear hK K hHeld; (try simp only [Act.put, pA, pB, pC, pD, pE, pF])))
        | ((with_reducible refine gW ?_); first
            | (refine tk (i := 0) (v := .agg #[.bool n1, .slice A1 k1 c1]) rfl (by decide +kernel) (by kernel_rfl) (fun W hSw => by have Cb := (B2.below hSw).cells; (go_simp; (try (with_reducible rfl)))) hcur ?_; (try simp only [Act.put, pA, pB, pC, pD, pE, pF]))
            | (refine tk (i := 2) (v := .agg #[.bool n2, .slice A2 k2 c2]) rfl (by decide +kernel) (by kernel_rfl) (fun W hSw => by have Cb := (B3.below hSw).cells; (go_simp; (try (with_reducible rfl)))) hcur ?_; (try simp only [Act.put, pA, pB, pC, pD, pE, pF]))
            | (refine tk (i := 5) (v := .tuple #[.agg #[.bool b21, .slice A21 n21 c21], .agg #[.bool b21r, .slice A21r n21r c21r], .bool ok]) rfl (by decide +kernel) (by kernel_rfl) (fun W hSw => by (go_simp; (try (with_reducible rfl)))) hcur ?_; (try simp only [Act.put, pA, pB, pC, pD, pE, pF]))
            | (refine tk (i := 6) (v := .agg #[.bool b21, .slice A21 n21 c21]) rfl (by decide +kernel) (by kernel_rfl) (fun W hSw => by (go_simp; (try (with_reducible rfl)))) hcur ?_; (try simp only [Act.put, pA, pB, pC, pD, pE, pF]))
            | (refine tk (i := 7) (v := .agg #[.bool b21r, .slice A21r n21r c21r]) rfl (by decide +kernel) (by kernel_rfl) (fun W hSw => by (go_simp; (try (with_reducible rfl)))) hcur ?_; (try simp only [Act.put, pA, pB, pC, pD, pE, pF]))
            | (refine tk (i := 8) (v := .bool ok) rfl (by decide +kernel) (by kernel_rfl) (fun W hSw => by (go_simp; (try (with_reducible rfl)))) hcur ?_; (try simp only [Act.put, pA, pB, pC, pD, pE, pF]))
            | refine wpAnyH_ready (rs := [1, 9, 10]) (by decide +kernel) (by simp) ?_
            | refine wpAnyH_ready (rs := [3, 9, 10]) (by decide +kernel) (by simp) ?_
            | refine wpAnyH_ready (rs := [4, 9, 10]) (by decide +kernel) (by simp) ?_
            | refine wpAnyH_ready (rs := [9, 10]) (by decide +kernel) (by simp) ?_
            | refine wpAnyH_ready (rs := [10]) (by decide +kernel) (by simp) ?_
            | refine wpAnyH_ready (rs := [11]) (by decide +kernel) (by simp) ?_
            | refine wpAnyH_ready (rs := [12]) (by decide +kernel) (by simp) ?_
            | refine wpAnyH_ready (rs := [13]) (by decide +kernel) (by simp) ?_
            | refine wpAnyH_ready (rs := [9]) (by decide +kernel) (by simp) ?_
            | refine wpAnyH_ready (rs := [4, 10]) (by decide +kernel) (by simp) ?_
            | refine wpAnyH_ready (rs := [4]) (by decide +kernel) (by simp) ?_
            | refine wpAnyH_ready (rs := [4, 9]) (by decide +kernel) (by simp) ?_
            | refine wpAnyH_ready (rs := [3, 10]) (by decide +kernel) (by simp) ?_
            | refine wpAnyH_ready (rs := [3]) (by decide +kernel) (by simp) ?_
            | refine wpAnyH_ready (rs := [3, 9]) (by decide +kernel) (by simp) ?_
            | refine wpAnyH_ready (rs := [1, 10]) (by decide +kernel) (by simp) ?_
            | refine wpAnyH_ready (rs := [1]) (by decide +kernel) (by simp) ?_
            | refine wpAnyH_ready (rs := [1, 9]) (by decide +kernel) (by simp) ?_)
        | ((with_reducible refine gA ?_); first
            | exact AllReadyH.nil
            | (refine AllReadyH.cons (o := _) (by simp only [List.getElem?_toArray, List.getElem?_cons_succ, List.getElem?_cons_zero]; rfl) (fun K hK => ?_) ?_)))
      all_goals
        refine wpAnyH_done (by kernel_rfl) ?_ _
        refine NoPanic.normal ?_
        obtain ⟨rfl⟩ := hQ7
        (go_wp2_with fail)
        go_meet
        exact ⟨g5, g6, _, _, _, _, _, _, _, _, rfl, rfl, rfl, hcur, B5, B6, (Fs.nil _).cons oo5, (Fs.nil _).cons oo6⟩
  case rest =>
    obtain ⟨g5, g6, b5x, b6x, A5x, A6x, n5x, n6x, c5x, c6x, rfl, rfl, rfl, hbx, B5, B6, Fx, Fy⟩ := hcut
    replace F0 := ((F0.below hbx).cons (Fx.out _ (List.mem_cons_self ..))).cons (Fy.out _ (List.mem_cons_self ..))
    replace B2 := B2.below hbx
    replace B3 := B3.below hbx
    replace hbt := bthen hbt hbx
    clear hbx Fx Fy
    (go_wp2_with fail)
    go_cut [8, 9, 10] (fun s8 s9 s10 wx => ∃ (g8 g9 : Nat) (b8 b9 : Bool) (A8 A9 : Option Addr) (n8 n9 c8 c9 : Nat), s8 = .pointer (some ⟨g8, 0, none⟩) ∧ s9 = .pointer (some ⟨g9, 0, none⟩) ∧ s10 = .bool ok ∧ Below wc.heap.size wc wx ∧ Blk wx g8 [.bool b8, .slice A8 n8 c8] 26 ∧ Blk wx g9 [.bool b9, .slice A9 n9 c9] 26 ∧ Fs wx [⟨b8, A8, n8, c8, fq, k1 + k2 + 2, true⟩] ∧ Fs wx [⟨b9, A9, n9, c9, fr, k1 + k2 + 2, true⟩])
    case first =>
      as_aux_lemma =>
        have hcur := (Below.refl wc.heap.size wc).drew
        have F := F0.below hcur
        refine wp_gen2 (fun Q7 hQ7 => ?_)
        refine wp_region_held_drew (S := fun W => Below wc.heap.size wc W) (by kernel_rfl) hcur (fun hHeld => ?_)
        clear hHeld
        repeat' (first
          | ((with_reducible refine gI ?_); first
              | ((with_reducible refine s_dst 27 ?_); go_simp; (with_reducible refine (cF F (by repeat (first | exact m0 | apply m1))).mono ?_); rintro e wn ⟨vn, rfl, ⟨b27, A27, n27, c27, rfl, o, hf⟩, hb⟩; replace F := (F.below hb).cons o; (try have hne27_8 := ner hf B8); (try have hne27_9 := ner hf B9); have hfr27 := ltf hf; clear hf; (try replace B8 := B8.below hb); (try replace B9 := B9.below hb); (try replace hfr29 := lte hfr29 hb); (try replace hfr30 := lte hfr30 hb); (try replace hfr30r := lte hfr30r hb); replace hcur := bthen hcur hb; go_wp2_with fail; refine hK.out _ _ hcur (fun hHeld => ?_); clear hK K hHeld; (try simp only [Act.put, pA, pB, pC, pD, pE, pF]))
              | ((with_reducible refine s_dst 29 ?_); go_simp; (with_reducible refine (cF F (by repeat (first | exact m0 | apply m1))).mono ?_); rintro e wn ⟨vn, rfl, ⟨b29, A29, n29, c29, rfl, o, hf⟩, hb⟩; replace F := (F.below hb).cons o; (try have hne29_8 := ner hf B8); (try have hne29_9 := ner hf B9); have hfr29 := ltf hf; clear hf; (try replace B8 := B8.below hb); (try replace B9 := B9.below hb); (try replace hfr27 := lte hfr27 hb); (try replace hfr30 := lte hfr30 hb); (try replace hfr30r := lte hfr30r hb); replace hcur := bthen hcur hb; go_wp2_with fail; refine hK.out _ _ hcur (fun hHeld => ?_); clear hK K hHeld; (try simp only [Act.put, pA, pB, pC, pD, pE, pF]))
              | ((with_reducible refine s_dst 30 ?_); go_simp; (with_reducible refine (floorF F (by repeat (first | exact m0 | apply m1)) (by repeat (first | exact m0 | apply m1)) HFQ.out (by omega)).mono ?_); rintro e wn ⟨vn, rfl, ⟨qn, rn, rfl, ⟨b30, A30, n30, c30, rfl, o, hf⟩, ⟨b30r, A30r, n30r, c30r, rfl, o2, hf2⟩⟩, hb⟩; replace F := ((F.below hb).cons o).cons o2; (try have hne30_8 := ner hf B8); (try have hne30r_8 := ner hf2 B8); (try have hne30_9 := ner hf B9); (try have hne30r_9 := ner hf2 B9); have hfr30 := ltf hf; have hfr30r := ltf hf2; clear hf hf2; (try replace B8 := B8.below hb); (try replace B9 := B9.below hb); (try replace hfr27 := lte hfr27 hb); (try replace hfr29 := lte hfr29 hb); replace hcur := bthen hcur hb; go_wp2_with fail; refine hK.out _ _ hcur (fun hHeld => ?_); clear hK K hHeld; (try simp only [Act.put, pA, pB, pC, pD, pE, pF]))
              | ((with_reducible refine s_dst 8 ?_); refine st_alloc 8 rfl infoNum (cs := [.bool false, .slice none 0 0]) rfl ?_; intro g8 wn hb B8 hgn; (try have hneb8_9 := nbx B9 hgn); (try have hne27_8 := nal hfr27 hgn); (try have hne29_8 := nal hfr29 hgn); (try have hne30_8 := nal hfr30 hgn); (try have hne30r_8 := nal hfr30r hgn); have hg8 := Nat.le_trans hcur.size hgn; replace F := F.below hb; (try replace B9 := B9.below hb); (try replace hfr27 := lte hfr27 hb); (try replace hfr29 := lte hfr29 hb); (try replace hfr30 := lte hfr30 hb); (try replace hfr30r := lte hfr30r hb); replace hcur := bthen hcur hb; refine hK.out _ _ hcur (fun hHeld => ?_); clear hK K hHeld; (try simp only [Act.put, pA, pB, pC, pD, pE, pF]))
              | ((with_reducible refine s_dst 9 ?_); refine st_alloc 9 rfl infoNum (cs := [.bool false, .slice none 0 0]) rfl ?_; intro g9 wn hb B9 hgn; (try have hneb9_8 := nbx B8 hgn); (try have hne27_9 := nal hfr27 hgn); (try have hne29_9 := nal hfr29 hgn); (try have hne30_9 := nal hfr30 hgn); (try have hne30r_9 := nal hfr30r hgn); have hg9 := Nat.le_trans hcur.size hgn; replace F := F.below hb; (try replace B8 := B8.below hb); (try replace hfr27 := lte hfr27 hb); (try replace hfr29 := lte hfr29 hb); (try replace hfr30 := lte hfr30 hb); (try replace hfr30r := lte hfr30r hb); replace hcur := bthen hcur hb; refine hK.out _ _ hcur (fun hHeld => ?_); clear hK K hHeld; (try simp only [Act.put, pA, pB, pC, pD, pE, pF]))
              | (refine st_store rfl rfl B8 (news := [.bool b30, .slice A30 n30 c30]) (by rfl) infoNum (by simp) (by simp [Value.oneCell']) ?_; intro wn hon Bx; replace B8 := st2 Bx; clear Bx; replace B9 := B9.only hon (by first | exact hneb9_8 | exact (Ne.symm hneb8_9)); have oo8 : NR.Ok _ _ := (F.out _ (show (⟨b30, A30, n30, c30, _, _, _⟩ : NR) ∈ _ from (by repeat (first | exact m0 | apply m1)))).only hon hne30_8; have F1 := F; clear F; have F := F0.below (hcur.trans (hon.below hg8)); replace F := F.cons ((F1.out _ (show (⟨b30r, A30r, n30r, c30r, _, _, _⟩ : NR) ∈ _ from (by repeat (first | exact m0 | apply m1)))).only hon hne30r_8); clear F1; replace hcur := hcur.trans (hon.below hg8); clear hon; refine hK.out _ _ hcur (fun hHeld => ?_); clear hK K hHeld; (try simp only [Act.put, pA, pB, pC, pD, pE, pF]))
              | (refine st_store rfl rfl B9 (news := [.bool b30r, .slice A30r n30r c30r]) (by rfl) infoNum (by simp) (by simp [Value.oneCell']) ?_; intro wn hon Bx; replace B9 := st2 Bx; clear Bx; replace B8 := B8.only hon (by first | exact (Ne.symm hneb9_8) | exact hneb8_9); have oo9 : NR.Ok _ _ := (F.out _ (show (⟨b30r, A30r, n30r, c30r, _, _, _⟩ : NR) ∈ _ from (by repeat (first | exact m0 | apply m1)))).only hon hne30r_9; replace oo8 := oo8.only hon hne30_9; have F1 := F; clear F; have F := F0.below (hcur.trans (hon.below hg9)); clear F1; replace hcur := hcur.trans (hon.below hg9); clear hon; refine hK.out _ _ hcur (fun hHeld => ?_); clear hK K hHeld; (try simp only [Act.put, pA, pB, pC, pD, pE, pF]))
              | ((with_reducible refine s_dst 10 ?_); go_simp; refine hK.out _ _ hcur (fun hHeld => ?_); clear hK K hHeld; (try simp only [Act.put, pA, pB, pC, pD, pE, pF])))
          | ((with_reducible refine gW ?_); first
              | (refine tk (i := 0) (v := .agg #[.bool n1, .slice A1 k1 c1]) rfl (by decide +kernel) (by kernel_rfl) (fun W hSw => by have Cb := (B2.below hSw).cells; (go_simp; (try (with_reducible rfl)))) hcur ?_; (try simp only [Act.put, pA, pB, pC, pD, pE, pF]))
              | (refine tk (i := 2) (v := .agg #[.bool n2, .slice A2 k2 c2]) rfl (by decide +kernel) (by kernel_rfl) (fun W hSw => by have Cb := (B3.below hSw).cells; (go_simp; (try (with_reducible rfl)))) hcur ?_; (try simp only [Act.put, pA, pB, pC, pD, pE, pF]))
              | (refine tk (i := 5) (v := .tuple #[.agg #[.bool b30, .slice A30 n30 c30], .agg #[.bool b30r, .slice A30r n30r c30r], .bool ok]) rfl (by decide +kernel) (by kernel_rfl) (fun W hSw => by (go_simp; (try (with_reducible rfl)))) hcur ?_; (try simp only [Act.put, pA, pB, pC, pD, pE, pF]))
              | (refine tk (i := 6) (v := .agg #[.bool b30, .slice A30 n30 c30]) rfl (by decide +kernel) (by kernel_rfl) (fun W hSw => by (go_simp; (try (with_reducible rfl)))) hcur ?_; (try simp only [Act.put, pA, pB, pC, pD, pE, pF]))
              | (refine tk (i := 7) (v := .agg #[.bool b30r, .slice A30r n30r c30r]) rfl (by decide +kernel) (by kernel_rfl) (fun W hSw => by (go_simp; (try (with_reducible rfl)))) hcur ?_; (try simp only [Act.put, pA, pB, pC, pD, pE, pF]))
              | (refine tk (i := 8) (v := .bool ok) rfl (by decide +kernel) (by kernel_rfl) (fun W hSw => by (go_simp; (try (with_reducible rfl)))) hcur ?_; (try simp only [Act.put, pA, pB, pC, pD, pE, pF]))
              | refine wpAnyH_ready (rs := [1, 9, 10]) (by decide +kernel) (by simp) ?_
              | refine wpAnyH_ready (rs := [3, 9, 10]) (by decide +kernel) (by simp) ?_
              | refine wpAnyH_ready (rs := [4, 9, 10]) (by decide +kernel) (by simp) ?_
              | refine wpAnyH_ready (rs := [9, 10]) (by decide +kernel) (by simp) ?_
              | refine wpAnyH_ready (rs := [10]) (by decide +kernel) (by simp) ?_
              | refine wpAnyH_ready (rs := [11]) (by decide +kernel) (by simp) ?_
              | refine wpAnyH_ready (rs := [12]) (by decide +kernel) (by simp) ?_
              | refine wpAnyH_ready (rs := [13]) (by decide +kernel) (by simp) ?_
              | refine wpAnyH_ready (rs := [9]) (by decide +kernel) (by simp) ?_
              | refine wpAnyH_ready (rs := [4, 10]) (by decide +kernel) (by simp) ?_
              | refine wpAnyH_ready (rs := [4]) (by decide +kernel) (by simp) ?_
              | refine wpAnyH_ready (rs := [4, 9]) (by decide +kernel) (by simp) ?_
              | refine wpAnyH_ready (rs := [3, 10]) (by decide +kernel) (by simp) ?_
              | refine wpAnyH_ready (rs := [3]) (by decide +kernel) (by simp) ?_
              | refine wpAnyH_ready (rs := [3, 9]) (by decide +kernel) (by simp) ?_
              | refine wpAnyH_ready (rs := [1, 10]) (by decide +kernel) (by simp) ?_
              | refine wpAnyH_ready (rs := [1]) (by decide +kernel) (by simp) ?_
              | refine wpAnyH_ready (rs := [1, 9]) (by decide +kernel) (by simp) ?_)
          | ((with_reducible refine gA ?_); first
              | exact AllReadyH.nil
              | (refine AllReadyH.cons (o := _) (by simp only [List.getElem?_toArray, List.getElem?_cons_succ, List.getElem?_cons_zero]; rfl) (fun K hK => ?_) ?_)))
        all_goals
          refine wpAnyH_done (by kernel_rfl) ?_ _
          refine NoPanic.normal ?_
          obtain ⟨rfl⟩ := hQ7
          (go_wp2_with fail)
          go_meet
          exact ⟨g8, g9, _, _, _, _, _, _, _, _, rfl, rfl, rfl, hcur, B8, B9, (Fs.nil _).cons oo8, (Fs.nil _).cons oo9⟩
    case rest =>
      obtain ⟨g8, g9, b8x, b9x, A8x, A9x, n8x, n9x, c8x, c9x, rfl, rfl, rfl, hbx, B8, B9, Fx, Fy⟩ := hcut
      replace F0 := ((F0.below hbx).cons (Fx.out _ (List.mem_cons_self ..))).cons (Fy.out _ (List.mem_cons_self ..))
      replace B2 := B2.below hbx
      replace B3 := B3.below hbx
      replace B5 := B5.below hbx
      replace B6 := B6.below hbx
      replace hbt := bthen hbt hbx
      clear hbx Fx Fy
      go_wp2_with (first
        | (go_at_call 27; (with_reducible refine (ofF (0) (by omega) (by omega)).mono ?_); rintro e wn ⟨vn, rfl, ⟨b11x, A11x, n11x, c11x, rfl, o11, _⟩, hbn⟩; replace F0 := (F0.below hbn).cons o11; replace B2 := B2.below hbn; replace B3 := B3.below hbn; replace B5 := B5.below hbn; replace B6 := B6.below hbn; replace B8 := B8.below hbn; replace B9 := B9.below hbn; replace hbt := bthen hbt hbn; clear o11 hbn)
        | ((with_reducible refine g_dst 11 ?_); go_must (refine ev_alloc 11 rfl infoNum (cs := [.bool false, .slice none 0 0]) rfl ?_); intro g11 wn hb11 B11 hg11)
        | ((with_reducible refine g_store 11 ?_); go_must (refine ev_store rfl rfl B11 (news := [.bool b11x, .slice A11x n11x c11x]) (by rfl) infoNum (by simp) (by simp [Value.oneCell']) ?_); intro wn hon Bn; simp only [List.take_zero, List.nil_append, List.length_cons, List.length_nil, List.drop_succ_cons, List.drop_zero, List.append_nil, List.cons_append] at Bn; have hbn := hb11.trans (hon.below hg11); replace B11 := Bn; clear Bn; replace F0 := F0.below hbn; replace B2 := B2.below hbn; replace B3 := B3.below hbn; replace B5 := B5.below hbn; replace B6 := B6.below hbn; replace B8 := B8.below hbn; replace B9 := B9.below hbn; replace hbt := bthen hbt hbn; clear hb11 hon))
      obtain ⟨wd, rfl⟩ : ∃ wd : World, wd = wn := ⟨_, rfl⟩
      rcases HTQ.out with ⟨h0, hq0, hr0, hk0⟩ | ⟨h0, hq0, hr0, hk0⟩
      · exact absurd h0 (by have := Hsg.out; omega)
      · as_aux_lemma =>
          subst hk0
          rcases HFQ.out with ⟨h1, _⟩ | ⟨_, hfq, hfr, _⟩
          · exact absurd h1 h0
          obtain ⟨m1, m2, m3, m4, m5, m6, m7, m8⟩ := makes_facts z1 z2 zq zr fq fr h0 hq0 hr0 hfq hfr
          clear hq0 hr0 hfq hfr HTQ HFQ
          have HQ : As (cmpZ (zq * z2 + zr) (z1) = 0) := ⟨by rw [cmpZ, if_neg (by omega), if_pos (by omega)]⟩
          have HF : As (cmpZ (fq * z2 + fr) (z1) = 0) := ⟨by rw [cmpZ, if_neg (by omega), if_pos (by omega)]⟩
          have hs := Hsg.out
          clear Hsg
          have HC0 : As (cmpZ (z2) (0) = 1) := ⟨by rw [cmpZ, if_neg (by omega), if_neg (by omega)]⟩
          have Hs := As.mk hs
          have M := As.mk (And.intro m3 (And.intro m4 (And.intro m5 (And.intro m6 (And.intro m7 m8)))))
          clear hs m1 m2 m3 m4 m5 m6 m7 m8 h0
          have hcur := (Below.refl wd.heap.size wd).drew
          have F := F0.below hcur
          refine wp_gen2 (fun Q7 hQ7 => ?_)
          refine wp_region_held_drew (S := fun W => Below wd.heap.size wd W) (by kernel_rfl) hcur (fun hHeld => ?_)
          clear hHeld
          refine tk (i := 0) (v := .agg #[.bool n2, .slice A2 k2 c2]) rfl (by kernel_rfl) (by kernel_rfl) (fun W hSw => by have Cb := (B3.below hSw).cells; (go_simp; (try (with_reducible rfl)))) hcur ?_
          (try simp only [Act.put, pA, pB, pC, pD, pE, pF])
          refine tk (i := 2) (v := .agg #[.bool b11x, .slice A11x n11x c11x]) rfl (by kernel_rfl) (by kernel_rfl) (fun W hSw => by have Cb := (B11.below hSw).cells; (go_simp; (try (with_reducible rfl)))) hcur ?_
          (try simp only [Act.put, pA, pB, pC, pD, pE, pF])
          refine wpAnyH_ready (rs := [1]) (by kernel_rfl) (by simp) ?_
          refine AllReadyH.cons (o := _) rfl (fun K hK => ?_) AllReadyH.nil
          go_simp; (with_reducible refine (cF F (by repeat (first | exact m0 | apply m1))).mono ?_); rintro e wn ⟨vn, rfl, ⟨b36, A36, n36, c36, rfl, o, hf⟩, hb⟩; replace F := (F.below hb).cons o; have hfr36 := ltf hf; clear hf; replace hcur := bthen hcur hb; go_wp2_with fail
          refine hK.out _ _ hcur (fun hHeld => ?_)
          clear hK K hHeld
          (try simp only [Act.put, pA, pB, pC, pD, pE, pF])
          refine wpAnyH_ready (rs := [3]) (by kernel_rfl) (by simp) ?_
          refine AllReadyH.cons (o := _) rfl (fun K hK => ?_) AllReadyH.nil
          go_simp; (with_reducible refine (cmpF F (by repeat (first | exact m0 | apply m1)) (by repeat (first | exact m0 | apply m1)) (by omega) (1) HC0.out).mono ?_); rintro e wn ⟨vn, rfl, rfl, hb⟩; replace F := F.below hb; replace hfr36 := lte hfr36 hb; replace hcur := bthen hcur hb; go_wp2_with fail
          refine hK.out _ _ hcur (fun hHeld => ?_)
          clear hK K hHeld
          (try simp only [Act.put, pA, pB, pC, pD, pE, pF])
          refine tk (i := 4) (v := .bool false) rfl (by kernel_rfl) (by kernel_rfl) (fun W hSw => by (go_simp; (try (with_reducible rfl)))) hcur ?_
          (try simp only [Act.put, pA, pB, pC, pD, pE, pF])
          refine wpAnyH_done (by kernel_rfl) ?_ _
          refine NoPanic.normal ?_
          obtain ⟨rfl⟩ := hQ7
          (go_wp2_with fail)
          replace F0 := F0.below hcur
          replace B2 := B2.below hcur
          replace B3 := B3.below hcur
          replace B5 := B5.below hcur
          replace B6 := B6.below hcur
          replace B8 := B8.below hcur
          replace B9 := B9.below hcur
          replace B11 := B11.below hcur
          replace hbt := bthen hbt hcur
          clear hcur F
          obtain ⟨we, rfl⟩ : ∃ we : World, we = wn := ⟨_, rfl⟩
          have hcur := (Below.refl we.heap.size we).drew
          have F := F0.below hcur
          refine wp_gen2 (fun Q7 hQ7 => ?_)
          refine wp_region_held_drew (S := fun W => Below we.heap.size we W) (by kernel_rfl) hcur (fun hHeld => ?_)
          clear hHeld
          refine tk (i := 0) (v := .bool true) rfl (by kernel_rfl) (by kernel_rfl) (fun W hSw => by (go_simp; (try (with_reducible rfl)))) hcur ?_
          (try simp only [Act.put, pA, pB, pC, pD, pE, pF])
          refine tk (i := 1) (v := .bool false) rfl (by kernel_rfl) (by kernel_rfl) (fun W hSw => by (go_simp; (try (with_reducible rfl)))) hcur ?_
          (try simp only [Act.put, pA, pB, pC, pD, pE, pF])
          refine tk (i := 2) (v := .bool false) rfl (by kernel_rfl) (by kernel_rfl) (fun W hSw => by (go_simp; (try (with_reducible rfl)))) hcur ?_
          (try simp only [Act.put, pA, pB, pC, pD, pE, pF])
          refine tk (i := 3) (v := .bool true) rfl (by kernel_rfl) (by kernel_rfl) (fun W hSw => by (go_simp; (try (with_reducible rfl)))) hcur ?_
          (try simp only [Act.put, pA, pB, pC, pD, pE, pF])
          refine tk (i := 4) (v := .bool false) rfl (by kernel_rfl) (by kernel_rfl) (fun W hSw => by (go_simp; (try (with_reducible rfl)))) hcur ?_
          (try simp only [Act.put, pA, pB, pC, pD, pE, pF])
          refine tk (i := 5) (v := .bool false) rfl (by kernel_rfl) (by kernel_rfl) (fun W hSw => by (go_simp; (try (with_reducible rfl)))) hcur ?_
          (try simp only [Act.put, pA, pB, pC, pD, pE, pF])
          refine tk (i := 6) (v := .bool false) rfl (by kernel_rfl) (by kernel_rfl) (fun W hSw => by (go_simp; (try (with_reducible rfl)))) hcur ?_
          (try simp only [Act.put, pA, pB, pC, pD, pE, pF])
          refine tk (i := 7) (v := .agg #[.bool b5x, .slice A5x n5x c5x]) rfl (by kernel_rfl) (by kernel_rfl) (fun W hSw => by have Cb := (B5.below hSw).cells; (go_simp; (try (with_reducible rfl)))) hcur ?_
          (try simp only [Act.put, pA, pB, pC, pD, pE, pF])
          refine tk (i := 8) (v := .agg #[.bool n2, .slice A2 k2 c2]) rfl (by kernel_rfl) (by kernel_rfl) (fun W hSw => by have Cb := (B3.below hSw).cells; (go_simp; (try (with_reducible rfl)))) hcur ?_
          (try simp only [Act.put, pA, pB, pC, pD, pE, pF])
          refine tk (i := 12) (v := .agg #[.bool b6x, .slice A6x n6x c6x]) rfl (by kernel_rfl) (by kernel_rfl) (fun W hSw => by have Cb := (B6.below hSw).cells; (go_simp; (try (with_reducible rfl)))) hcur ?_
          (try simp only [Act.put, pA, pB, pC, pD, pE, pF])
          refine tk (i := 15) (v := .agg #[.bool n1, .slice A1 k1 c1]) rfl (by kernel_rfl) (by kernel_rfl) (fun W hSw => by have Cb := (B2.below hSw).cells; (go_simp; (try (with_reducible rfl)))) hcur ?_
          (try simp only [Act.put, pA, pB, pC, pD, pE, pF])
          refine wpAnyH_ready (rs := [9]) (by kernel_rfl) (by simp) ?_
          refine AllReadyH.cons (o := _) rfl (fun K hK => ?_) AllReadyH.nil
          go_simp; (with_reducible refine (cF F (by repeat (first | exact m0 | apply m1))).mono ?_); rintro e wn ⟨vn, rfl, ⟨b58, A58, n58, c58, rfl, o, hf⟩, hb⟩; replace F := (F.below hb).cons o; have hfr58 := ltf hf; clear hf; replace hcur := bthen hcur hb; go_wp2_with fail
          refine hK.out _ _ hcur (fun hHeld => ?_)
          clear hK K hHeld
          (try simp only [Act.put, pA, pB, pC, pD, pE, pF])
          refine wpAnyH_ready (rs := [10]) (by kernel_rfl) (by simp) ?_
          refine AllReadyH.cons (o := _) rfl (fun K hK => ?_) AllReadyH.nil
          refine st_lit (v := fun g => .slice (some ⟨g, 0, none⟩) 2 2) 59 rfl (cs := [.bool b5x, .slice A5x n5x c5x, .bool b58, .slice A58 n58 c58]) (t := 26) (by go_simp; try kernel_rfl) ?_; intro g59 wn hb Bl59 hg59; replace F := F.below hb; replace hfr58 := lte hfr58 hb; replace hcur := bthen hcur hb
          refine hK.out _ _ hcur (fun hHeld => ?_)
          clear hK K hHeld
          (try simp only [Act.put, pA, pB, pC, pD, pE, pF])
          refine wpAnyH_ready (rs := [11]) (by kernel_rfl) (by simp) ?_
          refine AllReadyH.cons (o := _) rfl (fun K hK => ?_) AllReadyH.nil
          go_simp; (with_reducible refine (mulF F Bl59 (by repeat (first | exact m0 | apply m1)) (by repeat (first | exact m0 | apply m1)) (by omega)).mono ?_); rintro e wn ⟨vn, rfl, ⟨b60, A60, n60, c60, rfl, o, hf⟩, hb⟩; replace F := (F.below hb).cons o; have hfr60 := ltf hf; clear hf; replace Bl59 := Bl59.below hb; replace hfr58 := lte hfr58 hb; replace hcur := bthen hcur hb; go_wp2_with fail
          refine hK.out _ _ hcur (fun hHeld => ?_)
          clear hK K hHeld
          (try simp only [Act.put, pA, pB, pC, pD, pE, pF])
          refine wpAnyH_ready (rs := [13]) (by kernel_rfl) (by simp) ?_
          refine AllReadyH.cons (o := _) rfl (fun K hK => ?_) AllReadyH.nil
          refine st_lit (v := fun g => .slice (some ⟨g, 0, none⟩) 2 2) 62 rfl (cs := [.bool b60, .slice A60 n60 c60, .bool b6x, .slice A6x n6x c6x]) (t := 26) (by go_simp; try kernel_rfl) ?_; intro g62 wn hb Bl62 hg62; replace F := F.below hb; replace hfr58 := lte hfr58 hb; replace hfr60 := lte hfr60 hb; replace hcur := bthen hcur hb
          refine hK.out _ _ hcur (fun hHeld => ?_)
          clear hK K hHeld
          (try simp only [Act.put, pA, pB, pC, pD, pE, pF])
          refine wpAnyH_ready (rs := [14]) (by kernel_rfl) (by simp) ?_
          refine AllReadyH.cons (o := _) rfl (fun K hK => ?_) AllReadyH.nil
          go_simp; (with_reducible refine (addF F Bl62 (by repeat (first | exact m0 | apply m1)) (by repeat (first | exact m0 | apply m1)) (by omega)).mono ?_); rintro e wn ⟨vn, rfl, ⟨b63, A63, n63, c63, rfl, o, hf⟩, hb⟩; replace F := (F.below hb).cons o; have hfr63 := ltf hf; clear hf; replace Bl62 := Bl62.below hb; replace hfr58 := lte hfr58 hb; replace hfr60 := lte hfr60 hb; replace hcur := bthen hcur hb; go_wp2_with fail
          refine hK.out _ _ hcur (fun hHeld => ?_)
          clear hK K hHeld
          (try simp only [Act.put, pA, pB, pC, pD, pE, pF])
          refine wpAnyH_ready (rs := [16]) (by kernel_rfl) (by simp) ?_
          refine AllReadyH.cons (o := _) rfl (fun K hK => ?_) AllReadyH.nil
          go_simp; (with_reducible refine (cF F (by repeat (first | exact m0 | apply m1))).mono ?_); rintro e wn ⟨vn, rfl, ⟨b65, A65, n65, c65, rfl, o, hf⟩, hb⟩; replace F := (F.below hb).cons o; have hfr65 := ltf hf; clear hf; replace hfr58 := lte hfr58 hb; replace hfr60 := lte hfr60 hb; replace hfr63 := lte hfr63 hb; replace hcur := bthen hcur hb; go_wp2_with fail
          refine hK.out _ _ hcur (fun hHeld => ?_)
          clear hK K hHeld
          (try simp only [Act.put, pA, pB, pC, pD, pE, pF])
          refine wpAnyH_ready (rs := [17]) (by kernel_rfl) (by simp) ?_
          refine AllReadyH.cons (o := _) rfl (fun K hK => ?_) AllReadyH.nil
          go_simp; (with_reducible refine (cmpF F (by repeat (first | exact m0 | apply m1)) (by repeat (first | exact m0 | apply m1)) (by omega) (0) HQ.out).mono ?_); rintro e wn ⟨vn, rfl, rfl, hb⟩; replace F := F.below hb; replace hfr58 := lte hfr58 hb; replace hfr60 := lte hfr60 hb; replace hfr63 := lte hfr63 hb; replace hfr65 := lte hfr65 hb; replace hcur := bthen hcur hb; go_wp2_with fail
          refine hK.out _ _ hcur (fun hHeld => ?_)
          clear hK K hHeld
          (try simp only [Act.put, pA, pB, pC, pD, pE, pF])
          refine tk (i := 18) (v := .bool false) rfl (by kernel_rfl) (by kernel_rfl) (fun W hSw => by (go_simp; (try (with_reducible rfl)))) hcur ?_
          (try simp only [Act.put, pA, pB, pC, pD, pE, pF])
          refine tk (i := 19) (v := .bool false) rfl (by kernel_rfl) (by kernel_rfl) (fun W hSw => by (go_simp; (try (with_reducible rfl)))) hcur ?_
          (try simp only [Act.put, pA, pB, pC, pD, pE, pF])
          refine tk (i := 20) (v := .bool false) rfl (by kernel_rfl) (by kernel_rfl) (fun W hSw => by (go_simp; (try (with_reducible rfl)))) hcur ?_
          (try simp only [Act.put, pA, pB, pC, pD, pE, pF])
          refine tk (i := 21) (v := .agg #[.bool b8x, .slice A8x n8x c8x]) rfl (by kernel_rfl) (by kernel_rfl) (fun W hSw => by have Cb := (B8.below hSw).cells; (go_simp; (try (with_reducible rfl)))) hcur ?_
          (try simp only [Act.put, pA, pB, pC, pD, pE, pF])
          refine tk (i := 22) (v := .agg #[.bool n2, .slice A2 k2 c2]) rfl (by kernel_rfl) (by kernel_rfl) (fun W hSw => by have Cb := (B3.below hSw).cells; (go_simp; (try (with_reducible rfl)))) hcur ?_
          (try simp only [Act.put, pA, pB, pC, pD, pE, pF])
          refine tk (i := 26) (v := .agg #[.bool b9x, .slice A9x n9x c9x]) rfl (by kernel_rfl) (by kernel_rfl) (fun W hSw => by have Cb := (B9.below hSw).cells; (go_simp; (try (with_reducible rfl)))) hcur ?_
          (try simp only [Act.put, pA, pB, pC, pD, pE, pF])
          refine tk (i := 29) (v := .agg #[.bool n1, .slice A1 k1 c1]) rfl (by kernel_rfl) (by kernel_rfl) (fun W hSw => by have Cb := (B2.below hSw).cells; (go_simp; (try (with_reducible rfl)))) hcur ?_
          (try simp only [Act.put, pA, pB, pC, pD, pE, pF])
          refine wpAnyH_ready (rs := [23]) (by kernel_rfl) (by simp) ?_
          refine AllReadyH.cons (o := _) rfl (fun K hK => ?_) AllReadyH.nil
          go_simp; (with_reducible refine (cF F (by repeat (first | exact m0 | apply m1))).mono ?_); rintro e wn ⟨vn, rfl, ⟨b72, A72, n72, c72, rfl, o, hf⟩, hb⟩; replace F := (F.below hb).cons o; have hfr72 := ltf hf; clear hf; replace hfr58 := lte hfr58 hb; replace hfr60 := lte hfr60 hb; replace hfr63 := lte hfr63 hb; replace hfr65 := lte hfr65 hb; replace hcur := bthen hcur hb; go_wp2_with fail
          refine hK.out _ _ hcur (fun hHeld => ?_)
          clear hK K hHeld
          (try simp only [Act.put, pA, pB, pC, pD, pE, pF])
          refine wpAnyH_ready (rs := [24]) (by kernel_rfl) (by simp) ?_
          refine AllReadyH.cons (o := _) rfl (fun K hK => ?_) AllReadyH.nil
          refine st_lit (v := fun g => .slice (some ⟨g, 0, none⟩) 2 2) 73 rfl (cs := [.bool b8x, .slice A8x n8x c8x, .bool b72, .slice A72 n72 c72]) (t := 26) (by go_simp; try kernel_rfl) ?_; intro g73 wn hb Bl73 hg73; replace F := F.below hb; replace hfr58 := lte hfr58 hb; replace hfr60 := lte hfr60 hb; replace hfr63 := lte hfr63 hb; replace hfr65 := lte hfr65 hb; replace hfr72 := lte hfr72 hb; replace hcur := bthen hcur hb
          refine hK.out _ _ hcur (fun hHeld => ?_)
          clear hK K hHeld
          (try simp only [Act.put, pA, pB, pC, pD, pE, pF])
          refine wpAnyH_ready (rs := [25]) (by kernel_rfl) (by simp) ?_
          refine AllReadyH.cons (o := _) rfl (fun K hK => ?_) AllReadyH.nil
          go_simp; (with_reducible refine (mulF F Bl73 (by repeat (first | exact m0 | apply m1)) (by repeat (first | exact m0 | apply m1)) (by omega)).mono ?_); rintro e wn ⟨vn, rfl, ⟨b74, A74, n74, c74, rfl, o, hf⟩, hb⟩; replace F := (F.below hb).cons o; have hfr74 := ltf hf; clear hf; replace Bl73 := Bl73.below hb; replace hfr58 := lte hfr58 hb; replace hfr60 := lte hfr60 hb; replace hfr63 := lte hfr63 hb; replace hfr65 := lte hfr65 hb; replace hfr72 := lte hfr72 hb; replace hcur := bthen hcur hb; go_wp2_with fail
          refine hK.out _ _ hcur (fun hHeld => ?_)
          clear hK K hHeld
          (try simp only [Act.put, pA, pB, pC, pD, pE, pF])
          refine wpAnyH_ready (rs := [27]) (by kernel_rfl) (by simp) ?_
          refine AllReadyH.cons (o := _) rfl (fun K hK => ?_) AllReadyH.nil
          refine st_lit (v := fun g => .slice (some ⟨g, 0, none⟩) 2 2) 76 rfl (cs := [.bool b74, .slice A74 n74 c74, .bool b9x, .slice A9x n9x c9x]) (t := 26) (by go_simp; try kernel_rfl) ?_; intro g76 wn hb Bl76 hg76; replace F := F.below hb; replace hfr58 := lte hfr58 hb; replace hfr60 := lte hfr60 hb; replace hfr63 := lte hfr63 hb; replace hfr65 := lte hfr65 hb; replace hfr72 := lte hfr72 hb; replace hfr74 := lte hfr74 hb; replace hcur := bthen hcur hb
          refine hK.out _ _ hcur (fun hHeld => ?_)
          clear hK K hHeld
          (try simp only [Act.put, pA, pB, pC, pD, pE, pF])
          refine wpAnyH_ready (rs := [28]) (by kernel_rfl) (by simp) ?_
          refine AllReadyH.cons (o := _) rfl (fun K hK => ?_) AllReadyH.nil
          go_simp; (with_reducible refine (addF F Bl76 (by repeat (first | exact m0 | apply m1)) (by repeat (first | exact m0 | apply m1)) (by omega)).mono ?_); rintro e wn ⟨vn, rfl, ⟨b77, A77, n77, c77, rfl, o, hf⟩, hb⟩; replace F := (F.below hb).cons o; have hfr77 := ltf hf; clear hf; replace Bl76 := Bl76.below hb; replace hfr58 := lte hfr58 hb; replace hfr60 := lte hfr60 hb; replace hfr63 := lte hfr63 hb; replace hfr65 := lte hfr65 hb; replace hfr72 := lte hfr72 hb; replace hfr74 := lte hfr74 hb; replace hcur := bthen hcur hb; go_wp2_with fail
          refine hK.out _ _ hcur (fun hHeld => ?_)
          clear hK K hHeld
          (try simp only [Act.put, pA, pB, pC, pD, pE, pF])
          refine wpAnyH_ready (rs := [30]) (by kernel_rfl) (by simp) ?_
          refine AllReadyH.cons (o := _) rfl (fun K hK => ?_) AllReadyH.nil
          go_simp; (with_reducible refine (cF F (by repeat (first | exact m0 | apply m1))).mono ?_); rintro e wn ⟨vn, rfl, ⟨b79, A79, n79, c79, rfl, o, hf⟩, hb⟩; replace F := (F.below hb).cons o; have hfr79 := ltf hf; clear hf; replace hfr58 := lte hfr58 hb; replace hfr60 := lte hfr60 hb; replace hfr63 := lte hfr63 hb; replace hfr65 := lte hfr65 hb; replace hfr72 := lte hfr72 hb; replace hfr74 := lte hfr74 hb; replace hfr77 := lte hfr77 hb; replace hcur := bthen hcur hb; go_wp2_with fail
          refine hK.out _ _ hcur (fun hHeld => ?_)
          clear hK K hHeld
          (try simp only [Act.put, pA, pB, pC, pD, pE, pF])
          refine wpAnyH_ready (rs := [31]) (by kernel_rfl) (by simp) ?_
          refine AllReadyH.cons (o := _) rfl (fun K hK => ?_) AllReadyH.nil
          go_simp; (with_reducible refine (cmpF F (by repeat (first | exact m0 | apply m1)) (by repeat (first | exact m0 | apply m1)) (by omega) (0) HF.out).mono ?_); rintro e wn ⟨vn, rfl, rfl, hb⟩; replace F := F.below hb; replace hfr58 := lte hfr58 hb; replace hfr60 := lte hfr60 hb; replace hfr63 := lte hfr63 hb; replace hfr65 := lte hfr65 hb; replace hfr72 := lte hfr72 hb; replace hfr74 := lte hfr74 hb; replace hfr77 := lte hfr77 hb; replace hfr79 := lte hfr79 hb; replace hcur := bthen hcur hb; go_wp2_with fail
          refine hK.out _ _ hcur (fun hHeld => ?_)
          clear hK K hHeld
          (try simp only [Act.put, pA, pB, pC, pD, pE, pF])
          refine tk (i := 32) (v := .bool false) rfl (by kernel_rfl) (by kernel_rfl) (fun W hSw => by (go_simp; (try (with_reducible rfl)))) hcur ?_
          (try simp only [Act.put, pA, pB, pC, pD, pE, pF])
          refine tk (i := 33) (v := .bool false) rfl (by kernel_rfl) (by kernel_rfl) (fun W hSw => by (go_simp; (try (with_reducible rfl)))) hcur ?_
          (try simp only [Act.put, pA, pB, pC, pD, pE, pF])
          refine wpAnyH_done (by kernel_rfl) ?_ _
          refine NoPanic.normal ?_
          obtain ⟨rfl⟩ := hQ7
          (go_wp2_with fail)
          replace F0 := F0.below hcur
          replace B2 := B2.below hcur
          replace B3 := B3.below hcur
          replace B5 := B5.below hcur
          replace B6 := B6.below hcur
          replace B8 := B8.below hcur
          replace B9 := B9.below hcur
          replace B11 := B11.below hcur
          replace hbt := bthen hbt hcur
          clear hcur F
          obtain ⟨we, rfl⟩ : ∃ we : World, we = wn := ⟨_, rfl⟩
          have hcur := (Below.refl we.heap.size we).drew
          have F := F0.below hcur
          refine wp_gen2 (fun Q7 hQ7 => ?_)
          refine wp_region_held_drew (S := fun W => Below we.heap.size we W) (by kernel_rfl) hcur (fun hHeld => ?_)
          clear hHeld
          refine tk (i := 0) (v := .agg #[.bool n2, .slice A2 k2 c2]) rfl (by kernel_rfl) (by kernel_rfl) (fun W hSw => by have Cb := (B3.below hSw).cells; (go_simp; (try (with_reducible rfl)))) hcur ?_
          (try simp only [Act.put, pA, pB, pC, pD, pE, pF])
          refine tk (i := 2) (v := .agg #[.bool b11x, .slice A11x n11x c11x]) rfl (by kernel_rfl) (by kernel_rfl) (fun W hSw => by have Cb := (B11.below hSw).cells; (go_simp; (try (with_reducible rfl)))) hcur ?_
          (try simp only [Act.put, pA, pB, pC, pD, pE, pF])
          refine wpAnyH_ready (rs := [1]) (by kernel_rfl) (by simp) ?_
          refine AllReadyH.cons (o := _) rfl (fun K hK => ?_) AllReadyH.nil
          go_simp; (with_reducible refine (cF F (by repeat (first | exact m0 | apply m1))).mono ?_); rintro e wn ⟨vn, rfl, ⟨b84, A84, n84, c84, rfl, o, hf⟩, hb⟩; replace F := (F.below hb).cons o; have hfr84 := ltf hf; clear hf; replace hcur := bthen hcur hb; go_wp2_with fail
          refine hK.out _ _ hcur (fun hHeld => ?_)
          clear hK K hHeld
          (try simp only [Act.put, pA, pB, pC, pD, pE, pF])
          refine wpAnyH_ready (rs := [3]) (by kernel_rfl) (by simp) ?_
          refine AllReadyH.cons (o := _) rfl (fun K hK => ?_) AllReadyH.nil
          go_simp; (with_reducible refine (cmpF F (by repeat (first | exact m0 | apply m1)) (by repeat (first | exact m0 | apply m1)) (by omega) (1) HC0.out).mono ?_); rintro e wn ⟨vn, rfl, rfl, hb⟩; replace F := F.below hb; replace hfr84 := lte hfr84 hb; replace hcur := bthen hcur hb; go_wp2_with fail
          refine hK.out _ _ hcur (fun hHeld => ?_)
          clear hK K hHeld
          (try simp only [Act.put, pA, pB, pC, pD, pE, pF])
          refine tk (i := 4) (v := .bool false) rfl (by kernel_rfl) (by kernel_rfl) (fun W hSw => by (go_simp; (try (with_reducible rfl)))) hcur ?_
          (try simp only [Act.put, pA, pB, pC, pD, pE, pF])
          refine wpAnyH_ready (rs := [5]) (by kernel_rfl) (by simp) ?_
          refine AllReadyH.cons (o := _) rfl (fun K hK => ?_) AllReadyH.nil
          go_simp
          refine hK.out _ _ hcur (fun hHeld => ?_)
          clear hK K hHeld
          (try simp only [Act.put, pA, pB, pC, pD, pE, pF])
          refine wpAnyH_done (by kernel_rfl) ?_ _
          refine NoPanic.normal ?_
          obtain ⟨rfl⟩ := hQ7
          replace F0 := F0.below hcur
          replace B2 := B2.below hcur
          replace B3 := B3.below hcur
          replace B5 := B5.below hcur
          replace B6 := B6.below hcur
          replace B8 := B8.below hcur
          replace B9 := B9.below hcur
          replace B11 := B11.below hcur
          replace hbt := bthen hbt hcur
          clear hcur F
          obtain ⟨we, rfl⟩ : ∃ we : World, we = wn := ⟨_, rfl⟩
          have C3 := B3.cells
          go_wp2_with (first
            | (go_at_call 21; (with_reducible refine (cF F0 (by repeat (first | exact m0 | apply m1))).mono ?_); rintro e wn ⟨vn, rfl, ⟨b13x, A13x, n13x, c13x, rfl, o13, _⟩, hbn⟩; clear C3; replace F0 := (F0.below hbn).cons o13; replace B2 := B2.below hbn; replace B3 := B3.below hbn; replace B5 := B5.below hbn; replace B6 := B6.below hbn; replace B8 := B8.below hbn; replace B9 := B9.below hbn; replace B11 := B11.below hbn; replace hbt := bthen hbt hbn; clear o13 hbn)
            | ((with_reducible refine g_dst 13 ?_); go_must (refine ev_alloc 13 rfl infoNum (cs := [.bool false, .slice none 0 0]) rfl ?_); intro g13 wn hb13 B13 hg13)
            | ((with_reducible refine g_store 13 ?_); go_must (refine ev_store rfl rfl B13 (news := [.bool b13x, .slice A13x n13x c13x]) (by rfl) infoNum (by simp) (by simp [Value.oneCell']) ?_); intro wn hon Bn; simp only [List.take_zero, List.nil_append, List.length_cons, List.length_nil, List.drop_succ_cons, List.drop_zero, List.append_nil, List.cons_append] at Bn; have hbz := hb13.trans (hon.below hg13); replace B13 := Bn; clear Bn hb13 hon))
          replace F0 := F0.below hbz
          replace B2 := B2.below hbz
          replace B3 := B3.below hbz
          replace B5 := B5.below hbz
          replace B6 := B6.below hbz
          replace B8 := B8.below hbz
          replace B9 := B9.below hbz
          replace B11 := B11.below hbz
          replace hbt := bthen hbt hbz
          clear hbz
          obtain ⟨we, rfl⟩ : ∃ we : World, we = wn := ⟨_, rfl⟩
          obtain ⟨m3, m4, m5, m6, m7, m8⟩ := M.out
          have hs := Hs.out
          have HA : As (cmpZ (zr) (z2) = -1) := ⟨by rw [cmpZ, if_pos (by omega)]⟩
          have HB : As (cmpZ (-zr) (z2) = -1) := ⟨by rw [cmpZ, if_pos (by omega)]⟩
          have HC : As (cmpZ (fr) (z2) = -1) := ⟨by rw [cmpZ, if_pos (by omega)]⟩
          have HD : As (cmpZ (-fr) (z2) = -1) := ⟨by rw [cmpZ, if_pos (by omega)]⟩
          clear hs m3 m4 m5 m6 m7 m8
          have hcur := (Below.refl we.heap.size we).drew
          have F := F0.below hcur
          refine wp_gen2 (fun Q7 hQ7 => ?_)
          refine wp_region_held_drew (S := fun W => Below we.heap.size we W) (by kernel_rfl) hcur (fun hHeld => ?_)
          clear hHeld
          refine tk (i := 0) (v := .agg #[.bool b6x, .slice A6x n6x c6x]) rfl (by kernel_rfl) (by kernel_rfl) (fun W hSw => by have Cb := (B6.below hSw).cells; (go_simp; (try (with_reducible rfl)))) hcur ?_
          (try simp only [Act.put, pA, pB, pC, pD, pE, pF])
          refine tk (i := 1) (v := .agg #[.bool b13x, .slice A13x n13x c13x]) rfl (by kernel_rfl) (by kernel_rfl) (fun W hSw => by have Cb := (B13.below hSw).cells; (go_simp; (try (with_reducible rfl)))) hcur ?_
          (try simp only [Act.put, pA, pB, pC, pD, pE, pF])
          refine wpAnyH_ready (rs := [2]) (by kernel_rfl) (by simp) ?_
          refine AllReadyH.cons (o := _) rfl (fun K hK => ?_) AllReadyH.nil
          go_simp; (with_reducible refine (cmpF F (by repeat (first | exact m0 | apply m1)) (by repeat (first | exact m0 | apply m1)) (by omega) (-1) HA.out).mono ?_); rintro e wn ⟨vn, rfl, rfl, hb⟩; replace F := F.below hb; replace hcur := bthen hcur hb; go_wp2_with fail
          refine hK.out _ _ hcur (fun hHeld => ?_)
          clear hK K hHeld
          (try simp only [Act.put, pA, pB, pC, pD, pE, pF])
          refine tk (i := 3) (v := .bool true) rfl (by kernel_rfl) (by kernel_rfl) (fun W hSw => by (go_simp; (try (with_reducible rfl)))) hcur ?_
          (try simp only [Act.put, pA, pB, pC, pD, pE, pF])
          refine tk (i := 4) (v := .bool true) rfl (by kernel_rfl) (by kernel_rfl) (fun W hSw => by (go_simp; (try (with_reducible rfl)))) hcur ?_
          (try simp only [Act.put, pA, pB, pC, pD, pE, pF])
          refine tk (i := 5) (v := .agg #[.bool b6x, .slice A6x n6x c6x]) rfl (by kernel_rfl) (by kernel_rfl) (fun W hSw => by have Cb := (B6.below hSw).cells; (go_simp; (try (with_reducible rfl)))) hcur ?_
          (try simp only [Act.put, pA, pB, pC, pD, pE, pF])
          refine tk (i := 7) (v := .agg #[.bool b13x, .slice A13x n13x c13x]) rfl (by kernel_rfl) (by kernel_rfl) (fun W hSw => by have Cb := (B13.below hSw).cells; (go_simp; (try (with_reducible rfl)))) hcur ?_
          (try simp only [Act.put, pA, pB, pC, pD, pE, pF])
          refine wpAnyH_ready (rs := [6]) (by kernel_rfl) (by simp) ?_
          refine AllReadyH.cons (o := _) rfl (fun K hK => ?_) AllReadyH.nil
          go_simp; (with_reducible refine (negF F (by repeat (first | exact m0 | apply m1)) (by omega)).mono ?_); rintro e wn ⟨vn, rfl, ⟨b99, A99, n99, c99, rfl, o, hf⟩, hb⟩; replace F := (F.below hb).cons o; have hfr99 := ltf hf; clear hf; replace hcur := bthen hcur hb; go_wp2_with fail
          refine hK.out _ _ hcur (fun hHeld => ?_)
          clear hK K hHeld
          (try simp only [Act.put, pA, pB, pC, pD, pE, pF])
          refine wpAnyH_ready (rs := [8]) (by kernel_rfl) (by simp) ?_
          refine AllReadyH.cons (o := _) rfl (fun K hK => ?_) AllReadyH.nil
          go_simp; (with_reducible refine (cmpF F (by repeat (first | exact m0 | apply m1)) (by repeat (first | exact m0 | apply m1)) (by omega) (-1) HB.out).mono ?_); rintro e wn ⟨vn, rfl, rfl, hb⟩; replace F := F.below hb; replace hfr99 := lte hfr99 hb; replace hcur := bthen hcur hb; go_wp2_with fail
          refine hK.out _ _ hcur (fun hHeld => ?_)
          clear hK K hHeld
          (try simp only [Act.put, pA, pB, pC, pD, pE, pF])
          refine tk (i := 9) (v := .bool true) rfl (by kernel_rfl) (by kernel_rfl) (fun W hSw => by (go_simp; (try (with_reducible rfl)))) hcur ?_
          (try simp only [Act.put, pA, pB, pC, pD, pE, pF])
          refine tk (i := 10) (v := .bool true) rfl (by kernel_rfl) (by kernel_rfl) (fun W hSw => by (go_simp; (try (with_reducible rfl)))) hcur ?_
          (try simp only [Act.put, pA, pB, pC, pD, pE, pF])
          refine tk (i := 11) (v := .bool true) rfl (by kernel_rfl) (by kernel_rfl) (fun W hSw => by (go_simp; (try (with_reducible rfl)))) hcur ?_
          (try simp only [Act.put, pA, pB, pC, pD, pE, pF])
          refine tk (i := 12) (v := .agg #[.bool b9x, .slice A9x n9x c9x]) rfl (by kernel_rfl) (by kernel_rfl) (fun W hSw => by have Cb := (B9.below hSw).cells; (go_simp; (try (with_reducible rfl)))) hcur ?_
          (try simp only [Act.put, pA, pB, pC, pD, pE, pF])
          refine tk (i := 13) (v := .agg #[.bool b13x, .slice A13x n13x c13x]) rfl (by kernel_rfl) (by kernel_rfl) (fun W hSw => by have Cb := (B13.below hSw).cells; (go_simp; (try (with_reducible rfl)))) hcur ?_
          (try simp only [Act.put, pA, pB, pC, pD, pE, pF])
          refine wpAnyH_ready (rs := [14]) (by kernel_rfl) (by simp) ?_
          refine AllReadyH.cons (o := _) rfl (fun K hK => ?_) AllReadyH.nil
          go_simp; (with_reducible refine (cmpF F (by repeat (first | exact m0 | apply m1)) (by repeat (first | exact m0 | apply m1)) (by omega) (-1) HC.out).mono ?_); rintro e wn ⟨vn, rfl, rfl, hb⟩; replace F := F.below hb; replace hfr99 := lte hfr99 hb; replace hcur := bthen hcur hb; go_wp2_with fail
          refine hK.out _ _ hcur (fun hHeld => ?_)
          clear hK K hHeld
          (try simp only [Act.put, pA, pB, pC, pD, pE, pF])
          refine tk (i := 15) (v := .bool true) rfl (by kernel_rfl) (by kernel_rfl) (fun W hSw => by (go_simp; (try (with_reducible rfl)))) hcur ?_
          (try simp only [Act.put, pA, pB, pC, pD, pE, pF])
          refine tk (i := 16) (v := .bool true) rfl (by kernel_rfl) (by kernel_rfl) (fun W hSw => by (go_simp; (try (with_reducible rfl)))) hcur ?_
          (try simp only [Act.put, pA, pB, pC, pD, pE, pF])
          refine tk (i := 17) (v := .bool true) rfl (by kernel_rfl) (by kernel_rfl) (fun W hSw => by (go_simp; (try (with_reducible rfl)))) hcur ?_
          (try simp only [Act.put, pA, pB, pC, pD, pE, pF])
          refine tk (i := 18) (v := .agg #[.bool b9x, .slice A9x n9x c9x]) rfl (by kernel_rfl) (by kernel_rfl) (fun W hSw => by have Cb := (B9.below hSw).cells; (go_simp; (try (with_reducible rfl)))) hcur ?_
          (try simp only [Act.put, pA, pB, pC, pD, pE, pF])
          refine tk (i := 20) (v := .agg #[.bool b13x, .slice A13x n13x c13x]) rfl (by kernel_rfl) (by kernel_rfl) (fun W hSw => by have Cb := (B13.below hSw).cells; (go_simp; (try (with_reducible rfl)))) hcur ?_
          (try simp only [Act.put, pA, pB, pC, pD, pE, pF])
          refine wpAnyH_ready (rs := [19]) (by kernel_rfl) (by simp) ?_
          refine AllReadyH.cons (o := _) rfl (fun K hK => ?_) AllReadyH.nil
          go_simp; (with_reducible refine (negF F (by repeat (first | exact m0 | apply m1)) (by omega)).mono ?_); rintro e wn ⟨vn, rfl, ⟨b112, A112, n112, c112, rfl, o, hf⟩, hb⟩; replace F := (F.below hb).cons o; have hfr112 := ltf hf; clear hf; replace hfr99 := lte hfr99 hb; replace hcur := bthen hcur hb; go_wp2_with fail
          refine hK.out _ _ hcur (fun hHeld => ?_)
          clear hK K hHeld
          (try simp only [Act.put, pA, pB, pC, pD, pE, pF])
          refine wpAnyH_ready (rs := [21]) (by kernel_rfl) (by simp) ?_
          refine AllReadyH.cons (o := _) rfl (fun K hK => ?_) AllReadyH.nil
          go_simp; (with_reducible refine (cmpF F (by repeat (first | exact m0 | apply m1)) (by repeat (first | exact m0 | apply m1)) (by omega) (-1) HD.out).mono ?_); rintro e wn ⟨vn, rfl, rfl, hb⟩; replace F := F.below hb; replace hfr99 := lte hfr99 hb; replace hfr112 := lte hfr112 hb; replace hcur := bthen hcur hb; go_wp2_with fail
          refine hK.out _ _ hcur (fun hHeld => ?_)
          clear hK K hHeld
          (try simp only [Act.put, pA, pB, pC, pD, pE, pF])
          refine tk (i := 22) (v := .bool true) rfl (by kernel_rfl) (by kernel_rfl) (fun W hSw => by (go_simp; (try (with_reducible rfl)))) hcur ?_
          (try simp only [Act.put, pA, pB, pC, pD, pE, pF])
          refine tk (i := 23) (v := .bool true) rfl (by kernel_rfl) (by kernel_rfl) (fun W hSw => by (go_simp; (try (with_reducible rfl)))) hcur ?_
          (try simp only [Act.put, pA, pB, pC, pD, pE, pF])
          refine wpAnyH_ready (rs := [24]) (by kernel_rfl) (by simp) ?_
          refine AllReadyH.cons (o := _) rfl (fun K hK => ?_) AllReadyH.nil
          go_simp
          refine hK.out _ _ hcur (fun hHeld => ?_)
          clear hK K hHeld
          (try simp only [Act.put, pA, pB, pC, pD, pE, pF])
          refine wpAnyH_done (by kernel_rfl) ?_ _
          refine NoPanic.normal ?_
          obtain ⟨rfl⟩ := hQ7
          (go_wp2_with fail)
          replace F0 := F0.below hcur
          replace B2 := B2.below hcur
          replace B3 := B3.below hcur
          replace B5 := B5.below hcur
          replace B6 := B6.below hcur
          replace B8 := B8.below hcur
          replace B9 := B9.below hcur
          replace B11 := B11.below hcur
          replace B13 := B13.below hcur
          replace hbt := bthen hbt hcur
          clear hcur F
          obtain ⟨we, rfl⟩ : ∃ we : World, we = wn := ⟨_, rfl⟩
          obtain ⟨m3, m4, m5, m6, m7, m8⟩ := M.out
          have hs := Hs.out
          rcases Int.lt_trichotomy zr 0 with hr | hr | hr
          · as_aux_lemma =>
              have HR : As (cmpZ (zr) (0) = -1) := ⟨by rw [cmpZ, if_pos (by omega)]⟩
              have HY : As (cmpZ (z1) (0) = -1) := ⟨by rw [cmpZ, if_pos (by omega)]⟩
              by_cases hf : fr = 0
              · as_aux_lemma =>
                  have HFR : As (cmpZ (fr) (0) = 0) := ⟨by rw [cmpZ, if_neg (by omega), if_pos (by omega)]⟩
                  clear hf hr hs m3 m4 m5 m6 m7 m8
                  have hcur := (Below.refl we.heap.size we).drew
                  have F := F0.below hcur
                  refine wp_gen2 (fun Q7 hQ7 => ?_)
                  refine wp_region_held_drew (S := fun W => Below we.heap.size we W) (by kernel_rfl) hcur (fun hHeld => ?_)
                  clear hHeld
                  refine tk (i := 0) (v := .agg #[.bool b6x, .slice A6x n6x c6x]) rfl (by kernel_rfl) (by kernel_rfl) (fun W hSw => by have Cb := (B6.below hSw).cells; (go_simp; (try (with_reducible rfl)))) hcur ?_
                  (try simp only [Act.put, pA, pB, pC, pD, pE, pF])
                  refine tk (i := 1) (v := .agg #[.bool b11x, .slice A11x n11x c11x]) rfl (by kernel_rfl) (by kernel_rfl) (fun W hSw => by have Cb := (B11.below hSw).cells; (go_simp; (try (with_reducible rfl)))) hcur ?_
                  (try simp only [Act.put, pA, pB, pC, pD, pE, pF])
                  refine wpAnyH_ready (rs := [2]) (by kernel_rfl) (by simp) ?_
                  refine AllReadyH.cons (o := _) rfl (fun K hK => ?_) AllReadyH.nil
                  go_simp; (with_reducible refine (cmpF F (by repeat (first | exact m0 | apply m1)) (by repeat (first | exact m0 | apply m1)) (by omega) (-1) HR.out).mono ?_); rintro e wn ⟨vn, rfl, rfl, hb⟩; replace F := F.below hb; replace hcur := bthen hcur hb; go_wp2_with fail
                  refine hK.out _ _ hcur (fun hHeld => ?_)
                  clear hK K hHeld
                  (try simp only [Act.put, pA, pB, pC, pD, pE, pF])
                  refine tk (i := 3) (v := .bool false) rfl (by kernel_rfl) (by kernel_rfl) (fun W hSw => by (go_simp; (try (with_reducible rfl)))) hcur ?_
                  (try simp only [Act.put, pA, pB, pC, pD, pE, pF])
                  refine tk (i := 4) (v := .bool false) rfl (by kernel_rfl) (by kernel_rfl) (fun W hSw => by (go_simp; (try (with_reducible rfl)))) hcur ?_
                  (try simp only [Act.put, pA, pB, pC, pD, pE, pF])
                  refine tk (i := 5) (v := .agg #[.bool b6x, .slice A6x n6x c6x]) rfl (by kernel_rfl) (by kernel_rfl) (fun W hSw => by have Cb := (B6.below hSw).cells; (go_simp; (try (with_reducible rfl)))) hcur ?_
                  (try simp only [Act.put, pA, pB, pC, pD, pE, pF])
                  refine tk (i := 6) (v := .agg #[.bool b11x, .slice A11x n11x c11x]) rfl (by kernel_rfl) (by kernel_rfl) (fun W hSw => by have Cb := (B11.below hSw).cells; (go_simp; (try (with_reducible rfl)))) hcur ?_
                  (try simp only [Act.put, pA, pB, pC, pD, pE, pF])
                  refine tk (i := 8) (v := .agg #[.bool n1, .slice A1 k1 c1]) rfl (by kernel_rfl) (by kernel_rfl) (fun W hSw => by have Cb := (B2.below hSw).cells; (go_simp; (try (with_reducible rfl)))) hcur ?_
                  (try simp only [Act.put, pA, pB, pC, pD, pE, pF])
                  refine tk (i := 10) (v := .agg #[.bool b11x, .slice A11x n11x c11x]) rfl (by kernel_rfl) (by kernel_rfl) (fun W hSw => by have Cb := (B11.below hSw).cells; (go_simp; (try (with_reducible rfl)))) hcur ?_
                  (try simp only [Act.put, pA, pB, pC, pD, pE, pF])
                  refine wpAnyH_ready (rs := [7]) (by kernel_rfl) (by simp) ?_
                  refine AllReadyH.cons (o := _) rfl (fun K hK => ?_) AllReadyH.nil
                  go_simp; (with_reducible refine (cmpF F (by repeat (first | exact m0 | apply m1)) (by repeat (first | exact m0 | apply m1)) (by omega) (-1) HR.out).mono ?_); rintro e wn ⟨vn, rfl, rfl, hb⟩; replace F := F.below hb; replace hcur := bthen hcur hb; go_wp2_with fail
                  refine hK.out _ _ hcur (fun hHeld => ?_)
                  clear hK K hHeld
                  (try simp only [Act.put, pA, pB, pC, pD, pE, pF])
                  refine wpAnyH_ready (rs := [9]) (by kernel_rfl) (by simp) ?_
                  refine AllReadyH.cons (o := _) rfl (fun K hK => ?_) AllReadyH.nil
                  go_simp; (with_reducible refine (cF F (by repeat (first | exact m0 | apply m1))).mono ?_); rintro e wn ⟨vn, rfl, ⟨b126, A126, n126, c126, rfl, o, hf⟩, hb⟩; replace F := (F.below hb).cons o; have hfr126 := ltf hf; clear hf; replace hcur := bthen hcur hb; go_wp2_with fail
                  refine hK.out _ _ hcur (fun hHeld => ?_)
                  clear hK K hHeld
                  (try simp only [Act.put, pA, pB, pC, pD, pE, pF])
                  refine wpAnyH_ready (rs := [11]) (by kernel_rfl) (by simp) ?_
                  refine AllReadyH.cons (o := _) rfl (fun K hK => ?_) AllReadyH.nil
                  go_simp; (with_reducible refine (cmpF F (by repeat (first | exact m0 | apply m1)) (by repeat (first | exact m0 | apply m1)) (by omega) (-1) HY.out).mono ?_); rintro e wn ⟨vn, rfl, rfl, hb⟩; replace F := F.below hb; replace hfr126 := lte hfr126 hb; replace hcur := bthen hcur hb; go_wp2_with fail
                  refine hK.out _ _ hcur (fun hHeld => ?_)
                  clear hK K hHeld
                  (try simp only [Act.put, pA, pB, pC, pD, pE, pF])
                  refine tk (i := 12) (v := .bool true) rfl (by kernel_rfl) (by kernel_rfl) (fun W hSw => by (go_simp; (try (with_reducible rfl)))) hcur ?_
                  (try simp only [Act.put, pA, pB, pC, pD, pE, pF])
                  refine tk (i := 13) (v := .bool true) rfl (by kernel_rfl) (by kernel_rfl) (fun W hSw => by (go_simp; (try (with_reducible rfl)))) hcur ?_
                  (try simp only [Act.put, pA, pB, pC, pD, pE, pF])
                  refine tk (i := 14) (v := .bool true) rfl (by kernel_rfl) (by kernel_rfl) (fun W hSw => by (go_simp; (try (with_reducible rfl)))) hcur ?_
                  (try simp only [Act.put, pA, pB, pC, pD, pE, pF])
                  refine tk (i := 15) (v := .agg #[.bool b9x, .slice A9x n9x c9x]) rfl (by kernel_rfl) (by kernel_rfl) (fun W hSw => by have Cb := (B9.below hSw).cells; (go_simp; (try (with_reducible rfl)))) hcur ?_
                  (try simp only [Act.put, pA, pB, pC, pD, pE, pF])
                  refine tk (i := 16) (v := .agg #[.bool b11x, .slice A11x n11x c11x]) rfl (by kernel_rfl) (by kernel_rfl) (fun W hSw => by have Cb := (B11.below hSw).cells; (go_simp; (try (with_reducible rfl)))) hcur ?_
                  (try simp only [Act.put, pA, pB, pC, pD, pE, pF])
                  refine wpAnyH_ready (rs := [17]) (by kernel_rfl) (by simp) ?_
                  refine AllReadyH.cons (o := _) rfl (fun K hK => ?_) AllReadyH.nil
                  go_simp; (with_reducible refine (cmpF F (by repeat (first | exact m0 | apply m1)) (by repeat (first | exact m0 | apply m1)) (by omega) (0) HFR.out).mono ?_); rintro e wn ⟨vn, rfl, rfl, hb⟩; replace F := F.below hb; replace hfr126 := lte hfr126 hb; replace hcur := bthen hcur hb; go_wp2_with fail
                  refine hK.out _ _ hcur (fun hHeld => ?_)
                  clear hK K hHeld
                  (try simp only [Act.put, pA, pB, pC, pD, pE, pF])
                  refine tk (i := 18) (v := .bool true) rfl (by kernel_rfl) (by kernel_rfl) (fun W hSw => by (go_simp; (try (with_reducible rfl)))) hcur ?_
                  (try simp only [Act.put, pA, pB, pC, pD, pE, pF])
                  refine tk (i := 19) (v := .bool true) rfl (by kernel_rfl) (by kernel_rfl) (fun W hSw => by (go_simp; (try (with_reducible rfl)))) hcur ?_
                  (try simp only [Act.put, pA, pB, pC, pD, pE, pF])
                  refine tn (i := 20) rfl (by kernel_rfl) (by kernel_rfl) hcur ?_
                  (try simp only [Act.put, pA, pB, pC, pD, pE, pF])
                  refine tn (i := 21) rfl (by kernel_rfl) (by kernel_rfl) hcur ?_
                  (try simp only [Act.put, pA, pB, pC, pD, pE, pF])
                  refine tn (i := 22) rfl (by kernel_rfl) (by kernel_rfl) hcur ?_
                  (try simp only [Act.put, pA, pB, pC, pD, pE, pF])
                  refine tn (i := 23) rfl (by kernel_rfl) (by kernel_rfl) hcur ?_
                  (try simp only [Act.put, pA, pB, pC, pD, pE, pF])
                  refine tn (i := 24) rfl (by kernel_rfl) (by kernel_rfl) hcur ?_
                  (try simp only [Act.put, pA, pB, pC, pD, pE, pF])
                  refine tn (i := 25) rfl (by kernel_rfl) (by kernel_rfl) hcur ?_
                  (try simp only [Act.put, pA, pB, pC, pD, pE, pF])
                  refine tk (i := 26) (v := .bool true) rfl (by kernel_rfl) (by kernel_rfl) (fun W hSw => by (go_simp; (try (with_reducible rfl)))) hcur ?_
                  (try simp only [Act.put, pA, pB, pC, pD, pE, pF])
                  refine tk (i := 27) (v := .bool true) rfl (by kernel_rfl) (by kernel_rfl) (fun W hSw => by (go_simp; (try (with_reducible rfl)))) hcur ?_
                  (try simp only [Act.put, pA, pB, pC, pD, pE, pF])
                  refine wpAnyH_ready (rs := [28]) (by kernel_rfl) (by simp) ?_
                  refine AllReadyH.cons (o := _) rfl (fun K hK => ?_) AllReadyH.nil
                  go_simp
                  refine hK.out _ _ hcur (fun hHeld => ?_)
                  clear hK K hHeld
                  (try simp only [Act.put, pA, pB, pC, pD, pE, pF])
                  refine wpAnyH_done (by kernel_rfl) ?_ _
                  refine NoPanic.normal ?_
                  obtain ⟨rfl⟩ := hQ7
                  (go_wp2_with (go_at_call 19; (with_reducible refine (awake02_any _ (HT.out.below (bthen hbt hcur))).mono ?_); rintro e wn ⟨vn, rfl, rfl, hb⟩; replace hcur := bthen hcur hb))
                  go_ret
                  exact ⟨_, rfl, rfl, bthen hbt hcur⟩
              · as_aux_lemma =>
                  have HFR : As (cmpZ (fr) (0) = 1) := ⟨by rw [cmpZ, if_neg (by omega), if_neg (by omega)]⟩
                  clear hf hr hs m3 m4 m5 m6 m7 m8
                  have hcur := (Below.refl we.heap.size we).drew
                  have F := F0.below hcur
                  refine wp_gen2 (fun Q7 hQ7 => ?_)
                  refine wp_region_held_drew (S := fun W => Below we.heap.size we W) (by kernel_rfl) hcur (fun hHeld => ?_)
                  clear hHeld
                  refine tk (i := 0) (v := .agg #[.bool b6x, .slice A6x n6x c6x]) rfl (by kernel_rfl) (by kernel_rfl) (fun W hSw => by have Cb := (B6.below hSw).cells; (go_simp; (try (with_reducible rfl)))) hcur ?_
                  (try simp only [Act.put, pA, pB, pC, pD, pE, pF])
                  refine tk (i := 1) (v := .agg #[.bool b11x, .slice A11x n11x c11x]) rfl (by kernel_rfl) (by kernel_rfl) (fun W hSw => by have Cb := (B11.below hSw).cells; (go_simp; (try (with_reducible rfl)))) hcur ?_
                  (try simp only [Act.put, pA, pB, pC, pD, pE, pF])
                  refine wpAnyH_ready (rs := [2]) (by kernel_rfl) (by simp) ?_
                  refine AllReadyH.cons (o := _) rfl (fun K hK => ?_) AllReadyH.nil
                  go_simp; (with_reducible refine (cmpF F (by repeat (first | exact m0 | apply m1)) (by repeat (first | exact m0 | apply m1)) (by omega) (-1) HR.out).mono ?_); rintro e wn ⟨vn, rfl, rfl, hb⟩; replace F := F.below hb; replace hcur := bthen hcur hb; go_wp2_with fail
                  refine hK.out _ _ hcur (fun hHeld => ?_)
                  clear hK K hHeld
                  (try simp only [Act.put, pA, pB, pC, pD, pE, pF])
                  refine tk (i := 3) (v := .bool false) rfl (by kernel_rfl) (by kernel_rfl) (fun W hSw => by (go_simp; (try (with_reducible rfl)))) hcur ?_
                  (try simp only [Act.put, pA, pB, pC, pD, pE, pF])
                  refine tk (i := 4) (v := .bool false) rfl (by kernel_rfl) (by kernel_rfl) (fun W hSw => by (go_simp; (try (with_reducible rfl)))) hcur ?_
                  (try simp only [Act.put, pA, pB, pC, pD, pE, pF])
                  refine tk (i := 5) (v := .agg #[.bool b6x, .slice A6x n6x c6x]) rfl (by kernel_rfl) (by kernel_rfl) (fun W hSw => by have Cb := (B6.below hSw).cells; (go_simp; (try (with_reducible rfl)))) hcur ?_
                  (try simp only [Act.put, pA, pB, pC, pD, pE, pF])
                  refine tk (i := 6) (v := .agg #[.bool b11x, .slice A11x n11x c11x]) rfl (by kernel_rfl) (by kernel_rfl) (fun W hSw => by have Cb := (B11.below hSw).cells; (go_simp; (try (with_reducible rfl)))) hcur ?_
                  (try simp only [Act.put, pA, pB, pC, pD, pE, pF])
                  refine tk (i := 8) (v := .agg #[.bool n1, .slice A1 k1 c1]) rfl (by kernel_rfl) (by kernel_rfl) (fun W hSw => by have Cb := (B2.below hSw).cells; (go_simp; (try (with_reducible rfl)))) hcur ?_
                  (try simp only [Act.put, pA, pB, pC, pD, pE, pF])
                  refine tk (i := 10) (v := .agg #[.bool b11x, .slice A11x n11x c11x]) rfl (by kernel_rfl) (by kernel_rfl) (fun W hSw => by have Cb := (B11.below hSw).cells; (go_simp; (try (with_reducible rfl)))) hcur ?_
                  (try simp only [Act.put, pA, pB, pC, pD, pE, pF])
                  refine wpAnyH_ready (rs := [7]) (by kernel_rfl) (by simp) ?_
                  refine AllReadyH.cons (o := _) rfl (fun K hK => ?_) AllReadyH.nil
                  go_simp; (with_reducible refine (cmpF F (by repeat (first | exact m0 | apply m1)) (by repeat (first | exact m0 | apply m1)) (by omega) (-1) HR.out).mono ?_); rintro e wn ⟨vn, rfl, rfl, hb⟩; replace F := F.below hb; replace hcur := bthen hcur hb; go_wp2_with fail
                  refine hK.out _ _ hcur (fun hHeld => ?_)
                  clear hK K hHeld
                  (try simp only [Act.put, pA, pB, pC, pD, pE, pF])
                  refine wpAnyH_ready (rs := [9]) (by kernel_rfl) (by simp) ?_
                  refine AllReadyH.cons (o := _) rfl (fun K hK => ?_) AllReadyH.nil
                  go_simp; (with_reducible refine (cF F (by repeat (first | exact m0 | apply m1))).mono ?_); rintro e wn ⟨vn, rfl, ⟨b126, A126, n126, c126, rfl, o, hf⟩, hb⟩; replace F := (F.below hb).cons o; have hfr126 := ltf hf; clear hf; replace hcur := bthen hcur hb; go_wp2_with fail
                  refine hK.out _ _ hcur (fun hHeld => ?_)
                  clear hK K hHeld
                  (try simp only [Act.put, pA, pB, pC, pD, pE, pF])
                  refine wpAnyH_ready (rs := [11]) (by kernel_rfl) (by simp) ?_
                  refine AllReadyH.cons (o := _) rfl (fun K hK => ?_) AllReadyH.nil
                  go_simp; (with_reducible refine (cmpF F (by repeat (first | exact m0 | apply m1)) (by repeat (first | exact m0 | apply m1)) (by omega) (-1) HY.out).mono ?_); rintro e wn ⟨vn, rfl, rfl, hb⟩; replace F := F.below hb; replace hfr126 := lte hfr126 hb; replace hcur := bthen hcur hb; go_wp2_with fail
                  refine hK.out _ _ hcur (fun hHeld => ?_)
                  clear hK K hHeld
                  (try simp only [Act.put, pA, pB, pC, pD, pE, pF])
                  refine tk (i := 12) (v := .bool true) rfl (by kernel_rfl) (by kernel_rfl) (fun W hSw => by (go_simp; (try (with_reducible rfl)))) hcur ?_
                  (try simp only [Act.put, pA, pB, pC, pD, pE, pF])
                  refine tk (i := 13) (v := .bool true) rfl (by kernel_rfl) (by kernel_rfl) (fun W hSw => by (go_simp; (try (with_reducible rfl)))) hcur ?_
                  (try simp only [Act.put, pA, pB, pC, pD, pE, pF])
                  refine tk (i := 14) (v := .bool true) rfl (by kernel_rfl) (by kernel_rfl) (fun W hSw => by (go_simp; (try (with_reducible rfl)))) hcur ?_
                  (try simp only [Act.put, pA, pB, pC, pD, pE, pF])
                  refine tk (i := 15) (v := .agg #[.bool b9x, .slice A9x n9x c9x]) rfl (by kernel_rfl) (by kernel_rfl) (fun W hSw => by have Cb := (B9.below hSw).cells; (go_simp; (try (with_reducible rfl)))) hcur ?_
                  (try simp only [Act.put, pA, pB, pC, pD, pE, pF])
                  refine tk (i := 16) (v := .agg #[.bool b11x, .slice A11x n11x c11x]) rfl (by kernel_rfl) (by kernel_rfl) (fun W hSw => by have Cb := (B11.below hSw).cells; (go_simp; (try (with_reducible rfl)))) hcur ?_
                  (try simp only [Act.put, pA, pB, pC, pD, pE, pF])
                  refine wpAnyH_ready (rs := [17]) (by kernel_rfl) (by simp) ?_
                  refine AllReadyH.cons (o := _) rfl (fun K hK => ?_) AllReadyH.nil
                  go_simp; (with_reducible refine (cmpF F (by repeat (first | exact m0 | apply m1)) (by repeat (first | exact m0 | apply m1)) (by omega) (1) HFR.out).mono ?_); rintro e wn ⟨vn, rfl, rfl, hb⟩; replace F := F.below hb; replace hfr126 := lte hfr126 hb; replace hcur := bthen hcur hb; go_wp2_with fail
                  refine hK.out _ _ hcur (fun hHeld => ?_)
                  clear hK K hHeld
                  (try simp only [Act.put, pA, pB, pC, pD, pE, pF])
                  refine tk (i := 18) (v := .bool false) rfl (by kernel_rfl) (by kernel_rfl) (fun W hSw => by (go_simp; (try (with_reducible rfl)))) hcur ?_
                  (try simp only [Act.put, pA, pB, pC, pD, pE, pF])
                  refine tk (i := 19) (v := .bool false) rfl (by kernel_rfl) (by kernel_rfl) (fun W hSw => by (go_simp; (try (with_reducible rfl)))) hcur ?_
                  (try simp only [Act.put, pA, pB, pC, pD, pE, pF])
                  refine tk (i := 20) (v := .agg #[.bool b9x, .slice A9x n9x c9x]) rfl (by kernel_rfl) (by kernel_rfl) (fun W hSw => by have Cb := (B9.below hSw).cells; (go_simp; (try (with_reducible rfl)))) hcur ?_
                  (try simp only [Act.put, pA, pB, pC, pD, pE, pF])
                  refine tk (i := 21) (v := .agg #[.bool b11x, .slice A11x n11x c11x]) rfl (by kernel_rfl) (by kernel_rfl) (fun W hSw => by have Cb := (B11.below hSw).cells; (go_simp; (try (with_reducible rfl)))) hcur ?_
                  (try simp only [Act.put, pA, pB, pC, pD, pE, pF])
                  refine tk (i := 24) (v := .bool false) rfl (by kernel_rfl) (by kernel_rfl) (fun W hSw => by (go_simp; (try (with_reducible rfl)))) hcur ?_
                  (try simp only [Act.put, pA, pB, pC, pD, pE, pF])
                  refine wpAnyH_ready (rs := [22]) (by kernel_rfl) (by simp) ?_
                  refine AllReadyH.cons (o := _) rfl (fun K hK => ?_) AllReadyH.nil
                  go_simp; (with_reducible refine (cmpF F (by repeat (first | exact m0 | apply m1)) (by repeat (first | exact m0 | apply m1)) (by omega) (1) HFR.out).mono ?_); rintro e wn ⟨vn, rfl, rfl, hb⟩; replace F := F.below hb; replace hfr126 := lte hfr126 hb; replace hcur := bthen hcur hb; go_wp2_with fail
                  refine hK.out _ _ hcur (fun hHeld => ?_)
                  clear hK K hHeld
                  (try simp only [Act.put, pA, pB, pC, pD, pE, pF])
                  refine tk (i := 23) (v := .bool false) rfl (by kernel_rfl) (by kernel_rfl) (fun W hSw => by (go_simp; (try (with_reducible rfl)))) hcur ?_
                  (try simp only [Act.put, pA, pB, pC, pD, pE, pF])
                  refine tk (i := 25) (v := .bool true) rfl (by kernel_rfl) (by kernel_rfl) (fun W hSw => by (go_simp; (try (with_reducible rfl)))) hcur ?_
                  (try simp only [Act.put, pA, pB, pC, pD, pE, pF])
                  refine tk (i := 26) (v := .bool true) rfl (by kernel_rfl) (by kernel_rfl) (fun W hSw => by (go_simp; (try (with_reducible rfl)))) hcur ?_
                  (try simp only [Act.put, pA, pB, pC, pD, pE, pF])
                  refine tk (i := 27) (v := .bool true) rfl (by kernel_rfl) (by kernel_rfl) (fun W hSw => by (go_simp; (try (with_reducible rfl)))) hcur ?_
                  (try simp only [Act.put, pA, pB, pC, pD, pE, pF])
                  refine wpAnyH_ready (rs := [28]) (by kernel_rfl) (by simp) ?_
                  refine AllReadyH.cons (o := _) rfl (fun K hK => ?_) AllReadyH.nil
                  go_simp
                  refine hK.out _ _ hcur (fun hHeld => ?_)
                  clear hK K hHeld
                  (try simp only [Act.put, pA, pB, pC, pD, pE, pF])
                  refine wpAnyH_done (by kernel_rfl) ?_ _
                  refine NoPanic.normal ?_
                  obtain ⟨rfl⟩ := hQ7
                  (go_wp2_with (go_at_call 19; (with_reducible refine (awake02_any _ (HT.out.below (bthen hbt hcur))).mono ?_); rintro e wn ⟨vn, rfl, rfl, hb⟩; replace hcur := bthen hcur hb))
                  go_ret
                  exact ⟨_, rfl, rfl, bthen hbt hcur⟩
          · as_aux_lemma =>
              have HR : As (cmpZ (zr) (0) = 0) := ⟨by rw [cmpZ, if_neg (by omega), if_pos (by omega)]⟩
              by_cases hf : fr = 0
              · as_aux_lemma =>
                  have HFR : As (cmpZ (fr) (0) = 0) := ⟨by rw [cmpZ, if_neg (by omega), if_pos (by omega)]⟩
                  clear hf hr hs m3 m4 m5 m6 m7 m8
                  have hcur := (Below.refl we.heap.size we).drew
                  have F := F0.below hcur
                  refine wp_gen2 (fun Q7 hQ7 => ?_)
                  refine wp_region_held_drew (S := fun W => Below we.heap.size we W) (by kernel_rfl) hcur (fun hHeld => ?_)
                  clear hHeld
                  refine tk (i := 0) (v := .agg #[.bool b6x, .slice A6x n6x c6x]) rfl (by kernel_rfl) (by kernel_rfl) (fun W hSw => by have Cb := (B6.below hSw).cells; (go_simp; (try (with_reducible rfl)))) hcur ?_
                  (try simp only [Act.put, pA, pB, pC, pD, pE, pF])
                  refine tk (i := 1) (v := .agg #[.bool b11x, .slice A11x n11x c11x]) rfl (by kernel_rfl) (by kernel_rfl) (fun W hSw => by have Cb := (B11.below hSw).cells; (go_simp; (try (with_reducible rfl)))) hcur ?_
                  (try simp only [Act.put, pA, pB, pC, pD, pE, pF])
                  refine wpAnyH_ready (rs := [2]) (by kernel_rfl) (by simp) ?_
                  refine AllReadyH.cons (o := _) rfl (fun K hK => ?_) AllReadyH.nil
                  go_simp; (with_reducible refine (cmpF F (by repeat (first | exact m0 | apply m1)) (by repeat (first | exact m0 | apply m1)) (by omega) (0) HR.out).mono ?_); rintro e wn ⟨vn, rfl, rfl, hb⟩; replace F := F.below hb; replace hcur := bthen hcur hb; go_wp2_with fail
                  refine hK.out _ _ hcur (fun hHeld => ?_)
                  clear hK K hHeld
                  (try simp only [Act.put, pA, pB, pC, pD, pE, pF])
                  refine tk (i := 3) (v := .bool true) rfl (by kernel_rfl) (by kernel_rfl) (fun W hSw => by (go_simp; (try (with_reducible rfl)))) hcur ?_
                  (try simp only [Act.put, pA, pB, pC, pD, pE, pF])
                  refine tk (i := 4) (v := .bool true) rfl (by kernel_rfl) (by kernel_rfl) (fun W hSw => by (go_simp; (try (with_reducible rfl)))) hcur ?_
                  (try simp only [Act.put, pA, pB, pC, pD, pE, pF])
                  refine tn (i := 5) rfl (by kernel_rfl) (by kernel_rfl) hcur ?_
                  (try simp only [Act.put, pA, pB, pC, pD, pE, pF])
                  refine tn (i := 6) rfl (by kernel_rfl) (by kernel_rfl) hcur ?_
                  (try simp only [Act.put, pA, pB, pC, pD, pE, pF])
                  refine tn (i := 7) rfl (by kernel_rfl) (by kernel_rfl) hcur ?_
                  (try simp only [Act.put, pA, pB, pC, pD, pE, pF])
                  refine tn (i := 8) rfl (by kernel_rfl) (by kernel_rfl) hcur ?_
                  (try simp only [Act.put, pA, pB, pC, pD, pE, pF])
                  refine tn (i := 9) rfl (by kernel_rfl) (by kernel_rfl) hcur ?_
                  (try simp only [Act.put, pA, pB, pC, pD, pE, pF])
                  refine tn (i := 10) rfl (by kernel_rfl) (by kernel_rfl) hcur ?_
                  (try simp only [Act.put, pA, pB, pC, pD, pE, pF])
                  refine tn (i := 11) rfl (by kernel_rfl) (by kernel_rfl) hcur ?_
                  (try simp only [Act.put, pA, pB, pC, pD, pE, pF])
                  refine tn (i := 12) rfl (by kernel_rfl) (by kernel_rfl) hcur ?_
                  (try simp only [Act.put, pA, pB, pC, pD, pE, pF])
                  refine tk (i := 13) (v := .bool true) rfl (by kernel_rfl) (by kernel_rfl) (fun W hSw => by (go_simp; (try (with_reducible rfl)))) hcur ?_
                  (try simp only [Act.put, pA, pB, pC, pD, pE, pF])
                  refine tk (i := 14) (v := .bool true) rfl (by kernel_rfl) (by kernel_rfl) (fun W hSw => by (go_simp; (try (with_reducible rfl)))) hcur ?_
                  (try simp only [Act.put, pA, pB, pC, pD, pE, pF])
                  refine tk (i := 15) (v := .agg #[.bool b9x, .slice A9x n9x c9x]) rfl (by kernel_rfl) (by kernel_rfl) (fun W hSw => by have Cb := (B9.below hSw).cells; (go_simp; (try (with_reducible rfl)))) hcur ?_
                  (try simp only [Act.put, pA, pB, pC, pD, pE, pF])
                  refine tk (i := 16) (v := .agg #[.bool b11x, .slice A11x n11x c11x]) rfl (by kernel_rfl) (by kernel_rfl) (fun W hSw => by have Cb := (B11.below hSw).cells; (go_simp; (try (with_reducible rfl)))) hcur ?_
                  (try simp only [Act.put, pA, pB, pC, pD, pE, pF])
                  refine wpAnyH_ready (rs := [17]) (by kernel_rfl) (by simp) ?_
                  refine AllReadyH.cons (o := _) rfl (fun K hK => ?_) AllReadyH.nil
                  go_simp; (with_reducible refine (cmpF F (by repeat (first | exact m0 | apply m1)) (by repeat (first | exact m0 | apply m1)) (by omega) (0) HFR.out).mono ?_); rintro e wn ⟨vn, rfl, rfl, hb⟩; replace F := F.below hb; replace hcur := bthen hcur hb; go_wp2_with fail
                  refine hK.out _ _ hcur (fun hHeld => ?_)
                  clear hK K hHeld
                  (try simp only [Act.put, pA, pB, pC, pD, pE, pF])
                  refine tk (i := 18) (v := .bool true) rfl (by kernel_rfl) (by kernel_rfl) (fun W hSw => by (go_simp; (try (with_reducible rfl)))) hcur ?_
                  (try simp only [Act.put, pA, pB, pC, pD, pE, pF])
                  refine tk (i := 19) (v := .bool true) rfl (by kernel_rfl) (by kernel_rfl) (fun W hSw => by (go_simp; (try (with_reducible rfl)))) hcur ?_
                  (try simp only [Act.put, pA, pB, pC, pD, pE, pF])
                  refine tn (i := 20) rfl (by kernel_rfl) (by kernel_rfl) hcur ?_
                  (try simp only [Act.put, pA, pB, pC, pD, pE, pF])
                  refine tn (i := 21) rfl (by kernel_rfl) (by kernel_rfl) hcur ?_
                  (try simp only [Act.put, pA, pB, pC, pD, pE, pF])
                  refine tn (i := 22) rfl (by kernel_rfl) (by kernel_rfl) hcur ?_
                  (try simp only [Act.put, pA, pB, pC, pD, pE, pF])
                  refine tn (i := 23) rfl (by kernel_rfl) (by kernel_rfl) hcur ?_
                  (try simp only [Act.put, pA, pB, pC, pD, pE, pF])
                  refine tn (i := 24) rfl (by kernel_rfl) (by kernel_rfl) hcur ?_
                  (try simp only [Act.put, pA, pB, pC, pD, pE, pF])
                  refine tn (i := 25) rfl (by kernel_rfl) (by kernel_rfl) hcur ?_
                  (try simp only [Act.put, pA, pB, pC, pD, pE, pF])
                  refine tk (i := 26) (v := .bool true) rfl (by kernel_rfl) (by kernel_rfl) (fun W hSw => by (go_simp; (try (with_reducible rfl)))) hcur ?_
                  (try simp only [Act.put, pA, pB, pC, pD, pE, pF])
                  refine tk (i := 27) (v := .bool true) rfl (by kernel_rfl) (by kernel_rfl) (fun W hSw => by (go_simp; (try (with_reducible rfl)))) hcur ?_
                  (try simp only [Act.put, pA, pB, pC, pD, pE, pF])
                  refine wpAnyH_ready (rs := [28]) (by kernel_rfl) (by simp) ?_
                  refine AllReadyH.cons (o := _) rfl (fun K hK => ?_) AllReadyH.nil
                  go_simp
                  refine hK.out _ _ hcur (fun hHeld => ?_)
                  clear hK K hHeld
                  (try simp only [Act.put, pA, pB, pC, pD, pE, pF])
                  refine wpAnyH_done (by kernel_rfl) ?_ _
                  refine NoPanic.normal ?_
                  obtain ⟨rfl⟩ := hQ7
                  (go_wp2_with (go_at_call 19; (with_reducible refine (awake02_any _ (HT.out.below (bthen hbt hcur))).mono ?_); rintro e wn ⟨vn, rfl, rfl, hb⟩; replace hcur := bthen hcur hb))
                  go_ret
                  exact ⟨_, rfl, rfl, bthen hbt hcur⟩
              · as_aux_lemma =>
                  have HFR : As (cmpZ (fr) (0) = 1) := ⟨by rw [cmpZ, if_neg (by omega), if_neg (by omega)]⟩
                  clear hf hr hs m3 m4 m5 m6 m7 m8
                  have hcur := (Below.refl we.heap.size we).drew
                  have F := F0.below hcur
                  refine wp_gen2 (fun Q7 hQ7 => ?_)
                  refine wp_region_held_drew (S := fun W => Below we.heap.size we W) (by kernel_rfl) hcur (fun hHeld => ?_)
                  clear hHeld
                  refine tk (i := 0) (v := .agg #[.bool b6x, .slice A6x n6x c6x]) rfl (by kernel_rfl) (by kernel_rfl) (fun W hSw => by have Cb := (B6.below hSw).cells; (go_simp; (try (with_reducible rfl)))) hcur ?_
                  (try simp only [Act.put, pA, pB, pC, pD, pE, pF])
                  refine tk (i := 1) (v := .agg #[.bool b11x, .slice A11x n11x c11x]) rfl (by kernel_rfl) (by kernel_rfl) (fun W hSw => by have Cb := (B11.below hSw).cells; (go_simp; (try (with_reducible rfl)))) hcur ?_
                  (try simp only [Act.put, pA, pB, pC, pD, pE, pF])
                  refine wpAnyH_ready (rs := [2]) (by kernel_rfl) (by simp) ?_
                  refine AllReadyH.cons (o := _) rfl (fun K hK => ?_) AllReadyH.nil
                  go_simp; (with_reducible refine (cmpF F (by repeat (first | exact m0 | apply m1)) (by repeat (first | exact m0 | apply m1)) (by omega) (0) HR.out).mono ?_); rintro e wn ⟨vn, rfl, rfl, hb⟩; replace F := F.below hb; replace hcur := bthen hcur hb; go_wp2_with fail
                  refine hK.out _ _ hcur (fun hHeld => ?_)
                  clear hK K hHeld
                  (try simp only [Act.put, pA, pB, pC, pD, pE, pF])
                  refine tk (i := 3) (v := .bool true) rfl (by kernel_rfl) (by kernel_rfl) (fun W hSw => by (go_simp; (try (with_reducible rfl)))) hcur ?_
                  (try simp only [Act.put, pA, pB, pC, pD, pE, pF])
                  refine tk (i := 4) (v := .bool true) rfl (by kernel_rfl) (by kernel_rfl) (fun W hSw => by (go_simp; (try (with_reducible rfl)))) hcur ?_
                  (try simp only [Act.put, pA, pB, pC, pD, pE, pF])
                  refine tn (i := 5) rfl (by kernel_rfl) (by kernel_rfl) hcur ?_
                  (try simp only [Act.put, pA, pB, pC, pD, pE, pF])
                  refine tn (i := 6) rfl (by kernel_rfl) (by kernel_rfl) hcur ?_
                  (try simp only [Act.put, pA, pB, pC, pD, pE, pF])
                  refine tn (i := 7) rfl (by kernel_rfl) (by kernel_rfl) hcur ?_
                  (try simp only [Act.put, pA, pB, pC, pD, pE, pF])
                  refine tn (i := 8) rfl (by kernel_rfl) (by kernel_rfl) hcur ?_
                  (try simp only [Act.put, pA, pB, pC, pD, pE, pF])
                  refine tn (i := 9) rfl (by kernel_rfl) (by kernel_rfl) hcur ?_
                  (try simp only [Act.put, pA, pB, pC, pD, pE, pF])
                  refine tn (i := 10) rfl (by kernel_rfl) (by kernel_rfl) hcur ?_
                  (try simp only [Act.put, pA, pB, pC, pD, pE, pF])
                  refine tn (i := 11) rfl (by kernel_rfl) (by kernel_rfl) hcur ?_
                  (try simp only [Act.put, pA, pB, pC, pD, pE, pF])
                  refine tn (i := 12) rfl (by kernel_rfl) (by kernel_rfl) hcur ?_
                  (try simp only [Act.put, pA, pB, pC, pD, pE, pF])
                  refine tk (i := 13) (v := .bool true) rfl (by kernel_rfl) (by kernel_rfl) (fun W hSw => by (go_simp; (try (with_reducible rfl)))) hcur ?_
                  (try simp only [Act.put, pA, pB, pC, pD, pE, pF])
                  refine tk (i := 14) (v := .bool true) rfl (by kernel_rfl) (by kernel_rfl) (fun W hSw => by (go_simp; (try (with_reducible rfl)))) hcur ?_
                  (try simp only [Act.put, pA, pB, pC, pD, pE, pF])
                  refine tk (i := 15) (v := .agg #[.bool b9x, .slice A9x n9x c9x]) rfl (by kernel_rfl) (by kernel_rfl) (fun W hSw => by have Cb := (B9.below hSw).cells; (go_simp; (try (with_reducible rfl)))) hcur ?_
                  (try simp only [Act.put, pA, pB, pC, pD, pE, pF])
                  refine tk (i := 16) (v := .agg #[.bool b11x, .slice A11x n11x c11x]) rfl (by kernel_rfl) (by kernel_rfl) (fun W hSw => by have Cb := (B11.below hSw).cells; (go_simp; (try (with_reducible rfl)))) hcur ?_
                  (try simp only [Act.put, pA, pB, pC, pD, pE, pF])
                  refine wpAnyH_ready (rs := [17]) (by kernel_rfl) (by simp) ?_
                  refine AllReadyH.cons (o := _) rfl (fun K hK => ?_) AllReadyH.nil
                  go_simp; (with_reducible refine (cmpF F (by repeat (first | exact m0 | apply m1)) (by repeat (first | exact m0 | apply m1)) (by omega) (1) HFR.out).mono ?_); rintro e wn ⟨vn, rfl, rfl, hb⟩; replace F := F.below hb; replace hcur := bthen hcur hb; go_wp2_with fail
                  refine hK.out _ _ hcur (fun hHeld => ?_)
                  clear hK K hHeld
                  (try simp only [Act.put, pA, pB, pC, pD, pE, pF])
                  refine tk (i := 18) (v := .bool false) rfl (by kernel_rfl) (by kernel_rfl) (fun W hSw => by (go_simp; (try (with_reducible rfl)))) hcur ?_
                  (try simp only [Act.put, pA, pB, pC, pD, pE, pF])
                  refine tk (i := 19) (v := .bool false) rfl (by kernel_rfl) (by kernel_rfl) (fun W hSw => by (go_simp; (try (with_reducible rfl)))) hcur ?_
                  (try simp only [Act.put, pA, pB, pC, pD, pE, pF])
                  refine tk (i := 20) (v := .agg #[.bool b9x, .slice A9x n9x c9x]) rfl (by kernel_rfl) (by kernel_rfl) (fun W hSw => by have Cb := (B9.below hSw).cells; (go_simp; (try (with_reducible rfl)))) hcur ?_
                  (try simp only [Act.put, pA, pB, pC, pD, pE, pF])
                  refine tk (i := 21) (v := .agg #[.bool b11x, .slice A11x n11x c11x]) rfl (by kernel_rfl) (by kernel_rfl) (fun W hSw => by have Cb := (B11.below hSw).cells; (go_simp; (try (with_reducible rfl)))) hcur ?_
                  (try simp only [Act.put, pA, pB, pC, pD, pE, pF])
                  refine tk (i := 24) (v := .bool false) rfl (by kernel_rfl) (by kernel_rfl) (fun W hSw => by (go_simp; (try (with_reducible rfl)))) hcur ?_
                  (try simp only [Act.put, pA, pB, pC, pD, pE, pF])
                  refine wpAnyH_ready (rs := [22]) (by kernel_rfl) (by simp) ?_
                  refine AllReadyH.cons (o := _) rfl (fun K hK => ?_) AllReadyH.nil
                  go_simp; (with_reducible refine (cmpF F (by repeat (first | exact m0 | apply m1)) (by repeat (first | exact m0 | apply m1)) (by omega) (1) HFR.out).mono ?_); rintro e wn ⟨vn, rfl, rfl, hb⟩; replace F := F.below hb; replace hcur := bthen hcur hb; go_wp2_with fail
                  refine hK.out _ _ hcur (fun hHeld => ?_)
                  clear hK K hHeld
                  (try simp only [Act.put, pA, pB, pC, pD, pE, pF])
                  refine tk (i := 23) (v := .bool false) rfl (by kernel_rfl) (by kernel_rfl) (fun W hSw => by (go_simp; (try (with_reducible rfl)))) hcur ?_
                  (try simp only [Act.put, pA, pB, pC, pD, pE, pF])
                  refine tk (i := 25) (v := .bool true) rfl (by kernel_rfl) (by kernel_rfl) (fun W hSw => by (go_simp; (try (with_reducible rfl)))) hcur ?_
                  (try simp only [Act.put, pA, pB, pC, pD, pE, pF])
                  refine tk (i := 26) (v := .bool true) rfl (by kernel_rfl) (by kernel_rfl) (fun W hSw => by (go_simp; (try (with_reducible rfl)))) hcur ?_
                  (try simp only [Act.put, pA, pB, pC, pD, pE, pF])
                  refine tk (i := 27) (v := .bool true) rfl (by kernel_rfl) (by kernel_rfl) (fun W hSw => by (go_simp; (try (with_reducible rfl)))) hcur ?_
                  (try simp only [Act.put, pA, pB, pC, pD, pE, pF])
                  refine wpAnyH_ready (rs := [28]) (by kernel_rfl) (by simp) ?_
                  refine AllReadyH.cons (o := _) rfl (fun K hK => ?_) AllReadyH.nil
                  go_simp
                  refine hK.out _ _ hcur (fun hHeld => ?_)
                  clear hK K hHeld
                  (try simp only [Act.put, pA, pB, pC, pD, pE, pF])
                  refine wpAnyH_done (by kernel_rfl) ?_ _
                  refine NoPanic.normal ?_
                  obtain ⟨rfl⟩ := hQ7
                  (go_wp2_with (go_at_call 19; (with_reducible refine (awake02_any _ (HT.out.below (bthen hbt hcur))).mono ?_); rintro e wn ⟨vn, rfl, rfl, hb⟩; replace hcur := bthen hcur hb))
                  go_ret
                  exact ⟨_, rfl, rfl, bthen hbt hcur⟩
          · as_aux_lemma =>
              have HR : As (cmpZ (zr) (0) = 1) := ⟨by rw [cmpZ, if_neg (by omega), if_neg (by omega)]⟩
              have HY : As (cmpZ (z1) (0) = 1) := ⟨by rw [cmpZ, if_neg (by omega), if_neg (by omega)]⟩
              by_cases hf : fr = 0
              · as_aux_lemma =>
                  have HFR : As (cmpZ (fr) (0) = 0) := ⟨by rw [cmpZ, if_neg (by omega), if_pos (by omega)]⟩
                  clear hf hr hs m3 m4 m5 m6 m7 m8
                  have hcur := (Below.refl we.heap.size we).drew
                  have F := F0.below hcur
                  refine wp_gen2 (fun Q7 hQ7 => ?_)
                  refine wp_region_held_drew (S := fun W => Below we.heap.size we W) (by kernel_rfl) hcur (fun hHeld => ?_)
                  clear hHeld
                  refine tk (i := 0) (v := .agg #[.bool b6x, .slice A6x n6x c6x]) rfl (by kernel_rfl) (by kernel_rfl) (fun W hSw => by have Cb := (B6.below hSw).cells; (go_simp; (try (with_reducible rfl)))) hcur ?_
                  (try simp only [Act.put, pA, pB, pC, pD, pE, pF])
                  refine tk (i := 1) (v := .agg #[.bool b11x, .slice A11x n11x c11x]) rfl (by kernel_rfl) (by kernel_rfl) (fun W hSw => by have Cb := (B11.below hSw).cells; (go_simp; (try (with_reducible rfl)))) hcur ?_
                  (try simp only [Act.put, pA, pB, pC, pD, pE, pF])
                  refine wpAnyH_ready (rs := [2]) (by kernel_rfl) (by simp) ?_
                  refine AllReadyH.cons (o := _) rfl (fun K hK => ?_) AllReadyH.nil
                  go_simp; (with_reducible refine (cmpF F (by repeat (first | exact m0 | apply m1)) (by repeat (first | exact m0 | apply m1)) (by omega) (1) HR.out).mono ?_); rintro e wn ⟨vn, rfl, rfl, hb⟩; replace F := F.below hb; replace hcur := bthen hcur hb; go_wp2_with fail
                  refine hK.out _ _ hcur (fun hHeld => ?_)
                  clear hK K hHeld
                  (try simp only [Act.put, pA, pB, pC, pD, pE, pF])
                  refine tk (i := 3) (v := .bool false) rfl (by kernel_rfl) (by kernel_rfl) (fun W hSw => by (go_simp; (try (with_reducible rfl)))) hcur ?_
                  (try simp only [Act.put, pA, pB, pC, pD, pE, pF])
                  refine tk (i := 4) (v := .bool false) rfl (by kernel_rfl) (by kernel_rfl) (fun W hSw => by (go_simp; (try (with_reducible rfl)))) hcur ?_
                  (try simp only [Act.put, pA, pB, pC, pD, pE, pF])
                  refine tk (i := 5) (v := .agg #[.bool b6x, .slice A6x n6x c6x]) rfl (by kernel_rfl) (by kernel_rfl) (fun W hSw => by have Cb := (B6.below hSw).cells; (go_simp; (try (with_reducible rfl)))) hcur ?_
                  (try simp only [Act.put, pA, pB, pC, pD, pE, pF])
                  refine tk (i := 6) (v := .agg #[.bool b11x, .slice A11x n11x c11x]) rfl (by kernel_rfl) (by kernel_rfl) (fun W hSw => by have Cb := (B11.below hSw).cells; (go_simp; (try (with_reducible rfl)))) hcur ?_
                  (try simp only [Act.put, pA, pB, pC, pD, pE, pF])
                  refine tk (i := 8) (v := .agg #[.bool n1, .slice A1 k1 c1]) rfl (by kernel_rfl) (by kernel_rfl) (fun W hSw => by have Cb := (B2.below hSw).cells; (go_simp; (try (with_reducible rfl)))) hcur ?_
                  (try simp only [Act.put, pA, pB, pC, pD, pE, pF])
                  refine tk (i := 10) (v := .agg #[.bool b11x, .slice A11x n11x c11x]) rfl (by kernel_rfl) (by kernel_rfl) (fun W hSw => by have Cb := (B11.below hSw).cells; (go_simp; (try (with_reducible rfl)))) hcur ?_
                  (try simp only [Act.put, pA, pB, pC, pD, pE, pF])
                  refine wpAnyH_ready (rs := [7]) (by kernel_rfl) (by simp) ?_
                  refine AllReadyH.cons (o := _) rfl (fun K hK => ?_) AllReadyH.nil
                  go_simp; (with_reducible refine (cmpF F (by repeat (first | exact m0 | apply m1)) (by repeat (first | exact m0 | apply m1)) (by omega) (1) HR.out).mono ?_); rintro e wn ⟨vn, rfl, rfl, hb⟩; replace F := F.below hb; replace hcur := bthen hcur hb; go_wp2_with fail
                  refine hK.out _ _ hcur (fun hHeld => ?_)
                  clear hK K hHeld
                  (try simp only [Act.put, pA, pB, pC, pD, pE, pF])
                  refine wpAnyH_ready (rs := [9]) (by kernel_rfl) (by simp) ?_
                  refine AllReadyH.cons (o := _) rfl (fun K hK => ?_) AllReadyH.nil
                  go_simp; (with_reducible refine (cF F (by repeat (first | exact m0 | apply m1))).mono ?_); rintro e wn ⟨vn, rfl, ⟨b126, A126, n126, c126, rfl, o, hf⟩, hb⟩; replace F := (F.below hb).cons o; have hfr126 := ltf hf; clear hf; replace hcur := bthen hcur hb; go_wp2_with fail
                  refine hK.out _ _ hcur (fun hHeld => ?_)
                  clear hK K hHeld
                  (try simp only [Act.put, pA, pB, pC, pD, pE, pF])
                  refine wpAnyH_ready (rs := [11]) (by kernel_rfl) (by simp) ?_
                  refine AllReadyH.cons (o := _) rfl (fun K hK => ?_) AllReadyH.nil
                  go_simp; (with_reducible refine (cmpF F (by repeat (first | exact m0 | apply m1)) (by repeat (first | exact m0 | apply m1)) (by omega) (1) HY.out).mono ?_); rintro e wn ⟨vn, rfl, rfl, hb⟩; replace F := F.below hb; replace hfr126 := lte hfr126 hb; replace hcur := bthen hcur hb; go_wp2_with fail
                  refine hK.out _ _ hcur (fun hHeld => ?_)
                  clear hK K hHeld
                  (try simp only [Act.put, pA, pB, pC, pD, pE, pF])
                  refine tk (i := 12) (v := .bool true) rfl (by kernel_rfl) (by kernel_rfl) (fun W hSw => by (go_simp; (try (with_reducible rfl)))) hcur ?_
                  (try simp only [Act.put, pA, pB, pC, pD, pE, pF])
                  refine tk (i := 13) (v := .bool true) rfl (by kernel_rfl) (by kernel_rfl) (fun W hSw => by (go_simp; (try (with_reducible rfl)))) hcur ?_
                  (try simp only [Act.put, pA, pB, pC, pD, pE, pF])
                  refine tk (i := 14) (v := .bool true) rfl (by kernel_rfl) (by kernel_rfl) (fun W hSw => by (go_simp; (try (with_reducible rfl)))) hcur ?_
                  (try simp only [Act.put, pA, pB, pC, pD, pE, pF])
                  refine tk (i := 15) (v := .agg #[.bool b9x, .slice A9x n9x c9x]) rfl (by kernel_rfl) (by kernel_rfl) (fun W hSw => by have Cb := (B9.below hSw).cells; (go_simp; (try (with_reducible rfl)))) hcur ?_
                  (try simp only [Act.put, pA, pB, pC, pD, pE, pF])
                  refine tk (i := 16) (v := .agg #[.bool b11x, .slice A11x n11x c11x]) rfl (by kernel_rfl) (by kernel_rfl) (fun W hSw => by have Cb := (B11.below hSw).cells; (go_simp; (try (with_reducible rfl)))) hcur ?_
                  (try simp only [Act.put, pA, pB, pC, pD, pE, pF])
                  refine wpAnyH_ready (rs := [17]) (by kernel_rfl) (by simp) ?_
                  refine AllReadyH.cons (o := _) rfl (fun K hK => ?_) AllReadyH.nil
                  go_simp; (with_reducible refine (cmpF F (by repeat (first | exact m0 | apply m1)) (by repeat (first | exact m0 | apply m1)) (by omega) (0) HFR.out).mono ?_); rintro e wn ⟨vn, rfl, rfl, hb⟩; replace F := F.below hb; replace hfr126 := lte hfr126 hb; replace hcur := bthen hcur hb; go_wp2_with fail
                  refine hK.out _ _ hcur (fun hHeld => ?_)
                  clear hK K hHeld
                  (try simp only [Act.put, pA, pB, pC, pD, pE, pF])
                  refine tk (i := 18) (v := .bool true) rfl (by kernel_rfl) (by kernel_rfl) (fun W hSw => by (go_simp; (try (with_reducible rfl)))) hcur ?_
                  (try simp only [Act.put, pA, pB, pC, pD, pE, pF])
                  refine tk (i := 19) (v := .bool true) rfl (by kernel_rfl) (by kernel_rfl) (fun W hSw => by (go_simp; (try (with_reducible rfl)))) hcur ?_
                  (try simp only [Act.put, pA, pB, pC, pD, pE, pF])
                  refine tn (i := 20) rfl (by kernel_rfl) (by kernel_rfl) hcur ?_
                  (try simp only [Act.put, pA, pB, pC, pD, pE, pF])
                  refine tn (i := 21) rfl (by kernel_rfl) (by kernel_rfl) hcur ?_
                  (try simp only [Act.put, pA, pB, pC, pD, pE, pF])
                  refine tn (i := 22) rfl (by kernel_rfl) (by kernel_rfl) hcur ?_
                  (try simp only [Act.put, pA, pB, pC, pD, pE, pF])
                  refine tn (i := 23) rfl (by kernel_rfl) (by kernel_rfl) hcur ?_
                  (try simp only [Act.put, pA, pB, pC, pD, pE, pF])
                  refine tn (i := 24) rfl (by kernel_rfl) (by kernel_rfl) hcur ?_
                  (try simp only [Act.put, pA, pB, pC, pD, pE, pF])
                  refine tn (i := 25) rfl (by kernel_rfl) (by kernel_rfl) hcur ?_
                  (try simp only [Act.put, pA, pB, pC, pD, pE, pF])
                  refine tk (i := 26) (v := .bool true) rfl (by kernel_rfl) (by kernel_rfl) (fun W hSw => by (go_simp; (try (with_reducible rfl)))) hcur ?_
                  (try simp only [Act.put, pA, pB, pC, pD, pE, pF])
                  refine tk (i := 27) (v := .bool true) rfl (by kernel_rfl) (by kernel_rfl) (fun W hSw => by (go_simp; (try (with_reducible rfl)))) hcur ?_
                  (try simp only [Act.put, pA, pB, pC, pD, pE, pF])
                  refine wpAnyH_ready (rs := [28]) (by kernel_rfl) (by simp) ?_
                  refine AllReadyH.cons (o := _) rfl (fun K hK => ?_) AllReadyH.nil
                  go_simp
                  refine hK.out _ _ hcur (fun hHeld => ?_)
                  clear hK K hHeld
                  (try simp only [Act.put, pA, pB, pC, pD, pE, pF])
                  refine wpAnyH_done (by kernel_rfl) ?_ _
                  refine NoPanic.normal ?_
                  obtain ⟨rfl⟩ := hQ7
                  (go_wp2_with (go_at_call 19; (with_reducible refine (awake02_any _ (HT.out.below (bthen hbt hcur))).mono ?_); rintro e wn ⟨vn, rfl, rfl, hb⟩; replace hcur := bthen hcur hb))
                  go_ret
                  exact ⟨_, rfl, rfl, bthen hbt hcur⟩
              · as_aux_lemma =>
                  have HFR : As (cmpZ (fr) (0) = 1) := ⟨by rw [cmpZ, if_neg (by omega), if_neg (by omega)]⟩
                  clear hf hr hs m3 m4 m5 m6 m7 m8
                  have hcur := (Below.refl we.heap.size we).drew
                  have F := F0.below hcur
                  refine wp_gen2 (fun Q7 hQ7 => ?_)
                  refine wp_region_held_drew (S := fun W => Below we.heap.size we W) (by kernel_rfl) hcur (fun hHeld => ?_)
                  clear hHeld
                  refine tk (i := 0) (v := .agg #[.bool b6x, .slice A6x n6x c6x]) rfl (by kernel_rfl) (by kernel_rfl) (fun W hSw => by have Cb := (B6.below hSw).cells; (go_simp; (try (with_reducible rfl)))) hcur ?_
                  (try simp only [Act.put, pA, pB, pC, pD, pE, pF])
                  refine tk (i := 1) (v := .agg #[.bool b11x, .slice A11x n11x c11x]) rfl (by kernel_rfl) (by kernel_rfl) (fun W hSw => by have Cb := (B11.below hSw).cells; (go_simp; (try (with_reducible rfl)))) hcur ?_
                  (try simp only [Act.put, pA, pB, pC, pD, pE, pF])
                  refine wpAnyH_ready (rs := [2]) (by kernel_rfl) (by simp) ?_
                  refine AllReadyH.cons (o := _) rfl (fun K hK => ?_) AllReadyH.nil
                  go_simp; (with_reducible refine (cmpF F (by repeat (first | exact m0 | apply m1)) (by repeat (first | exact m0 | apply m1)) (by omega) (1) HR.out).mono ?_); rintro e wn ⟨vn, rfl, rfl, hb⟩; replace F := F.below hb; replace hcur := bthen hcur hb; go_wp2_with fail
                  refine hK.out _ _ hcur (fun hHeld => ?_)
                  clear hK K hHeld
                  (try simp only [Act.put, pA, pB, pC, pD, pE, pF])
                  refine tk (i := 3) (v := .bool false) rfl (by kernel_rfl) (by kernel_rfl) (fun W hSw => by (go_simp; (try (with_reducible rfl)))) hcur ?_
                  (try simp only [Act.put, pA, pB, pC, pD, pE, pF])
                  refine tk (i := 4) (v := .bool false) rfl (by kernel_rfl) (by kernel_rfl) (fun W hSw => by (go_simp; (try (with_reducible rfl)))) hcur ?_
                  (try simp only [Act.put, pA, pB, pC, pD, pE, pF])
                  refine tk (i := 5) (v := .agg #[.bool b6x, .slice A6x n6x c6x]) rfl (by kernel_rfl) (by kernel_rfl) (fun W hSw => by have Cb := (B6.below hSw).cells; (go_simp; (try (with_reducible rfl)))) hcur ?_
                  (try simp only [Act.put, pA, pB, pC, pD, pE, pF])
                  refine tk (i := 6) (v := .agg #[.bool b11x, .slice A11x n11x c11x]) rfl (by kernel_rfl) (by kernel_rfl) (fun W hSw => by have Cb := (B11.below hSw).cells; (go_simp; (try (with_reducible rfl)))) hcur ?_
                  (try simp only [Act.put, pA, pB, pC, pD, pE, pF])
                  refine tk (i := 8) (v := .agg #[.bool n1, .slice A1 k1 c1]) rfl (by kernel_rfl) (by kernel_rfl) (fun W hSw => by have Cb := (B2.below hSw).cells; (go_simp; (try (with_reducible rfl)))) hcur ?_
                  (try simp only [Act.put, pA, pB, pC, pD, pE, pF])
                  refine tk (i := 10) (v := .agg #[.bool b11x, .slice A11x n11x c11x]) rfl (by kernel_rfl) (by kernel_rfl) (fun W hSw => by have Cb := (B11.below hSw).cells; (go_simp; (try (with_reducible rfl)))) hcur ?_
                  (try simp only [Act.put, pA, pB, pC, pD, pE, pF])
                  refine wpAnyH_ready (rs := [7]) (by kernel_rfl) (by simp) ?_
                  refine AllReadyH.cons (o := _) rfl (fun K hK => ?_) AllReadyH.nil
                  go_simp; (with_reducible refine (cmpF F (by repeat (first | exact m0 | apply m1)) (by repeat (first | exact m0 | apply m1)) (by omega) (1) HR.out).mono ?_); rintro e wn ⟨vn, rfl, rfl, hb⟩; replace F := F.below hb; replace hcur := bthen hcur hb; go_wp2_with fail
                  refine hK.out _ _ hcur (fun hHeld => ?_)
                  clear hK K hHeld
                  (try simp only [Act.put, pA, pB, pC, pD, pE, pF])
                  refine wpAnyH_ready (rs := [9]) (by kernel_rfl) (by simp) ?_
                  refine AllReadyH.cons (o := _) rfl (fun K hK => ?_) AllReadyH.nil
                  go_simp; (with_reducible refine (cF F (by repeat (first | exact m0 | apply m1))).mono ?_); rintro e wn ⟨vn, rfl, ⟨b126, A126, n126, c126, rfl, o, hf⟩, hb⟩; replace F := (F.below hb).cons o; have hfr126 := ltf hf; clear hf; replace hcur := bthen hcur hb; go_wp2_with fail
                  refine hK.out _ _ hcur (fun hHeld => ?_)
                  clear hK K hHeld
                  (try simp only [Act.put, pA, pB, pC, pD, pE, pF])
                  refine wpAnyH_ready (rs := [11]) (by kernel_rfl) (by simp) ?_
                  refine AllReadyH.cons (o := _) rfl (fun K hK => ?_) AllReadyH.nil
                  go_simp; (with_reducible refine (cmpF F (by repeat (first | exact m0 | apply m1)) (by repeat (first | exact m0 | apply m1)) (by omega) (1) HY.out).mono ?_); rintro e wn ⟨vn, rfl, rfl, hb⟩; replace F := F.below hb; replace hfr126 := lte hfr126 hb; replace hcur := bthen hcur hb; go_wp2_with fail
                  refine hK.out _ _ hcur (fun hHeld => ?_)
                  clear hK K hHeld
                  (try simp only [Act.put, pA, pB, pC, pD, pE, pF])
                  refine tk (i := 12) (v := .bool true) rfl (by kernel_rfl) (by kernel_rfl) (fun W hSw => by (go_simp; (try (with_reducible rfl)))) hcur ?_
                  (try simp only [Act.put, pA, pB, pC, pD, pE, pF])
                  refine tk (i := 13) (v := .bool true) rfl (by kernel_rfl) (by kernel_rfl) (fun W hSw => by (go_simp; (try (with_reducible rfl)))) hcur ?_
                  (try simp only [Act.put, pA, pB, pC, pD, pE, pF])
                  refine tk (i := 14) (v := .bool true) rfl (by kernel_rfl) (by kernel_rfl) (fun W hSw => by (go_simp; (try (with_reducible rfl)))) hcur ?_
                  (try simp only [Act.put, pA, pB, pC, pD, pE, pF])
                  refine tk (i := 15) (v := .agg #[.bool b9x, .slice A9x n9x c9x]) rfl (by kernel_rfl) (by kernel_rfl) (fun W hSw => by have Cb := (B9.below hSw).cells; (go_simp; (try (with_reducible rfl)))) hcur ?_
                  (try simp only [Act.put, pA, pB, pC, pD, pE, pF])
                  refine tk (i := 16) (v := .agg #[.bool b11x, .slice A11x n11x c11x]) rfl (by kernel_rfl) (by kernel_rfl) (fun W hSw => by have Cb := (B11.below hSw).cells; (go_simp; (try (with_reducible rfl)))) hcur ?_
                  (try simp only [Act.put, pA, pB, pC, pD, pE, pF])
                  refine wpAnyH_ready (rs := [17]) (by kernel_rfl) (by simp) ?_
                  refine AllReadyH.cons (o := _) rfl (fun K hK => ?_) AllReadyH.nil
                  go_simp; (with_reducible refine (cmpF F (by repeat (first | exact m0 | apply m1)) (by repeat (first | exact m0 | apply m1)) (by omega) (1) HFR.out).mono ?_); rintro e wn ⟨vn, rfl, rfl, hb⟩; replace F := F.below hb; replace hfr126 := lte hfr126 hb; replace hcur := bthen hcur hb; go_wp2_with fail
                  refine hK.out _ _ hcur (fun hHeld => ?_)
                  clear hK K hHeld
                  (try simp only [Act.put, pA, pB, pC, pD, pE, pF])
                  refine tk (i := 18) (v := .bool false) rfl (by kernel_rfl) (by kernel_rfl) (fun W hSw => by (go_simp; (try (with_reducible rfl)))) hcur ?_
                  (try simp only [Act.put, pA, pB, pC, pD, pE, pF])
                  refine tk (i := 19) (v := .bool false) rfl (by kernel_rfl) (by kernel_rfl) (fun W hSw => by (go_simp; (try (with_reducible rfl)))) hcur ?_
                  (try simp only [Act.put, pA, pB, pC, pD, pE, pF])
                  refine tk (i := 20) (v := .agg #[.bool b9x, .slice A9x n9x c9x]) rfl (by kernel_rfl) (by kernel_rfl) (fun W hSw => by have Cb := (B9.below hSw).cells; (go_simp; (try (with_reducible rfl)))) hcur ?_
                  (try simp only [Act.put, pA, pB, pC, pD, pE, pF])
                  refine tk (i := 21) (v := .agg #[.bool b11x, .slice A11x n11x c11x]) rfl (by kernel_rfl) (by kernel_rfl) (fun W hSw => by have Cb := (B11.below hSw).cells; (go_simp; (try (with_reducible rfl)))) hcur ?_
                  (try simp only [Act.put, pA, pB, pC, pD, pE, pF])
                  refine tk (i := 24) (v := .bool false) rfl (by kernel_rfl) (by kernel_rfl) (fun W hSw => by (go_simp; (try (with_reducible rfl)))) hcur ?_
                  (try simp only [Act.put, pA, pB, pC, pD, pE, pF])
                  refine wpAnyH_ready (rs := [22]) (by kernel_rfl) (by simp) ?_
                  refine AllReadyH.cons (o := _) rfl (fun K hK => ?_) AllReadyH.nil
                  go_simp; (with_reducible refine (cmpF F (by repeat (first | exact m0 | apply m1)) (by repeat (first | exact m0 | apply m1)) (by omega) (1) HFR.out).mono ?_); rintro e wn ⟨vn, rfl, rfl, hb⟩; replace F := F.below hb; replace hfr126 := lte hfr126 hb; replace hcur := bthen hcur hb; go_wp2_with fail
                  refine hK.out _ _ hcur (fun hHeld => ?_)
                  clear hK K hHeld
                  (try simp only [Act.put, pA, pB, pC, pD, pE, pF])
                  refine tk (i := 23) (v := .bool false) rfl (by kernel_rfl) (by kernel_rfl) (fun W hSw => by (go_simp; (try (with_reducible rfl)))) hcur ?_
                  (try simp only [Act.put, pA, pB, pC, pD, pE, pF])
                  refine tk (i := 25) (v := .bool true) rfl (by kernel_rfl) (by kernel_rfl) (fun W hSw => by (go_simp; (try (with_reducible rfl)))) hcur ?_
                  (try simp only [Act.put, pA, pB, pC, pD, pE, pF])
                  refine tk (i := 26) (v := .bool true) rfl (by kernel_rfl) (by kernel_rfl) (fun W hSw => by (go_simp; (try (with_reducible rfl)))) hcur ?_
                  (try simp only [Act.put, pA, pB, pC, pD, pE, pF])
                  refine tk (i := 27) (v := .bool true) rfl (by kernel_rfl) (by kernel_rfl) (fun W hSw => by (go_simp; (try (with_reducible rfl)))) hcur ?_
                  (try simp only [Act.put, pA, pB, pC, pD, pE, pF])
                  refine wpAnyH_ready (rs := [28]) (by kernel_rfl) (by simp) ?_
                  refine AllReadyH.cons (o := _) rfl (fun K hK => ?_) AllReadyH.nil
                  go_simp
                  refine hK.out _ _ hcur (fun hHeld => ?_)
                  clear hK K hHeld
                  (try simp only [Act.put, pA, pB, pC, pD, pE, pF])
                  refine wpAnyH_done (by kernel_rfl) ?_ _
                  refine NoPanic.normal ?_
                  obtain ⟨rfl⟩ := hQ7
                  (go_wp2_with (go_at_call 19; (with_reducible refine (awake02_any _ (HT.out.below (bthen hbt hcur))).mono ?_); rintro e wn ⟨vn, rfl, rfl, hb⟩; replace hcur := bthen hcur hb))
                  go_ret
                  exact ⟨_, rfl, rfl, bthen hbt hcur⟩
end Go.Proofs.YtigoofeodbbbhaaDoor
