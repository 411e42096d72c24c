/- NumMakesZ LawNumMakes RowNumMakes, in one text. -/
import Derived.Test.YtigoofeodbbbhaaDoorNumMakesF
import Derived.Test.YtigoofeodbbbhaaDoorDrawn
import Derived.Test.YtigoofeodbbbhaaDoorNumMakesN
import Derived.Test.YtigoofeodbbbhaaDoorNumMakesP
import Derived.Test.YtigoofeodbbbhaaDoorDat2
/- NumMakes. -/
namespace Go.Proofs.YtigoofeodbbbhaaDoor
open Go.RowKit Go.Proofs.YtigoofeodbbbhaaDoorL Go.Proofs.YtigoofeodbbbhaaDoorM
set_option linter.unusedVariables false
set_option linter.unusedSimpArgs false
set_option maxRecDepth 16000 in
set_option maxHeartbeats 64000000 in
theorem numMakesZ (n1 n2 : Bool) (A1 A2 : Option Addr) (c1 c2 k1 k2 : Nat) (z1 z2 : Int) (w : World) (HT : As (Tab w)) (F0 : Fs w [⟨n2, A2, k2, c2, z2, k2, false⟩, ⟨n1, A1, k1, c1, z1, k1, false⟩]) (hxy : k1 + k2 ≤ 1048576) (hsg : z2 = 0) :
    Calls Tryd.prog 9 #[.agg [.bool n1, .slice A1 k1 c1].toArray, .agg [.bool n2, .slice A2 k2 c2].toArray] w (Gives w fun r _ => r = .bool true) := by
  have Hsg := As.mk hsg
  clear hsg
  obtain ⟨zq, zr, ok, hTQ⟩ := tq_ex z1 z2
  obtain ⟨fq, fr, hFQ⟩ := fq_ex z1 z2
  have hok := hTQ.ok
  rw [← hok] at hFQ
  clear hok
  have HTQ := As.mk hTQ
  have HFQ := As.mk hFQ
  clear hTQ hFQ
  go_enter Tryd.func9, Tryd.ntmps9
  go_wp2_with (first
    | ((with_reducible refine g_dst 2 ?_); go_must (refine ev_box 2 rfl (cs := [.bool n1, .slice A1 k1 c1]) (by rfl) ?_); intro g2 wb hb2 B2 hg2; have hbt := hb2)
    | ((with_reducible refine g_dst 3 ?_); go_must (refine ev_box 3 rfl (cs := [.bool n2, .slice A2 k2 c2]) (by rfl) ?_); intro g3 wb hb3 B3 hg3; replace B2 := B2.below hb3; replace hbt := bthen hbt hb3))
  replace F0 := F0.below hbt
  clear hg2 hb2 hg3 hb3
  go_cut [5, 6, 7] (fun s5 s6 s7 wx => ∃ (g5 g6 : Nat) (b5 b6 : Bool) (A5 A6 : Option Addr) (n5 n6 c5 c6 : Nat), s5 = .pointer (some ⟨g5, 0, none⟩) ∧ s6 = .pointer (some ⟨g6, 0, none⟩) ∧ s7 = .bool ok ∧ Below wb.heap.size wb wx ∧ Blk wx g5 [.bool b5, .slice A5 n5 c5] 26 ∧ Blk wx g6 [.bool b6, .slice A6 n6 c6] 26 ∧ Fs wx [⟨b5, A5, n5, c5, zq, k1, true⟩] ∧ Fs wx [⟨b6, A6, n6, c6, zr, k1, true⟩])
  case first =>
    as_aux_lemma =>
      have hcur := (Below.refl wb.heap.size wb).drew
      have F := F0.below hcur
      refine wp_gen2 (fun Q7 hQ7 => ?_)
      refine wp_region_held_drew (S := fun W => Below wb.heap.size wb W) (by kernel_rfl) hcur (fun hHeld => ?_)
      clear hHeld
      repeat' (first
        | ((with_reducible refine gI ?_); first
            | ((with_reducible refine s_dst 18 ?_); go_simp; (with_reducible refine (cF F (by repeat (first | exact m0 | apply m1))).mono ?_); rintro e wn ⟨vn, rfl, ⟨b18, A18, n18, c18, rfl, o, hf⟩, hb⟩; replace F := (F.below hb).cons o; (try have hne18_5 := ner hf B5); (try have hne18_6 := ner hf B6); have hfr18 := ltf hf; clear hf; (try replace B5 := B5.below hb); (try replace B6 := B6.below hb); (try replace hfr20 := lte hfr20 hb); (try replace hfr21 := lte hfr21 hb); (try replace hfr21r := lte hfr21r hb); replace hcur := bthen hcur hb; go_wp2_with fail; refine hK.out _ _ hcur (fun hHeld => ?_); clear hK K hHeld; (try simp only [Act.put, pA, pB, pC, pD, pE, pF]))
            | ((with_reducible refine s_dst 20 ?_); go_simp; (with_reducible refine (cF F (by repeat (first | exact m0 | apply m1))).mono ?_); rintro e wn ⟨vn, rfl, ⟨b20, A20, n20, c20, rfl, o, hf⟩, hb⟩; replace F := (F.below hb).cons o; (try have hne20_5 := ner hf B5); (try have hne20_6 := ner hf B6); have hfr20 := ltf hf; clear hf; (try replace B5 := B5.below hb); (try replace B6 := B6.below hb); (try replace hfr18 := lte hfr18 hb); (try replace hfr21 := lte hfr21 hb); (try replace hfr21r := lte hfr21r hb); replace hcur := bthen hcur hb; go_wp2_with fail; refine hK.out _ _ hcur (fun hHeld => ?_); clear hK K hHeld; (try simp only [Act.put, pA, pB, pC, pD, pE, pF]))
            | ((with_reducible refine s_dst 21 ?_); go_simp; (with_reducible refine (truncF F (by repeat (first | exact m0 | apply m1)) (by repeat (first | exact m0 | apply m1)) HTQ.out (by omega)).mono ?_); rintro e wn ⟨vn, rfl, ⟨qn, rn, rfl, ⟨b21, A21, n21, c21, rfl, o, hf⟩, ⟨b21r, A21r, n21r, c21r, rfl, o2, hf2⟩⟩, hb⟩; replace F := ((F.below hb).cons o).cons o2; (try have hne21_5 := ner hf B5); (try have hne21r_5 := ner hf2 B5); (try have hne21_6 := ner hf B6); (try have hne21r_6 := ner hf2 B6); have hfr21 := ltf hf; have hfr21r := ltf hf2; clear hf hf2; (try replace B5 := B5.below hb); (try replace B6 := B6.below hb); (try replace hfr18 := lte hfr18 hb); (try replace hfr20 := lte hfr20 hb); replace hcur := bthen hcur hb; go_wp2_with fail; refine hK.out _ _ hcur (fun hHeld => ?_); clear hK K hHeld; (try simp only [Act.put, pA, pB, pC, pD, pE, pF]))
            | ((with_reducible refine s_dst 5 ?_); refine st_alloc 5 rfl infoNum (cs := [.bool false, .slice none 0 0]) rfl ?_; intro g5 wn hb B5 hgn; (try have hneb5_6 := nbx B6 hgn); (try have hne18_5 := nal hfr18 hgn); (try have hne20_5 := nal hfr20 hgn); (try have hne21_5 := nal hfr21 hgn); (try have hne21r_5 := nal hfr21r hgn); have hg5 := Nat.le_trans hcur.size hgn; replace F := F.below hb; (try replace B6 := B6.below hb); (try replace hfr18 := lte hfr18 hb); (try replace hfr20 := lte hfr20 hb); (try replace hfr21 := lte hfr21 hb); (try replace hfr21r := lte hfr21r hb); replace hcur := bthen hcur hb; refine hK.out _ _ hcur (fun hHeld => ?_); clear hK K hHeld; (try simp only [Act.put, pA, pB, pC, pD, pE, pF]))
            | ((with_reducible refine s_dst 6 ?_); refine st_alloc 6 rfl infoNum (cs := [.bool false, .slice none 0 0]) rfl ?_; intro g6 wn hb B6 hgn; (try have hneb6_5 := nbx B5 hgn); (try have hne18_6 := nal hfr18 hgn); (try have hne20_6 := nal hfr20 hgn); (try have hne21_6 := nal hfr21 hgn); (try have hne21r_6 := nal hfr21r hgn); have hg6 := Nat.le_trans hcur.size hgn; replace F := F.below hb; (try replace B5 := B5.below hb); (try replace hfr18 := lte hfr18 hb); (try replace hfr20 := lte hfr20 hb); (try replace hfr21 := lte hfr21 hb); (try replace hfr21r := lte hfr21r hb); replace hcur := bthen hcur hb; refine hK.out _ _ hcur (fun hHeld => ?_); clear hK K hHeld; (try simp only [Act.put, pA, pB, pC, pD, pE, pF]))
            | (refine st_store rfl rfl B5 (news := [.bool b21, .slice A21 n21 c21]) (by rfl) infoNum (by simp) (by simp [Value.oneCell']) ?_; intro wn hon Bx; replace B5 := st2 Bx; clear Bx; replace B6 := B6.only hon (by first | exact hneb6_5 | exact (Ne.symm hneb5_6)); have oo5 : NR.Ok _ _ := (F.out _ (show (⟨b21, A21, n21, c21, _, _, _⟩ : NR) ∈ _ from (by repeat (first | exact m0 | apply m1)))).only hon hne21_5; have F1 := F; clear F; have F := F0.below (hcur.trans (hon.below hg5)); replace F := F.cons ((F1.out _ (show (⟨b21r, A21r, n21r, c21r, _, _, _⟩ : NR) ∈ _ from (by repeat (first | exact m0 | apply m1)))).only hon hne21r_5); clear F1; replace hcur := hcur.trans (hon.below hg5); clear hon; refine hK.out _ _ hcur (fun hHeld => ?_); clear hK K hHeld; (try simp only [Act.put, pA, pB, pC, pD, pE, pF]))
            | (refine st_store rfl rfl B6 (news := [.bool b21r, .slice A21r n21r c21r]) (by rfl) infoNum (by simp) (by simp [Value.oneCell']) ?_; intro wn hon Bx; replace B6 := st2 Bx; clear Bx; replace B5 := B5.only hon (by first | exact (Ne.symm hneb6_5) | exact hneb5_6); have oo6 : NR.Ok _ _ := (F.out _ (show (⟨b21r, A21r, n21r, c21r, _, _, _⟩ : NR) ∈ _ from (by repeat (first | exact m0 | apply m1)))).only hon hne21r_6; replace oo5 := oo5.only hon hne21_6; have F1 := F; clear F; have F := F0.below (hcur.trans (hon.below hg6)); clear F1; replace hcur := hcur.trans (hon.below hg6); clear hon; refine hK.out _ _ hcur (fun hHeld => ?_); clear hK K hHeld; (try simp only [Act.put, pA, pB, pC, pD, pE, pF]))
            | ((with_reducible refine s_dst 7 ?_); go_simp; refine hK.out _ _ hcur (fun hHeld => ?_); clear hK K hHeld; (try simp only [Act.put, pA, pB, pC, pD, pE, pF])))
        | ((with_reducible refine gW ?_); first
            | (refine tk (i := 0) (v := .agg #[.bool n1, .slice A1 k1 c1]) rfl (by decide +kernel) (by kernel_rfl) (fun W hSw => by have Cb := (B2.below hSw).cells; (go_simp; (try (with_reducible rfl)))) hcur ?_; (try simp only [Act.put, pA, pB, pC, pD, pE, pF]))
            | (refine tk (i := 2) (v := .agg #[.bool n2, .slice A2 k2 c2]) rfl (by decide +kernel) (by kernel_rfl) (fun W hSw => by have Cb := (B3.below hSw).cells; (go_simp; (try (with_reducible rfl)))) hcur ?_; (try simp only [Act.put, pA, pB, pC, pD, pE, pF]))
            | (refine tk (i := 5) (v := .tuple #[.agg #[.bool b21, .slice A21 n21 c21], .agg #[.bool b21r, .slice A21r n21r c21r], .bool ok]) rfl (by decide +kernel) (by kernel_rfl) (fun W hSw => by (go_simp; (try (with_reducible rfl)))) hcur ?_; (try simp only [Act.put, pA, pB, pC, pD, pE, pF]))
            | (refine tk (i := 6) (v := .agg #[.bool b21, .slice A21 n21 c21]) rfl (by decide +kernel) (by kernel_rfl) (fun W hSw => by (go_simp; (try (with_reducible rfl)))) hcur ?_; (try simp only [Act.put, pA, pB, pC, pD, pE, pF]))
            | (refine tk (i := 7) (v := .agg #[.bool b21r, .slice A21r n21r c21r]) rfl (by decide +kernel) (by kernel_rfl) (fun W hSw => by (go_simp; (try (with_reducible rfl)))) hcur ?_; (try simp only [Act.put, pA, pB, pC, pD, pE, pF]))
            | (refine tk (i := 8) (v := .bool ok) rfl (by decide +kernel) (by kernel_rfl) (fun W hSw => by (go_simp; (try (with_reducible rfl)))) hcur ?_; (try simp only [Act.put, pA, pB, pC, pD, pE, pF]))
            | refine wpAnyH_ready (rs := [1, 9, 10]) (by decide +kernel) (by simp) ?_
            | refine wpAnyH_ready (rs := [3, 9, 10]) (by decide +kernel) (by simp) ?_
            | refine wpAnyH_ready (rs := [4, 9, 10]) (by decide +kernel) (by simp) ?_
            | refine wpAnyH_ready (rs := [9, 10]) (by decide +kernel) (by simp) ?_
            | refine wpAnyH_ready (rs := [10]) (by decide +kernel) (by simp) ?_
            | refine wpAnyH_ready (rs := [11]) (by decide +kernel) (by simp) ?_
            | refine wpAnyH_ready (rs := [12]) (by decide +kernel) (by simp) ?_
            | refine wpAnyH_ready (rs := [13]) (by decide +kernel) (by simp) ?_
            | refine wpAnyH_ready (rs := [9]) (by decide +kernel) (by simp) ?_
            | refine wpAnyH_ready (rs := [4, 10]) (by decide +kernel) (by simp) ?_
            | refine wpAnyH_ready (rs := [4]) (by decide +kernel) (by simp) ?_
            | refine wpAnyH_ready (rs := [4, 9]) (by decide +kernel) (by simp) ?_
            | refine wpAnyH_ready (rs := [3, 10]) (by decide +kernel) (by simp) ?_
            | refine wpAnyH_ready (rs := [3]) (by decide +kernel) (by simp) ?_
            | refine wpAnyH_ready (rs := [3, 9]) (by decide +kernel) (by simp) ?_
            | refine wpAnyH_ready (rs := [1, 10]) (by decide +kernel) (by simp) ?_
            | refine wpAnyH_ready (rs := [1]) (by decide +kernel) (by simp) ?_
            | refine wpAnyH_ready (rs := [1, 9]) (by decide +kernel) (by simp) ?_)
        | ((with_reducible refine gA ?_); first
            | exact AllReadyH.nil
            | (refine AllReadyH.cons (o := _) (by simp only [List.getElem?_toArray, List.getElem?_cons_succ, List.getElem?_cons_zero]; rfl) (fun K hK => ?_) ?_)))
      all_goals
        refine wpAnyH_done (by kernel_rfl) ?_ _
        refine NoPanic.normal ?_
        obtain ⟨rfl⟩ := hQ7
        (go_wp2_with fail)
        go_meet
        exact ⟨g5, g6, _, _, _, _, _, _, _, _, rfl, rfl, rfl, hcur, B5, B6, (Fs.nil _).cons oo5, (Fs.nil _).cons oo6⟩
  case rest =>
    obtain ⟨g5, g6, b5x, b6x, A5x, A6x, n5x, n6x, c5x, c6x, rfl, rfl, rfl, hbx, B5, B6, Fx, Fy⟩ := hcut
    replace F0 := ((F0.below hbx).cons (Fx.out _ (List.mem_cons_self ..))).cons (Fy.out _ (List.mem_cons_self ..))
    replace B2 := B2.below hbx
    replace B3 := B3.below hbx
    replace hbt := bthen hbt hbx
    clear hbx Fx Fy
    (go_wp2_with fail)
    go_cut [8, 9, 10] (fun s8 s9 s10 wx => ∃ (g8 g9 : Nat) (b8 b9 : Bool) (A8 A9 : Option Addr) (n8 n9 c8 c9 : Nat), s8 = .pointer (some ⟨g8, 0, none⟩) ∧ s9 = .pointer (some ⟨g9, 0, none⟩) ∧ s10 = .bool ok ∧ Below wc.heap.size wc wx ∧ Blk wx g8 [.bool b8, .slice A8 n8 c8] 26 ∧ Blk wx g9 [.bool b9, .slice A9 n9 c9] 26 ∧ Fs wx [⟨b8, A8, n8, c8, fq, k1 + k2 + 2, true⟩] ∧ Fs wx [⟨b9, A9, n9, c9, fr, k1 + k2 + 2, true⟩])
    case first =>
      as_aux_lemma =>
        have hcur := (Below.refl wc.heap.size wc).drew
        have F := F0.below hcur
        refine wp_gen2 (fun Q7 hQ7 => ?_)
        refine wp_region_held_drew (S := fun W => Below wc.heap.size wc W) (by kernel_rfl) hcur (fun hHeld => ?_)
        clear hHeld
        repeat' (first
          | ((with_reducible refine gI ?_); first
              | ((with_reducible refine s_dst 27 ?_); go_simp; (with_reducible refine (cF F (by repeat (first | exact m0 | apply m1))).mono ?_); rintro e wn ⟨vn, rfl, ⟨b27, A27, n27, c27, rfl, o, hf⟩, hb⟩; replace F := (F.below hb).cons o; (try have hne27_8 := ner hf B8); (try have hne27_9 := ner hf B9); have hfr27 := ltf hf; clear hf; (try replace B8 := B8.below hb); (try replace B9 := B9.below hb); (try replace hfr29 := lte hfr29 hb); (try replace hfr30 := lte hfr30 hb); (try replace hfr30r := lte hfr30r hb); replace hcur := bthen hcur hb; go_wp2_with fail; refine hK.out _ _ hcur (fun hHeld => ?_); clear hK K hHeld; (try simp only [Act.put, pA, pB, pC, pD, pE, pF]))
              | ((with_reducible refine s_dst 29 ?_); go_simp; (with_reducible refine (cF F (by repeat (first | exact m0 | apply m1))).mono ?_); rintro e wn ⟨vn, rfl, ⟨b29, A29, n29, c29, rfl, o, hf⟩, hb⟩; replace F := (F.below hb).cons o; (try have hne29_8 := ner hf B8); (try have hne29_9 := ner hf B9); have hfr29 := ltf hf; clear hf; (try replace B8 := B8.below hb); (try replace B9 := B9.below hb); (try replace hfr27 := lte hfr27 hb); (try replace hfr30 := lte hfr30 hb); (try replace hfr30r := lte hfr30r hb); replace hcur := bthen hcur hb; go_wp2_with fail; refine hK.out _ _ hcur (fun hHeld => ?_); clear hK K hHeld; (try simp only [Act.put, pA, pB, pC, pD, pE, pF]))
              | ((with_reducible refine s_dst 30 ?_); go_simp; (with_reducible refine (floorF F (by repeat (first | exact m0 | apply m1)) (by repeat (first | exact m0 | apply m1)) HFQ.out (by omega)).mono ?_); rintro e wn ⟨vn, rfl, ⟨qn, rn, rfl, ⟨b30, A30, n30, c30, rfl, o, hf⟩, ⟨b30r, A30r, n30r, c30r, rfl, o2, hf2⟩⟩, hb⟩; replace F := ((F.below hb).cons o).cons o2; (try have hne30_8 := ner hf B8); (try have hne30r_8 := ner hf2 B8); (try have hne30_9 := ner hf B9); (try have hne30r_9 := ner hf2 B9); have hfr30 := ltf hf; have hfr30r := ltf hf2; clear hf hf2; (try replace B8 := B8.below hb); (try replace B9 := B9.below hb); (try replace hfr27 := lte hfr27 hb); (try replace hfr29 := lte hfr29 hb); replace hcur := bthen hcur hb; go_wp2_with fail; refine hK.out _ _ hcur (fun hHeld => ?_); clear hK K hHeld; (try simp only [Act.put, pA, pB, pC, pD, pE, pF]))
              | ((with_reducible refine s_dst 8 ?_); refine st_alloc 8 rfl infoNum (cs := [.bool false, .slice none 0 0]) rfl ?_; intro g8 wn hb B8 hgn; (try have hneb8_9 := nbx B9 hgn); (try have hne27_8 := nal hfr27 hgn); (try have hne29_8 := nal hfr29 hgn); (try have hne30_8 := nal hfr30 hgn); (try have hne30r_8 := nal hfr30r hgn); have hg8 := Nat.le_trans hcur.size hgn; replace F := F.below hb; (try replace B9 := B9.below hb); (try replace hfr27 := lte hfr27 hb); (try replace hfr29 := lte hfr29 hb); (try replace hfr30 := lte hfr30 hb); (try replace hfr30r := lte hfr30r hb); replace hcur := bthen hcur hb; refine hK.out _ _ hcur (fun hHeld => ?_); clear hK K hHeld; (try simp only [Act.put, pA, pB, pC, pD, pE, pF]))
              | ((with_reducible refine s_dst 9 ?_); refine st_alloc 9 rfl infoNum (cs := [.bool false, .slice none 0 0]) rfl ?_; intro g9 wn hb B9 hgn; (try have hneb9_8 := nbx B8 hgn); (try have hne27_9 := nal hfr27 hgn); (try have hne29_9 := nal hfr29 hgn); (try have hne30_9 := nal hfr30 hgn); (try have hne30r_9 := nal hfr30r hgn); have hg9 := Nat.le_trans hcur.size hgn; replace F := F.below hb; (try replace B8 := B8.below hb); (try replace hfr27 := lte hfr27 hb); (try replace hfr29 := lte hfr29 hb); (try replace hfr30 := lte hfr30 hb); (try replace hfr30r := lte hfr30r hb); replace hcur := bthen hcur hb; refine hK.out _ _ hcur (fun hHeld => ?_); clear hK K hHeld; (try simp only [Act.put, pA, pB, pC, pD, pE, pF]))
              | (refine st_store rfl rfl B8 (news := [.bool b30, .slice A30 n30 c30]) (by rfl) infoNum (by simp) (by simp [Value.oneCell']) ?_; intro wn hon Bx; replace B8 := st2 Bx; clear Bx; replace B9 := B9.only hon (by first | exact hneb9_8 | exact (Ne.symm hneb8_9)); have oo8 : NR.Ok _ _ := (F.out _ (show (⟨b30, A30, n30, c30, _, _, _⟩ : NR) ∈ _ from (by repeat (first | exact m0 | apply m1)))).only hon hne30_8; have F1 := F; clear F; have F := F0.below (hcur.trans (hon.below hg8)); replace F := F.cons ((F1.out _ (show (⟨b30r, A30r, n30r, c30r, _, _, _⟩ : NR) ∈ _ from (by repeat (first | exact m0 | apply m1)))).only hon hne30r_8); clear F1; replace hcur := hcur.trans (hon.below hg8); clear hon; refine hK.out _ _ hcur (fun hHeld => ?_); clear hK K hHeld; (try simp only [Act.put, pA, pB, pC, pD, pE, pF]))
              | (refine st_store rfl rfl B9 (news := [.bool b30r, .slice A30r n30r c30r]) (by rfl) infoNum (by simp) (by simp [Value.oneCell']) ?_; intro wn hon Bx; replace B9 := st2 Bx; clear Bx; replace B8 := B8.only hon (by first | exact (Ne.symm hneb9_8) | exact hneb8_9); have oo9 : NR.Ok _ _ := (F.out _ (show (⟨b30r, A30r, n30r, c30r, _, _, _⟩ : NR) ∈ _ from (by repeat (first | exact m0 | apply m1)))).only hon hne30r_9; replace oo8 := oo8.only hon hne30_9; have F1 := F; clear F; have F := F0.below (hcur.trans (hon.below hg9)); clear F1; replace hcur := hcur.trans (hon.below hg9); clear hon; refine hK.out _ _ hcur (fun hHeld => ?_); clear hK K hHeld; (try simp only [Act.put, pA, pB, pC, pD, pE, pF]))
              | ((with_reducible refine s_dst 10 ?_); go_simp; refine hK.out _ _ hcur (fun hHeld => ?_); clear hK K hHeld; (try simp only [Act.put, pA, pB, pC, pD, pE, pF])))
          | ((with_reducible refine gW ?_); first
              | (refine tk (i := 0) (v := .agg #[.bool n1, .slice A1 k1 c1]) rfl (by decide +kernel) (by kernel_rfl) (fun W hSw => by have Cb := (B2.below hSw).cells; (go_simp; (try (with_reducible rfl)))) hcur ?_; (try simp only [Act.put, pA, pB, pC, pD, pE, pF]))
              | (refine tk (i := 2) (v := .agg #[.bool n2, .slice A2 k2 c2]) rfl (by decide +kernel) (by kernel_rfl) (fun W hSw => by have Cb := (B3.below hSw).cells; (go_simp; (try (with_reducible rfl)))) hcur ?_; (try simp only [Act.put, pA, pB, pC, pD, pE, pF]))
              | (refine tk (i := 5) (v := .tuple #[.agg #[.bool b30, .slice A30 n30 c30], .agg #[.bool b30r, .slice A30r n30r c30r], .bool ok]) rfl (by decide +kernel) (by kernel_rfl) (fun W hSw => by (go_simp; (try (with_reducible rfl)))) hcur ?_; (try simp only [Act.put, pA, pB, pC, pD, pE, pF]))
              | (refine tk (i := 6) (v := .agg #[.bool b30, .slice A30 n30 c30]) rfl (by decide +kernel) (by kernel_rfl) (fun W hSw => by (go_simp; (try (with_reducible rfl)))) hcur ?_; (try simp only [Act.put, pA, pB, pC, pD, pE, pF]))
              | (refine tk (i := 7) (v := .agg #[.bool b30r, .slice A30r n30r c30r]) rfl (by decide +kernel) (by kernel_rfl) (fun W hSw => by (go_simp; (try (with_reducible rfl)))) hcur ?_; (try simp only [Act.put, pA, pB, pC, pD, pE, pF]))
              | (refine tk (i := 8) (v := .bool ok) rfl (by decide +kernel) (by kernel_rfl) (fun W hSw => by (go_simp; (try (with_reducible rfl)))) hcur ?_; (try simp only [Act.put, pA, pB, pC, pD, pE, pF]))
              | refine wpAnyH_ready (rs := [1, 9, 10]) (by decide +kernel) (by simp) ?_
              | refine wpAnyH_ready (rs := [3, 9, 10]) (by decide +kernel) (by simp) ?_
              | refine wpAnyH_ready (rs := [4, 9, 10]) (by decide +kernel) (by simp) ?_
              | refine wpAnyH_ready (rs := [9, 10]) (by decide +kernel) (by simp) ?_
              | refine wpAnyH_ready (rs := [10]) (by decide +kernel) (by simp) ?_
              | refine wpAnyH_ready (rs := [11]) (by decide +kernel) (by simp) ?_
              | refine wpAnyH_ready (rs := [12]) (by decide +kernel) (by simp) ?_
              | refine wpAnyH_ready (rs := [13]) (by decide +kernel) (by simp) ?_
              | refine wpAnyH_ready (rs := [9]) (by decide +kernel) (by simp) ?_
              | refine wpAnyH_ready (rs := [4, 10]) (by decide +kernel) (by simp) ?_
              | refine wpAnyH_ready (rs := [4]) (by decide +kernel) (by simp) ?_
              | refine wpAnyH_ready (rs := [4, 9]) (by decide +kernel) (by simp) ?_
              | refine wpAnyH_ready (rs := [3, 10]) (by decide +kernel) (by simp) ?_
              | refine wpAnyH_ready (rs := [3]) (by decide +kernel) (by simp) ?_
              | refine wpAnyH_ready (rs := [3, 9]) (by decide +kernel) (by simp) ?_
              | refine wpAnyH_ready (rs := [1, 10]) (by decide +kernel) (by simp) ?_
              | refine wpAnyH_ready (rs := [1]) (by decide +kernel) (by simp) ?_
              | refine wpAnyH_ready (rs := [1, 9]) (by decide +kernel) (by simp) ?_)
          | ((with_reducible refine gA ?_); first
              | exact AllReadyH.nil
              | (refine AllReadyH.cons (o := _) (by simp only [List.getElem?_toArray, List.getElem?_cons_succ, List.getElem?_cons_zero]; rfl) (fun K hK => ?_) ?_)))
        all_goals
          refine wpAnyH_done (by kernel_rfl) ?_ _
          refine NoPanic.normal ?_
          obtain ⟨rfl⟩ := hQ7
          (go_wp2_with fail)
          go_meet
          exact ⟨g8, g9, _, _, _, _, _, _, _, _, rfl, rfl, rfl, hcur, B8, B9, (Fs.nil _).cons oo8, (Fs.nil _).cons oo9⟩
    case rest =>
      obtain ⟨g8, g9, b8x, b9x, A8x, A9x, n8x, n9x, c8x, c9x, rfl, rfl, rfl, hbx, B8, B9, Fx, Fy⟩ := hcut
      replace F0 := ((F0.below hbx).cons (Fx.out _ (List.mem_cons_self ..))).cons (Fy.out _ (List.mem_cons_self ..))
      replace B2 := B2.below hbx
      replace B3 := B3.below hbx
      replace B5 := B5.below hbx
      replace B6 := B6.below hbx
      replace hbt := bthen hbt hbx
      clear hbx Fx Fy
      go_wp2_with (first
        | (go_at_call 27; (with_reducible refine (ofF (0) (by omega) (by omega)).mono ?_); rintro e wn ⟨vn, rfl, ⟨b11x, A11x, n11x, c11x, rfl, o11, _⟩, hbn⟩; replace F0 := (F0.below hbn).cons o11; replace B2 := B2.below hbn; replace B3 := B3.below hbn; replace B5 := B5.below hbn; replace B6 := B6.below hbn; replace B8 := B8.below hbn; replace B9 := B9.below hbn; replace hbt := bthen hbt hbn; clear o11 hbn)
        | ((with_reducible refine g_dst 11 ?_); go_must (refine ev_alloc 11 rfl infoNum (cs := [.bool false, .slice none 0 0]) rfl ?_); intro g11 wn hb11 B11 hg11)
        | ((with_reducible refine g_store 11 ?_); go_must (refine ev_store rfl rfl B11 (news := [.bool b11x, .slice A11x n11x c11x]) (by rfl) infoNum (by simp) (by simp [Value.oneCell']) ?_); intro wn hon Bn; simp only [List.take_zero, List.nil_append, List.length_cons, List.length_nil, List.drop_succ_cons, List.drop_zero, List.append_nil, List.cons_append] at Bn; have hbn := hb11.trans (hon.below hg11); replace B11 := Bn; clear Bn; replace F0 := F0.below hbn; replace B2 := B2.below hbn; replace B3 := B3.below hbn; replace B5 := B5.below hbn; replace B6 := B6.below hbn; replace B8 := B8.below hbn; replace B9 := B9.below hbn; replace hbt := bthen hbt hbn; clear hb11 hon))
      obtain ⟨wd, rfl⟩ : ∃ wd : World, wd = wn := ⟨_, rfl⟩
      rcases HTQ.out with ⟨h0, hq0, hr0, hk0⟩ | ⟨h0, hq0, hr0, hk0⟩
      · as_aux_lemma =>
          subst hk0
          have HC0 : As (cmpZ (z2) (0) = 0) := ⟨by rw [cmpZ, if_neg (by omega), if_pos (by omega)]⟩
          clear h0 hq0 hr0
          have hcur := (Below.refl wd.heap.size wd).drew
          have F := F0.below hcur
          refine wp_gen2 (fun Q7 hQ7 => ?_)
          refine wp_region_held_drew (S := fun W => Below wd.heap.size wd W) (by kernel_rfl) hcur (fun hHeld => ?_)
          clear hHeld
          refine tk (i := 0) (v := .agg #[.bool n2, .slice A2 k2 c2]) rfl (by kernel_rfl) (by kernel_rfl) (fun W hSw => by have Cb := (B3.below hSw).cells; (go_simp; (try (with_reducible rfl)))) hcur ?_
          (try simp only [Act.put, pA, pB, pC, pD, pE, pF])
          refine tk (i := 2) (v := .agg #[.bool b11x, .slice A11x n11x c11x]) rfl (by kernel_rfl) (by kernel_rfl) (fun W hSw => by have Cb := (B11.below hSw).cells; (go_simp; (try (with_reducible rfl)))) hcur ?_
          (try simp only [Act.put, pA, pB, pC, pD, pE, pF])
          refine wpAnyH_ready (rs := [1]) (by kernel_rfl) (by simp) ?_
          refine AllReadyH.cons (o := _) rfl (fun K hK => ?_) AllReadyH.nil
          go_simp; (with_reducible refine (cF F (by repeat (first | exact m0 | apply m1))).mono ?_); rintro e wn ⟨vn, rfl, ⟨b36, A36, n36, c36, rfl, o, hf⟩, hb⟩; replace F := (F.below hb).cons o; have hfr36 := ltf hf; clear hf; replace hcur := bthen hcur hb; go_wp2_with fail
          refine hK.out _ _ hcur (fun hHeld => ?_)
          clear hK K hHeld
          (try simp only [Act.put, pA, pB, pC, pD, pE, pF])
          refine wpAnyH_ready (rs := [3]) (by kernel_rfl) (by simp) ?_
          refine AllReadyH.cons (o := _) rfl (fun K hK => ?_) AllReadyH.nil
          go_simp; (with_reducible refine (cmpF F (by repeat (first | exact m0 | apply m1)) (by repeat (first | exact m0 | apply m1)) (by omega) (0) HC0.out).mono ?_); rintro e wn ⟨vn, rfl, rfl, hb⟩; replace F := F.below hb; replace hfr36 := lte hfr36 hb; replace hcur := bthen hcur hb; go_wp2_with fail
          refine hK.out _ _ hcur (fun hHeld => ?_)
          clear hK K hHeld
          (try simp only [Act.put, pA, pB, pC, pD, pE, pF])
          refine tk (i := 4) (v := .bool true) rfl (by kernel_rfl) (by kernel_rfl) (fun W hSw => by (go_simp; (try (with_reducible rfl)))) hcur ?_
          (try simp only [Act.put, pA, pB, pC, pD, pE, pF])
          refine wpAnyH_done (by kernel_rfl) ?_ _
          refine NoPanic.normal ?_
          obtain ⟨rfl⟩ := hQ7
          (go_wp2_with (go_at_call 19; (with_reducible refine (awake02_any _ (HT.out.below (bthen hbt hcur))).mono ?_); rintro e wn ⟨vn, rfl, rfl, hb⟩; replace hcur := bthen hcur hb))
          go_ret
          exact ⟨_, rfl, rfl, bthen hbt hcur⟩
      · exact absurd Hsg.out h0
end Go.Proofs.YtigoofeodbbbhaaDoor
/- NumMakes. -/
namespace Go.Proofs.YtigoofeodbbbhaaDoor
open Go.RowKit Go.Proofs.YtigoofeodbbbhaaDoorL Go.Proofs.YtigoofeodbbbhaaDoorM
set_option linter.unusedVariables false
set_option linter.unusedSimpArgs false
set_option maxRecDepth 16000 in
set_option maxHeartbeats 16000000 in
theorem numMakes_any (x y : LN) (w : World) (htab : Tab w) (hx : LimN w x) (hy : LimN w y) (hxy : x.mag.length + y.mag.length ≤ 1048576) :
    Calls Tryd.prog 9 #[.agg (encN x).toArray, .agg (encN y).toArray] w (Gives w fun r _ => r = .bool true) := by
  obtain ⟨n1, A1, c1, l1⟩ := x
  obtain ⟨n2, A2, c2, l2⟩ := y
  simp only [encN]
  replace hxy : l1.length + l2.length ≤ 1048576 := hxy
  obtain ⟨k1, z1, e1, o1⟩ := open_num hx
  obtain ⟨k2, z2, e2, o2⟩ := open_num hy
  have F0 := ((Fs.nil w).cons o1).cons o2
  rw [e1, e2] at hxy ⊢
  have HT := As.mk htab
  clear htab hx hy e1 o1 e2 o2
  rcases Int.lt_trichotomy z2 0 with h | h | h
  · exact numMakesN _ _ _ _ _ _ _ _ _ _ _ HT F0 hxy h
  · exact numMakesZ _ _ _ _ _ _ _ _ _ _ _ HT F0 hxy h
  · exact numMakesP _ _ _ _ _ _ _ _ _ _ _ HT F0 hxy h
end Go.Proofs.YtigoofeodbbbhaaDoor
/- The row of tandemlaw02.NumMakes. -/
namespace Go.Proofs.YtigoofeodbbbhaaDoor
open Go.RowKit Go.Proofs.YtigoofeodbbbhaaDoorL Go.Proofs.YtigoofeodbbbhaaDoorM Go.ChangeShapes Go.WideShapes Go.ChangeAt Go.Deep
set_option linter.unusedVariables false
set_option linter.unusedSimpArgs false
def numMakesArgs : Array Value := #[.agg #[.bool false, .slice none 0 0], .agg #[.bool false, .slice none 0 0]]
theorem numMakes_laid (os : Os) : laidMet Tryd.prog Rows.numMakesUptoRow.laid ((laidWorld os).forCall (fun _ _ => 0) ⟨#[], numMakesArgs, []⟩).memory :=
  laidMet_of_run' 8 (by kernel_rfl) (by kernel_rfl)
theorem numMakes_reads (os : Os) {H : Type} (enc : TypeId × Value → H) : ∃ x, DataW.whole enc Tryd.prog ((laidWorld os).forCall (fun _ _ => 0) ⟨#[], numMakesArgs, []⟩).memory Tryd.f9.params.toList Rows.numMakesSpec.vars false numMakesArgs.toList 8 = some x ∧ Rows.uptoSmall H (x.1 ++ x.2.1) = true :=
  ⟨([.agg [.lit (.bool false), .nil], .agg [.lit (.bool false), .nil]], [], []), by kernel_rfl, by kernel_rfl⟩
set_option maxRecDepth 100000 in
theorem numMakes_contract (H : Type) (enc : TypeId × Value → H) (W : World) (base : Nat) (args : Array Value) (ds gs : List (DataW H)) (before : List MemPlace)
    (hval : ∀ (j : Nat) t v, Tryd.f9.params[j]? = some t → args[j]? = some v → Value.okWide Tryd.prog W .any base t v)
    (hW : DataW.Whole enc Tryd.prog Tryd.f9.params.toList Rows.numMakesSpec.vars false W args.toList ds gs before) (hk : Rows.uptoSmall H (ds ++ gs) = true) (hL : laidMetH Tryd.prog Rows.numSumsRow.laid W) :
    Calls Tryd.prog 9 args W fun e W' => ∃ v, e = .returned v ∧ Rows.numMakesSpec.post enc Tryd.prog Tryd.f9 false true false false W args v W' := by
  have hW' := hW
  obtain ⟨p, q, hA0, hV, rfl, hfz, hnd⟩ := hW
  have hA : DataW.TrodAll enc Tryd.prog W 0 (fun _ => true) true Tryd.f9.params.toList args.toList ds p := hA0
  rw [Tryd.params9] at hA hval
  obtain ⟨v0, vs0, d0, ds0, p0, q0, hv0, rfl, rfl, h0, r0⟩ := trodAll_cons hA
  obtain ⟨v1, vs1, d1, ds1, p1, q1, hv1, rfl, rfl, h1, r1⟩ := trodAll_cons r0
  obtain ⟨hv2, rfl, rfl⟩ := trodAll_nil r1
  obtain rfl : args = #[v0, v1] := by
    have e : args.toList = [v0, v1] := by rw [hv0, hv1, hv2]
    exact Array.toList_inj.1 e
  obtain ⟨rfl, rfl⟩ := trodVars_none hV
  have hb : Rows.uptoBulk d0 + (Rows.uptoBulk d1 + 0) ≤ 1048576 := by
    simpa only [List.append_nil, Rows.uptoSmall, Rows.uptoBulkAll, decide_eq_true_eq] using hk
  obtain ⟨x0, rfl, hx0, hg0⟩ := openN (hval 0 26 v0 rfl rfl) h0
  obtain ⟨x1, rfl, hx1, hg1⟩ := openN (hval 1 26 v1 rfl rfl) h1
  clear hA0
  refine (numMakes_any x0 x1 W (tab_of hL) (hg0 (by omega)) (hg1 (by omega)) (by omega)).mono fun e W' ⟨v, he, hv, bel⟩ => ?_
  subst he hv
  exact ⟨_, rfl, law_post rfl Tryd.underlying4 laidOut (by rw [Tryd.params9]; decide +kernel) rfl hW' rfl bel⟩
set_option maxRecDepth 100000 in
theorem numMakes_lifted (os : Os) (started : os.Started) (H : Type) (enc : TypeId × Value → H) (F : Stop.Interp) :
    ReturnsInHanded {} Tryd.checked os 9 .any ((Rows.OpenSpec.upto Rows.numMakesSpec).preRow enc Tryd.prog Tryd.f9 Rows.numMakesUptoRow.domain false Rows.numMakesUptoRow.laid) (((Rows.OpenSpec.upto Rows.numMakesSpec).at F).post enc Tryd.prog Tryd.f9 false true false false) := by
  obtain ⟨x, hx, hxs⟩ := numMakes_reads os enc
  refine returnsInHanded_of_row (C := Tryd.checked) (s := Rows.OpenSpec.upto Rows.numMakesSpec) ownK started (by kernel_rfl) Tryd.func9
    (witness_row_at (enc := enc) (C := Tryd.checked) false (laidWorld os) numMakesArgs rfl (by kernel_rfl) (by kernel_rfl) (by kernel_rfl)
      (OpenSpec.preRow_of_cond 8 hx (by rfl) (fun k hk => by cases hk; exact hxs) (by kernel_rfl) (numMakes_laid os))) ?_
  intro W base args ds gs before hval hW _ hk _ hL _ _
  exact numMakes_contract H enc W base args ds gs before hval hW (hk _ rfl) hL
theorem numMakes_saidUpto : Rows.NumMakesUptoSaid :=
  OpenClaim.holds_of_cond 9 Tryd.f9 rfl rfl rfl rfl rfl rfl rfl ⟨rfl, rfl, rfl, rfl, rfl⟩ rfl rfl rfl rfl rfl (by kernel_rfl) Tryd.func9 (by kernel_rfl)
    (of_decide_eq_true (by kernel_rfl)) (by unfold Func.isWrapper; first | (rw [if_pos (by decide +kernel)]; kernel_rfl) | (rw [if_neg (by decide +kernel)]; exact ⟨rfl, rfl⟩))
    (fun os started H enc _ F => by rw [OpenClaim.pre_eq_preRow]; exact numMakes_lifted os started H enc F)
theorem numMakes_plainly (f : FuncId) (fn : Func) (hf : Tryd.pinned.checked.prog.funcNamed "tandem/tandemlaw02.NumMakes" = some f) (hfn : Tryd.pinned.checked.prog.funcs[f]? = some fn) :
    true = Tryd.pinned.checked.prog.looks [] ∧ ∀ (j : Nat) t, fn.params[j]? = some t → Tryd.pinned.checked.prog.wantsStandIn t = false := by
  obtain rfl : f = 9 := Option.some.inj ((show Tryd.prog.funcNamed "tandem/tandemlaw02.NumMakes" = some 9 by kernel_rfl).symm.trans hf) |>.symm
  obtain rfl : fn = Tryd.f9 := (Option.some.inj (Tryd.func9.symm.trans hfn)).symm
  refine ⟨by kernel_rfl, fun j t ht => ?_⟩
  rw [Tryd.params9] at ht
  have hm := Array.mem_of_getElem? ht
  simp only [Array.mem_def, List.mem_cons, List.not_mem_nil, or_false] at hm
  rcases hm with rfl | rfl
  · exact (show Tryd.prog.wantsStandIn 26 = false by kernel_rfl)
  · exact (show Tryd.prog.wantsStandIn 26 = false by kernel_rfl)
theorem NumMakesUptoCard_holds : Rows.NumMakesUptoCardSaid :=
  Claim7.holds_tied_plain_at .later [] _ _ _ _ numMakes_saidUpto (fun _ h => by cases h) (by kernel_rfl) (fun _ h => by cases h) numMakesUpto_row_tie rfl ⟨rfl, rfl⟩ (by kernel_rfl) rfl numMakes_plainly (by kernel_rfl)
end Go.Proofs.YtigoofeodbbbhaaDoor
