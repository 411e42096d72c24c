/- LawNumQuotients RowNumQuotients, in one text. -/
import Derived.Test.YtigoofeodbbbhaaDoorNumF
import Derived.Test.YtigoofeodbbbhaaDoorNum10
import Derived.Test.YtigoofeodbbbhaaDoorDat2
/- NumQuotients. -/
namespace Go.Proofs.YtigoofeodbbbhaaDoor
open Go.RowKit Go.Proofs.YtigoofeodbbbhaaDoorL Go.Proofs.YtigoofeodbbbhaaDoorM
set_option linter.unusedVariables false
set_option linter.unusedSimpArgs false
set_option maxRecDepth 16000 in
set_option maxHeartbeats 16000000 in
theorem numQuotients_any (x y : LN) (w : World) (htab : Tab w) (hx : LimN w x) (hy : LimN w y) (hxy : x.mag.length + y.mag.length ≤ 1048576) :
    Calls Tryd.prog 4 #[.agg (encN x).toArray, .agg (encN y).toArray] w (Gives w fun r _ => r = .bool true) := by
  obtain ⟨n1, A1, c1, l1⟩ := x
  obtain ⟨n2, A2, c2, l2⟩ := y
  simp only [encN]
  replace hxy : l1.length + l2.length ≤ 1048576 := hxy
  obtain ⟨k1, z1, e1, o1⟩ := open_num hx
  obtain ⟨k2, z2, e2, o2⟩ := open_num hy
  have F0 := ((Fs.nil w).cons o1).cons o2
  rw [e1, e2] at hxy ⊢
  have HT := As.mk htab
  clear htab hx hy e1 o1 e2 o2
  obtain ⟨zq, zr, ok, hTQ⟩ := tq_ex z1 z2
  obtain ⟨fq, fr, hFQ⟩ := fq_ex z1 z2
  have hok := hTQ.ok
  rw [← hok] at hFQ
  clear hok
  have HTQ := As.mk hTQ
  have HFQ := As.mk hFQ
  clear hTQ hFQ
  go_enter Tryd.func4, Tryd.ntmps4
  go_wp2_with (first
    | ((with_reducible refine g_dst 2 ?_); go_must (refine ev_box 2 rfl (cs := [.bool n1, .slice A1 k1 c1]) (by rfl) ?_); intro g2 wb hb2 B2 hg2; have hbt := hb2)
    | ((with_reducible refine g_dst 3 ?_); go_must (refine ev_box 3 rfl (cs := [.bool n2, .slice A2 k2 c2]) (by rfl) ?_); intro g3 wb hb3 B3 hg3; replace B2 := B2.below hb3; replace hbt := bthen hbt hb3))
  replace F0 := F0.below hbt
  clear hg2 hb2 hg3 hb3
  go_cut [5, 6, 7] (fun s5 s6 s7 wx => ∃ (g5 g6 : Nat) (b5 b6 : Bool) (A5 A6 : Option Addr) (n5 n6 c5 c6 : Nat), s5 = .pointer (some ⟨g5, 0, none⟩) ∧ s6 = .pointer (some ⟨g6, 0, none⟩) ∧ s7 = .bool ok ∧ As (wb.heap.size ≤ g5 ∧ wb.heap.size ≤ g6 ∧ g6 ≠ g5) ∧ Below wb.heap.size wb wx ∧ Blk wx g5 [.bool b5, .slice A5 n5 c5] 26 ∧ Blk wx g6 [.bool b6, .slice A6 n6 c6] 26 ∧ Fs wx [⟨b5, A5, n5, c5, zq, k1, true⟩] ∧ Fs wx [⟨b6, A6, n6, c6, zr, k1, true⟩])
  case first =>
    as_aux_lemma =>
      have hcur := (Below.refl wb.heap.size wb).drew
      have F := F0.below hcur
      refine wp_gen2 (fun Q7 hQ7 => ?_)
      refine wp_region_held_drew (S := fun W => Below wb.heap.size wb W) (by kernel_rfl) hcur (fun hHeld => ?_)
      clear hHeld
      refine wpAnyH_take (i := 0) (oi := _) (v := .agg #[.bool n1, .slice A1 k1 c1]) rfl (by kernel_rfl) (by kernel_rfl) (by kernel_rfl) (fun _ _ _ h => h) (Or.inl ⟨by kernel_rfl, fun W hSw => by have Cb := (B2.below hSw).cells; ((try dsimp only at hSw); go_simp; (try (with_reducible rfl)))⟩) hcur ?_
      (try simp (config := {maxSteps := 2000000}) only [Act.put, List.setIfInBounds_toArray, List.set_cons_zero, List.set_cons_succ, List.getElem_toArray, List.getElem_cons_zero, List.getElem_cons_succ])
      refine wpAnyH_take (i := 2) (oi := _) (v := .agg #[.bool n2, .slice A2 k2 c2]) rfl (by kernel_rfl) (by kernel_rfl) (by kernel_rfl) (fun _ _ _ h => h) (Or.inl ⟨by kernel_rfl, fun W hSw => by have Cb := (B3.below hSw).cells; ((try dsimp only at hSw); go_simp; (try (with_reducible rfl)))⟩) hcur ?_
      (try simp (config := {maxSteps := 2000000}) only [Act.put, List.setIfInBounds_toArray, List.set_cons_zero, List.set_cons_succ, List.getElem_toArray, List.getElem_cons_zero, List.getElem_cons_succ])
      refine wpAnyH_ready (rs := [1, 9, 10]) (by kernel_rfl) (by simp) ?_
      refine AllReadyH.cons (o := _) rfl (fun K hK => ?_) ?_
      · go_simp; (with_reducible refine (cF F (by repeat (first | exact List.mem_cons_self .. | apply List.mem_cons_of_mem))).mono ?_); rintro e wn ⟨vn, rfl, ⟨b13, A13, n13, c13, rfl, o, hf⟩, hb⟩; replace F := (F.below hb).cons o; have hfr13 : ∀ k ∈ addrBlock A13, k < _ := (fun k hk => (hf k hk).2); clear hf; replace hcur := bthen hcur hb; go_wp2_with fail
        refine hK.out _ _ hcur (fun hHeld => ?_)
        clear hK K hHeld
        (try simp (config := {maxSteps := 2000000}) only [Act.put, List.setIfInBounds_toArray, List.set_cons_zero, List.set_cons_succ, List.getElem_toArray, List.getElem_cons_zero, List.getElem_cons_succ])
        refine wpAnyH_ready (rs := [3, 9, 10]) (by kernel_rfl) (by simp) ?_
        refine AllReadyH.cons (o := _) rfl (fun K hK => ?_) ?_
        · go_simp; (with_reducible refine (cF F (by repeat (first | exact List.mem_cons_self .. | apply List.mem_cons_of_mem))).mono ?_); rintro e wn ⟨vn, rfl, ⟨b15, A15, n15, c15, rfl, o, hf⟩, hb⟩; replace F := (F.below hb).cons o; have hfr15 : ∀ k ∈ addrBlock A15, k < _ := (fun k hk => (hf k hk).2); clear hf; replace hfr13 : ∀ k ∈ addrBlock A13, k < _ := (fun k hk => Nat.lt_of_lt_of_le (hfr13 k hk) hb.size); replace hcur := bthen hcur hb; go_wp2_with fail
          refine hK.out _ _ hcur (fun hHeld => ?_)
          clear hK K hHeld
          (try simp (config := {maxSteps := 2000000}) only [Act.put, List.setIfInBounds_toArray, List.set_cons_zero, List.set_cons_succ, List.getElem_toArray, List.getElem_cons_zero, List.getElem_cons_succ])
          refine wpAnyH_ready (rs := [4, 9, 10]) (by kernel_rfl) (by simp) ?_
          refine AllReadyH.cons (o := _) rfl (fun K hK => ?_) ?_
          · go_simp; (with_reducible refine (truncF F (by repeat (first | exact List.mem_cons_self .. | apply List.mem_cons_of_mem)) (by repeat (first | exact List.mem_cons_self .. | apply List.mem_cons_of_mem)) HTQ.out (by omega)).mono ?_); rintro e wn ⟨vn, rfl, ⟨qn, rn, rfl, ⟨b16, A16, n16, c16, rfl, o, hf⟩, ⟨b16r, A16r, n16r, c16r, rfl, o2, hf2⟩⟩, hb⟩; replace F := ((F.below hb).cons o).cons o2; have hfr16 : ∀ k ∈ addrBlock A16, k < _ := (fun k hk => (hf k hk).2); have hfr16r : ∀ k ∈ addrBlock A16r, k < _ := (fun k hk => (hf2 k hk).2); clear hf hf2; replace hfr13 : ∀ k ∈ addrBlock A13, k < _ := (fun k hk => Nat.lt_of_lt_of_le (hfr13 k hk) hb.size); replace hfr15 : ∀ k ∈ addrBlock A15, k < _ := (fun k hk => Nat.lt_of_lt_of_le (hfr15 k hk) hb.size); replace hcur := bthen hcur hb; go_wp2_with fail
            refine hK.out _ _ hcur (fun hHeld => ?_)
            clear hK K hHeld
            (try simp (config := {maxSteps := 2000000}) only [Act.put, List.setIfInBounds_toArray, List.set_cons_zero, List.set_cons_succ, List.getElem_toArray, List.getElem_cons_zero, List.getElem_cons_succ])
            refine wpAnyH_take (i := 5) (oi := _) (v := .tuple #[.agg #[.bool b16, .slice A16 n16 c16], .agg #[.bool b16r, .slice A16r n16r c16r], .bool ok]) rfl (by kernel_rfl) (by kernel_rfl) (by kernel_rfl) (fun _ _ _ h => h) (Or.inl ⟨by kernel_rfl, fun W hSw => by ((try dsimp only at hSw); go_simp; (try (with_reducible rfl)))⟩) hcur ?_
            (try simp (config := {maxSteps := 2000000}) only [Act.put, List.setIfInBounds_toArray, List.set_cons_zero, List.set_cons_succ, List.getElem_toArray, List.getElem_cons_zero, List.getElem_cons_succ])
            refine wpAnyH_take (i := 6) (oi := _) (v := .agg #[.bool b16, .slice A16 n16 c16]) rfl (by kernel_rfl) (by kernel_rfl) (by kernel_rfl) (fun _ _ _ h => h) (Or.inl ⟨by kernel_rfl, fun W hSw => by ((try dsimp only at hSw); go_simp; (try (with_reducible rfl)))⟩) hcur ?_
            (try simp (config := {maxSteps := 2000000}) only [Act.put, List.setIfInBounds_toArray, List.set_cons_zero, List.set_cons_succ, List.getElem_toArray, List.getElem_cons_zero, List.getElem_cons_succ])
            refine wpAnyH_take (i := 7) (oi := _) (v := .agg #[.bool b16r, .slice A16r n16r c16r]) rfl (by kernel_rfl) (by kernel_rfl) (by kernel_rfl) (fun _ _ _ h => h) (Or.inl ⟨by kernel_rfl, fun W hSw => by ((try dsimp only at hSw); go_simp; (try (with_reducible rfl)))⟩) hcur ?_
            (try simp (config := {maxSteps := 2000000}) only [Act.put, List.setIfInBounds_toArray, List.set_cons_zero, List.set_cons_succ, List.getElem_toArray, List.getElem_cons_zero, List.getElem_cons_succ])
            refine wpAnyH_take (i := 8) (oi := _) (v := .bool ok) rfl (by kernel_rfl) (by kernel_rfl) (by kernel_rfl) (fun _ _ _ h => h) (Or.inl ⟨by kernel_rfl, fun W hSw => by ((try dsimp only at hSw); go_simp; (try (with_reducible rfl)))⟩) hcur ?_
            (try simp (config := {maxSteps := 2000000}) only [Act.put, List.setIfInBounds_toArray, List.set_cons_zero, List.set_cons_succ, List.getElem_toArray, List.getElem_cons_zero, List.getElem_cons_succ])
            refine wpAnyH_ready (rs := [9, 10]) (by kernel_rfl) (by simp) ?_
            refine AllReadyH.cons (o := _) rfl (fun K hK => ?_) ?_
            · refine st_alloc 5 rfl infoNum (cs := [.bool false, .slice none 0 0]) rfl ?_; intro g5 wn hb B5 hgn; have hne13_5 : ∀ k ∈ addrBlock A13, k ≠ g5 := (fun k hk e => by (have h1 := hfr13 k hk; omega)); have hne15_5 : ∀ k ∈ addrBlock A15, k ≠ g5 := (fun k hk e => by (have h1 := hfr15 k hk; omega)); have hne16_5 : ∀ k ∈ addrBlock A16, k ≠ g5 := (fun k hk e => by (have h1 := hfr16 k hk; omega)); have hne16r_5 : ∀ k ∈ addrBlock A16r, k ≠ g5 := (fun k hk e => by (have h1 := hfr16r k hk; omega)); have hg5 := Nat.le_trans hcur.size hgn; replace F := F.below hb; replace hfr13 : ∀ k ∈ addrBlock A13, k < _ := (fun k hk => Nat.lt_of_lt_of_le (hfr13 k hk) hb.size); replace hfr15 : ∀ k ∈ addrBlock A15, k < _ := (fun k hk => Nat.lt_of_lt_of_le (hfr15 k hk) hb.size); replace hfr16 : ∀ k ∈ addrBlock A16, k < _ := (fun k hk => Nat.lt_of_lt_of_le (hfr16 k hk) hb.size); replace hfr16r : ∀ k ∈ addrBlock A16r, k < _ := (fun k hk => Nat.lt_of_lt_of_le (hfr16r k hk) hb.size); replace hcur := bthen hcur hb
              refine hK.out _ _ hcur (fun hHeld => ?_)
              clear hK K hHeld
              (try simp (config := {maxSteps := 2000000}) only [Act.put, List.setIfInBounds_toArray, List.set_cons_zero, List.set_cons_succ, List.getElem_toArray, List.getElem_cons_zero, List.getElem_cons_succ])
              refine wpAnyH_ready (rs := [10]) (by kernel_rfl) (by simp) ?_
              refine AllReadyH.cons (o := _) rfl (fun K hK => ?_) AllReadyH.nil
              refine st_alloc 6 rfl infoNum (cs := [.bool false, .slice none 0 0]) rfl ?_; intro g6 wn hb B6 hgn; have hneb6_5 : g6 ≠ g5 := (fun e => by (have h1 := B5.lt; omega)); have hne13_6 : ∀ k ∈ addrBlock A13, k ≠ g6 := (fun k hk e => by (have h1 := hfr13 k hk; omega)); have hne15_6 : ∀ k ∈ addrBlock A15, k ≠ g6 := (fun k hk e => by (have h1 := hfr15 k hk; omega)); have hne16_6 : ∀ k ∈ addrBlock A16, k ≠ g6 := (fun k hk e => by (have h1 := hfr16 k hk; omega)); have hne16r_6 : ∀ k ∈ addrBlock A16r, k ≠ g6 := (fun k hk e => by (have h1 := hfr16r k hk; omega)); have hg6 := Nat.le_trans hcur.size hgn; replace F := F.below hb; replace B5 := B5.below hb; replace hfr13 : ∀ k ∈ addrBlock A13, k < _ := (fun k hk => Nat.lt_of_lt_of_le (hfr13 k hk) hb.size); replace hfr15 : ∀ k ∈ addrBlock A15, k < _ := (fun k hk => Nat.lt_of_lt_of_le (hfr15 k hk) hb.size); replace hfr16 : ∀ k ∈ addrBlock A16, k < _ := (fun k hk => Nat.lt_of_lt_of_le (hfr16 k hk) hb.size); replace hfr16r : ∀ k ∈ addrBlock A16r, k < _ := (fun k hk => Nat.lt_of_lt_of_le (hfr16r k hk) hb.size); replace hcur := bthen hcur hb
              refine hK.out _ _ hcur (fun hHeld => ?_)
              clear hK K hHeld
              (try simp (config := {maxSteps := 2000000}) only [Act.put, List.setIfInBounds_toArray, List.set_cons_zero, List.set_cons_succ, List.getElem_toArray, List.getElem_cons_zero, List.getElem_cons_succ])
              refine wpAnyH_ready (rs := [11]) (by kernel_rfl) (by simp) ?_
              refine AllReadyH.cons (o := _) rfl (fun K hK => ?_) AllReadyH.nil
              refine st_store rfl rfl B5 (news := [.bool b16, .slice A16 n16 c16]) (by rfl) infoNum (by simp) (by simp [Value.oneCell']) ?_; intro wn hon Bx; simp only [List.take_zero, List.nil_append, List.length_cons, List.length_nil, List.drop_succ_cons, List.drop_zero, List.append_nil, List.cons_append] at Bx; replace B5 := Bx; clear Bx; replace B6 := B6.only hon hneb6_5; have oo5 : NR.Ok _ _ := (F.out _ (show (⟨b16, A16, n16, c16, _, _, _⟩ : NR) ∈ _ from (by repeat (first | exact List.mem_cons_self .. | apply List.mem_cons_of_mem)))).only hon hne16_5; have F1 := F; clear F; have F := F0.below (hcur.trans (hon.below hg5)); replace F := F.cons ((F1.out _ (show (⟨b16r, A16r, n16r, c16r, _, _, _⟩ : NR) ∈ _ from (by repeat (first | exact List.mem_cons_self .. | apply List.mem_cons_of_mem)))).only hon hne16r_5); clear F1; replace hcur := hcur.trans (hon.below hg5); clear hon
              refine hK.out _ _ hcur (fun hHeld => ?_)
              clear hK K hHeld
              (try simp (config := {maxSteps := 2000000}) only [Act.put, List.setIfInBounds_toArray, List.set_cons_zero, List.set_cons_succ, List.getElem_toArray, List.getElem_cons_zero, List.getElem_cons_succ])
              refine wpAnyH_ready (rs := [12]) (by kernel_rfl) (by simp) ?_
              refine AllReadyH.cons (o := _) rfl (fun K hK => ?_) AllReadyH.nil
              refine st_store rfl rfl B6 (news := [.bool b16r, .slice A16r n16r c16r]) (by rfl) infoNum (by simp) (by simp [Value.oneCell']) ?_; intro wn hon Bx; simp only [List.take_zero, List.nil_append, List.length_cons, List.length_nil, List.drop_succ_cons, List.drop_zero, List.append_nil, List.cons_append] at Bx; replace B6 := Bx; clear Bx; replace B5 := B5.only hon (Ne.symm hneb6_5); have oo6 : NR.Ok _ _ := (F.out _ (show (⟨b16r, A16r, n16r, c16r, _, _, _⟩ : NR) ∈ _ from (by repeat (first | exact List.mem_cons_self .. | apply List.mem_cons_of_mem)))).only hon hne16r_6; replace oo5 := oo5.only hon hne16_6; have F1 := F; clear F; have F := F0.below (hcur.trans (hon.below hg6)); clear F1; replace hcur := hcur.trans (hon.below hg6); clear hon
              refine hK.out _ _ hcur (fun hHeld => ?_)
              clear hK K hHeld
              (try simp (config := {maxSteps := 2000000}) only [Act.put, List.setIfInBounds_toArray, List.set_cons_zero, List.set_cons_succ, List.getElem_toArray, List.getElem_cons_zero, List.getElem_cons_succ])
              refine wpAnyH_ready (rs := [13]) (by kernel_rfl) (by simp) ?_
              refine AllReadyH.cons (o := _) rfl (fun K hK => ?_) AllReadyH.nil
              go_simp
              refine hK.out _ _ hcur (fun hHeld => ?_)
              clear hK K hHeld
              (try simp (config := {maxSteps := 2000000}) only [Act.put, List.setIfInBounds_toArray, List.set_cons_zero, List.set_cons_succ, List.getElem_toArray, List.getElem_cons_zero, List.getElem_cons_succ])
              refine wpAnyH_done (by kernel_rfl) ?_ _
              refine NoPanic.normal ?_
              obtain ⟨rfl⟩ := hQ7
              (go_wp2_with fail)
              go_meet
              exact ⟨g5, g6, _, _, _, _, _, _, _, _, rfl, rfl, rfl, ⟨hg5, hg6, by first | exact hneb6_5 | exact (Ne.symm hneb5_6)⟩, hcur, B5, B6, (Fs.nil _).cons oo5, (Fs.nil _).cons oo6⟩
            refine AllReadyH.cons (o := _) rfl (fun K hK => ?_) ?_
            · refine st_alloc 6 rfl infoNum (cs := [.bool false, .slice none 0 0]) rfl ?_; intro g6 wn hb B6 hgn; have hne13_6 : ∀ k ∈ addrBlock A13, k ≠ g6 := (fun k hk e => by (have h1 := hfr13 k hk; omega)); have hne15_6 : ∀ k ∈ addrBlock A15, k ≠ g6 := (fun k hk e => by (have h1 := hfr15 k hk; omega)); have hne16_6 : ∀ k ∈ addrBlock A16, k ≠ g6 := (fun k hk e => by (have h1 := hfr16 k hk; omega)); have hne16r_6 : ∀ k ∈ addrBlock A16r, k ≠ g6 := (fun k hk e => by (have h1 := hfr16r k hk; omega)); have hg6 := Nat.le_trans hcur.size hgn; replace F := F.below hb; replace hfr13 : ∀ k ∈ addrBlock A13, k < _ := (fun k hk => Nat.lt_of_lt_of_le (hfr13 k hk) hb.size); replace hfr15 : ∀ k ∈ addrBlock A15, k < _ := (fun k hk => Nat.lt_of_lt_of_le (hfr15 k hk) hb.size); replace hfr16 : ∀ k ∈ addrBlock A16, k < _ := (fun k hk => Nat.lt_of_lt_of_le (hfr16 k hk) hb.size); replace hfr16r : ∀ k ∈ addrBlock A16r, k < _ := (fun k hk => Nat.lt_of_lt_of_le (hfr16r k hk) hb.size); replace hcur := bthen hcur hb
              refine hK.out _ _ hcur (fun hHeld => ?_)
              clear hK K hHeld
              (try simp (config := {maxSteps := 2000000}) only [Act.put, List.setIfInBounds_toArray, List.set_cons_zero, List.set_cons_succ, List.getElem_toArray, List.getElem_cons_zero, List.getElem_cons_succ])
              refine wpAnyH_ready (rs := [9]) (by kernel_rfl) (by simp) ?_
              refine AllReadyH.cons (o := _) rfl (fun K hK => ?_) AllReadyH.nil
              refine st_alloc 5 rfl infoNum (cs := [.bool false, .slice none 0 0]) rfl ?_; intro g5 wn hb B5 hgn; have hneb5_6 : g5 ≠ g6 := (fun e => by (have h1 := B6.lt; omega)); have hne13_5 : ∀ k ∈ addrBlock A13, k ≠ g5 := (fun k hk e => by (have h1 := hfr13 k hk; omega)); have hne15_5 : ∀ k ∈ addrBlock A15, k ≠ g5 := (fun k hk e => by (have h1 := hfr15 k hk; omega)); have hne16_5 : ∀ k ∈ addrBlock A16, k ≠ g5 := (fun k hk e => by (have h1 := hfr16 k hk; omega)); have hne16r_5 : ∀ k ∈ addrBlock A16r, k ≠ g5 := (fun k hk e => by (have h1 := hfr16r k hk; omega)); have hg5 := Nat.le_trans hcur.size hgn; replace F := F.below hb; replace B6 := B6.below hb; replace hfr13 : ∀ k ∈ addrBlock A13, k < _ := (fun k hk => Nat.lt_of_lt_of_le (hfr13 k hk) hb.size); replace hfr15 : ∀ k ∈ addrBlock A15, k < _ := (fun k hk => Nat.lt_of_lt_of_le (hfr15 k hk) hb.size); replace hfr16 : ∀ k ∈ addrBlock A16, k < _ := (fun k hk => Nat.lt_of_lt_of_le (hfr16 k hk) hb.size); replace hfr16r : ∀ k ∈ addrBlock A16r, k < _ := (fun k hk => Nat.lt_of_lt_of_le (hfr16r k hk) hb.size); replace hcur := bthen hcur hb
              refine hK.out _ _ hcur (fun hHeld => ?_)
              clear hK K hHeld
              (try simp (config := {maxSteps := 2000000}) only [Act.put, List.setIfInBounds_toArray, List.set_cons_zero, List.set_cons_succ, List.getElem_toArray, List.getElem_cons_zero, List.getElem_cons_succ])
              refine wpAnyH_ready (rs := [11]) (by kernel_rfl) (by simp) ?_
              refine AllReadyH.cons (o := _) rfl (fun K hK => ?_) AllReadyH.nil
              refine st_store rfl rfl B5 (news := [.bool b16, .slice A16 n16 c16]) (by rfl) infoNum (by simp) (by simp [Value.oneCell']) ?_; intro wn hon Bx; simp only [List.take_zero, List.nil_append, List.length_cons, List.length_nil, List.drop_succ_cons, List.drop_zero, List.append_nil, List.cons_append] at Bx; replace B5 := Bx; clear Bx; replace B6 := B6.only hon (Ne.symm hneb5_6); have oo5 : NR.Ok _ _ := (F.out _ (show (⟨b16, A16, n16, c16, _, _, _⟩ : NR) ∈ _ from (by repeat (first | exact List.mem_cons_self .. | apply List.mem_cons_of_mem)))).only hon hne16_5; have F1 := F; clear F; have F := F0.below (hcur.trans (hon.below hg5)); replace F := F.cons ((F1.out _ (show (⟨b16r, A16r, n16r, c16r, _, _, _⟩ : NR) ∈ _ from (by repeat (first | exact List.mem_cons_self .. | apply List.mem_cons_of_mem)))).only hon hne16r_5); clear F1; replace hcur := hcur.trans (hon.below hg5); clear hon
              refine hK.out _ _ hcur (fun hHeld => ?_)
              clear hK K hHeld
              (try simp (config := {maxSteps := 2000000}) only [Act.put, List.setIfInBounds_toArray, List.set_cons_zero, List.set_cons_succ, List.getElem_toArray, List.getElem_cons_zero, List.getElem_cons_succ])
              refine wpAnyH_ready (rs := [12]) (by kernel_rfl) (by simp) ?_
              refine AllReadyH.cons (o := _) rfl (fun K hK => ?_) AllReadyH.nil
              refine st_store rfl rfl B6 (news := [.bool b16r, .slice A16r n16r c16r]) (by rfl) infoNum (by simp) (by simp [Value.oneCell']) ?_; intro wn hon Bx; simp only [List.take_zero, List.nil_append, List.length_cons, List.length_nil, List.drop_succ_cons, List.drop_zero, List.append_nil, List.cons_append] at Bx; replace B6 := Bx; clear Bx; replace B5 := B5.only hon hneb5_6; have oo6 : NR.Ok _ _ := (F.out _ (show (⟨b16r, A16r, n16r, c16r, _, _, _⟩ : NR) ∈ _ from (by repeat (first | exact List.mem_cons_self .. | apply List.mem_cons_of_mem)))).only hon hne16r_6; replace oo5 := oo5.only hon hne16_6; have F1 := F; clear F; have F := F0.below (hcur.trans (hon.below hg6)); clear F1; replace hcur := hcur.trans (hon.below hg6); clear hon
              refine hK.out _ _ hcur (fun hHeld => ?_)
              clear hK K hHeld
              (try simp (config := {maxSteps := 2000000}) only [Act.put, List.setIfInBounds_toArray, List.set_cons_zero, List.set_cons_succ, List.getElem_toArray, List.getElem_cons_zero, List.getElem_cons_succ])
              refine wpAnyH_ready (rs := [13]) (by kernel_rfl) (by simp) ?_
              refine AllReadyH.cons (o := _) rfl (fun K hK => ?_) AllReadyH.nil
              go_simp
              refine hK.out _ _ hcur (fun hHeld => ?_)
              clear hK K hHeld
              (try simp (config := {maxSteps := 2000000}) only [Act.put, List.setIfInBounds_toArray, List.set_cons_zero, List.set_cons_succ, List.getElem_toArray, List.getElem_cons_zero, List.getElem_cons_succ])
              refine wpAnyH_done (by kernel_rfl) ?_ _
              refine NoPanic.normal ?_
              obtain ⟨rfl⟩ := hQ7
              (go_wp2_with fail)
              go_meet
              exact ⟨g5, g6, _, _, _, _, _, _, _, _, rfl, rfl, rfl, ⟨hg5, hg6, by first | exact hneb6_5 | exact (Ne.symm hneb5_6)⟩, hcur, B5, B6, (Fs.nil _).cons oo5, (Fs.nil _).cons oo6⟩
            exact AllReadyH.nil
          refine AllReadyH.cons (o := _) rfl (fun K hK => ?_) ?_
          · refine st_alloc 5 rfl infoNum (cs := [.bool false, .slice none 0 0]) rfl ?_; intro g5 wn hb B5 hgn; have hne13_5 : ∀ k ∈ addrBlock A13, k ≠ g5 := (fun k hk e => by (have h1 := hfr13 k hk; omega)); have hne15_5 : ∀ k ∈ addrBlock A15, k ≠ g5 := (fun k hk e => by (have h1 := hfr15 k hk; omega)); have hg5 := Nat.le_trans hcur.size hgn; replace F := F.below hb; replace hfr13 : ∀ k ∈ addrBlock A13, k < _ := (fun k hk => Nat.lt_of_lt_of_le (hfr13 k hk) hb.size); replace hfr15 : ∀ k ∈ addrBlock A15, k < _ := (fun k hk => Nat.lt_of_lt_of_le (hfr15 k hk) hb.size); replace hcur := bthen hcur hb
            refine hK.out _ _ hcur (fun hHeld => ?_)
            clear hK K hHeld
            (try simp (config := {maxSteps := 2000000}) only [Act.put, List.setIfInBounds_toArray, List.set_cons_zero, List.set_cons_succ, List.getElem_toArray, List.getElem_cons_zero, List.getElem_cons_succ])
            refine wpAnyH_ready (rs := [4, 10]) (by kernel_rfl) (by simp) ?_
            refine AllReadyH.cons (o := _) rfl (fun K hK => ?_) ?_
            · go_simp; (with_reducible refine (truncF F (by repeat (first | exact List.mem_cons_self .. | apply List.mem_cons_of_mem)) (by repeat (first | exact List.mem_cons_self .. | apply List.mem_cons_of_mem)) HTQ.out (by omega)).mono ?_); rintro e wn ⟨vn, rfl, ⟨qn, rn, rfl, ⟨b16, A16, n16, c16, rfl, o, hf⟩, ⟨b16r, A16r, n16r, c16r, rfl, o2, hf2⟩⟩, hb⟩; replace F := ((F.below hb).cons o).cons o2; have hne16_5 : ∀ k ∈ addrBlock A16, k ≠ g5 := (fun k hk e => by (have h1 := (hf k hk).1; have h2 := B5.lt; omega)); have hne16r_5 : ∀ k ∈ addrBlock A16r, k ≠ g5 := (fun k hk e => by (have h1 := (hf2 k hk).1; have h2 := B5.lt; omega)); have hfr16 : ∀ k ∈ addrBlock A16, k < _ := (fun k hk => (hf k hk).2); have hfr16r : ∀ k ∈ addrBlock A16r, k < _ := (fun k hk => (hf2 k hk).2); clear hf hf2; replace B5 := B5.below hb; replace hfr13 : ∀ k ∈ addrBlock A13, k < _ := (fun k hk => Nat.lt_of_lt_of_le (hfr13 k hk) hb.size); replace hfr15 : ∀ k ∈ addrBlock A15, k < _ := (fun k hk => Nat.lt_of_lt_of_le (hfr15 k hk) hb.size); replace hcur := bthen hcur hb; go_wp2_with fail
              refine hK.out _ _ hcur (fun hHeld => ?_)
              clear hK K hHeld
              (try simp (config := {maxSteps := 2000000}) only [Act.put, List.setIfInBounds_toArray, List.set_cons_zero, List.set_cons_succ, List.getElem_toArray, List.getElem_cons_zero, List.getElem_cons_succ])
              refine wpAnyH_take (i := 5) (oi := _) (v := .tuple #[.agg #[.bool b16, .slice A16 n16 c16], .agg #[.bool b16r, .slice A16r n16r c16r], .bool ok]) rfl (by kernel_rfl) (by kernel_rfl) (by kernel_rfl) (fun _ _ _ h => h) (Or.inl ⟨by kernel_rfl, fun W hSw => by ((try dsimp only at hSw); go_simp; (try (with_reducible rfl)))⟩) hcur ?_
              (try simp (config := {maxSteps := 2000000}) only [Act.put, List.setIfInBounds_toArray, List.set_cons_zero, List.set_cons_succ, List.getElem_toArray, List.getElem_cons_zero, List.getElem_cons_succ])
              refine wpAnyH_take (i := 6) (oi := _) (v := .agg #[.bool b16, .slice A16 n16 c16]) rfl (by kernel_rfl) (by kernel_rfl) (by kernel_rfl) (fun _ _ _ h => h) (Or.inl ⟨by kernel_rfl, fun W hSw => by ((try dsimp only at hSw); go_simp; (try (with_reducible rfl)))⟩) hcur ?_
              (try simp (config := {maxSteps := 2000000}) only [Act.put, List.setIfInBounds_toArray, List.set_cons_zero, List.set_cons_succ, List.getElem_toArray, List.getElem_cons_zero, List.getElem_cons_succ])
              refine wpAnyH_take (i := 7) (oi := _) (v := .agg #[.bool b16r, .slice A16r n16r c16r]) rfl (by kernel_rfl) (by kernel_rfl) (by kernel_rfl) (fun _ _ _ h => h) (Or.inl ⟨by kernel_rfl, fun W hSw => by ((try dsimp only at hSw); go_simp; (try (with_reducible rfl)))⟩) hcur ?_
              (try simp (config := {maxSteps := 2000000}) only [Act.put, List.setIfInBounds_toArray, List.set_cons_zero, List.set_cons_succ, List.getElem_toArray, List.getElem_cons_zero, List.getElem_cons_succ])
              refine wpAnyH_take (i := 8) (oi := _) (v := .bool ok) rfl (by kernel_rfl) (by kernel_rfl) (by kernel_rfl) (fun _ _ _ h => h) (Or.inl ⟨by kernel_rfl, fun W hSw => by ((try dsimp only at hSw); go_simp; (try (with_reducible rfl)))⟩) hcur ?_
              (try simp (config := {maxSteps := 2000000}) only [Act.put, List.setIfInBounds_toArray, List.set_cons_zero, List.set_cons_succ, List.getElem_toArray, List.getElem_cons_zero, List.getElem_cons_succ])
              refine wpAnyH_ready (rs := [10]) (by kernel_rfl) (by simp) ?_
              refine AllReadyH.cons (o := _) rfl (fun K hK => ?_) AllReadyH.nil
              refine st_alloc 6 rfl infoNum (cs := [.bool false, .slice none 0 0]) rfl ?_; intro g6 wn hb B6 hgn; have hneb6_5 : g6 ≠ g5 := (fun e => by (have h1 := B5.lt; omega)); have hne13_6 : ∀ k ∈ addrBlock A13, k ≠ g6 := (fun k hk e => by (have h1 := hfr13 k hk; omega)); have hne15_6 : ∀ k ∈ addrBlock A15, k ≠ g6 := (fun k hk e => by (have h1 := hfr15 k hk; omega)); have hne16_6 : ∀ k ∈ addrBlock A16, k ≠ g6 := (fun k hk e => by (have h1 := hfr16 k hk; omega)); have hne16r_6 : ∀ k ∈ addrBlock A16r, k ≠ g6 := (fun k hk e => by (have h1 := hfr16r k hk; omega)); have hg6 := Nat.le_trans hcur.size hgn; replace F := F.below hb; replace B5 := B5.below hb; replace hfr13 : ∀ k ∈ addrBlock A13, k < _ := (fun k hk => Nat.lt_of_lt_of_le (hfr13 k hk) hb.size); replace hfr15 : ∀ k ∈ addrBlock A15, k < _ := (fun k hk => Nat.lt_of_lt_of_le (hfr15 k hk) hb.size); replace hfr16 : ∀ k ∈ addrBlock A16, k < _ := (fun k hk => Nat.lt_of_lt_of_le (hfr16 k hk) hb.size); replace hfr16r : ∀ k ∈ addrBlock A16r, k < _ := (fun k hk => Nat.lt_of_lt_of_le (hfr16r k hk) hb.size); replace hcur := bthen hcur hb
              refine hK.out _ _ hcur (fun hHeld => ?_)
              clear hK K hHeld
              (try simp (config := {maxSteps := 2000000}) only [Act.put, List.setIfInBounds_toArray, List.set_cons_zero, List.set_cons_succ, List.getElem_toArray, List.getElem_cons_zero, List.getElem_cons_succ])
              refine wpAnyH_ready (rs := [11]) (by kernel_rfl) (by simp) ?_
              refine AllReadyH.cons (o := _) rfl (fun K hK => ?_) AllReadyH.nil
              refine st_store rfl rfl B5 (news := [.bool b16, .slice A16 n16 c16]) (by rfl) infoNum (by simp) (by simp [Value.oneCell']) ?_; intro wn hon Bx; simp only [List.take_zero, List.nil_append, List.length_cons, List.length_nil, List.drop_succ_cons, List.drop_zero, List.append_nil, List.cons_append] at Bx; replace B5 := Bx; clear Bx; replace B6 := B6.only hon hneb6_5; have oo5 : NR.Ok _ _ := (F.out _ (show (⟨b16, A16, n16, c16, _, _, _⟩ : NR) ∈ _ from (by repeat (first | exact List.mem_cons_self .. | apply List.mem_cons_of_mem)))).only hon hne16_5; have F1 := F; clear F; have F := F0.below (hcur.trans (hon.below hg5)); replace F := F.cons ((F1.out _ (show (⟨b16r, A16r, n16r, c16r, _, _, _⟩ : NR) ∈ _ from (by repeat (first | exact List.mem_cons_self .. | apply List.mem_cons_of_mem)))).only hon hne16r_5); clear F1; replace hcur := hcur.trans (hon.below hg5); clear hon
              refine hK.out _ _ hcur (fun hHeld => ?_)
              clear hK K hHeld
              (try simp (config := {maxSteps := 2000000}) only [Act.put, List.setIfInBounds_toArray, List.set_cons_zero, List.set_cons_succ, List.getElem_toArray, List.getElem_cons_zero, List.getElem_cons_succ])
              refine wpAnyH_ready (rs := [12]) (by kernel_rfl) (by simp) ?_
              refine AllReadyH.cons (o := _) rfl (fun K hK => ?_) AllReadyH.nil
              refine st_store rfl rfl B6 (news := [.bool b16r, .slice A16r n16r c16r]) (by rfl) infoNum (by simp) (by simp [Value.oneCell']) ?_; intro wn hon Bx; simp only [List.take_zero, List.nil_append, List.length_cons, List.length_nil, List.drop_succ_cons, List.drop_zero, List.append_nil, List.cons_append] at Bx; replace B6 := Bx; clear Bx; replace B5 := B5.only hon (Ne.symm hneb6_5); have oo6 : NR.Ok _ _ := (F.out _ (show (⟨b16r, A16r, n16r, c16r, _, _, _⟩ : NR) ∈ _ from (by repeat (first | exact List.mem_cons_self .. | apply List.mem_cons_of_mem)))).only hon hne16r_6; replace oo5 := oo5.only hon hne16_6; have F1 := F; clear F; have F := F0.below (hcur.trans (hon.below hg6)); clear F1; replace hcur := hcur.trans (hon.below hg6); clear hon
              refine hK.out _ _ hcur (fun hHeld => ?_)
              clear hK K hHeld
              (try simp (config := {maxSteps := 2000000}) only [Act.put, List.setIfInBounds_toArray, List.set_cons_zero, List.set_cons_succ, List.getElem_toArray, List.getElem_cons_zero, List.getElem_cons_succ])
              refine wpAnyH_ready (rs := [13]) (by kernel_rfl) (by simp) ?_
              refine AllReadyH.cons (o := _) rfl (fun K hK => ?_) AllReadyH.nil
              go_simp
              refine hK.out _ _ hcur (fun hHeld => ?_)
              clear hK K hHeld
              (try simp (config := {maxSteps := 2000000}) only [Act.put, List.setIfInBounds_toArray, List.set_cons_zero, List.set_cons_succ, List.getElem_toArray, List.getElem_cons_zero, List.getElem_cons_succ])
              refine wpAnyH_done (by kernel_rfl) ?_ _
              refine NoPanic.normal ?_
              obtain ⟨rfl⟩ := hQ7
              (go_wp2_with fail)
              go_meet
              exact ⟨g5, g6, _, _, _, _, _, _, _, _, rfl, rfl, rfl, ⟨hg5, hg6, by first | exact hneb6_5 | exact (Ne.symm hneb5_6)⟩, hcur, B5, B6, (Fs.nil _).cons oo5, (Fs.nil _).cons oo6⟩
            refine AllReadyH.cons (o := _) rfl (fun K hK => ?_) ?_
            · refine st_alloc 6 rfl infoNum (cs := [.bool false, .slice none 0 0]) rfl ?_; intro g6 wn hb B6 hgn; have hneb6_5 : g6 ≠ g5 := (fun e => by (have h1 := B5.lt; omega)); have hne13_6 : ∀ k ∈ addrBlock A13, k ≠ g6 := (fun k hk e => by (have h1 := hfr13 k hk; omega)); have hne15_6 : ∀ k ∈ addrBlock A15, k ≠ g6 := (fun k hk e => by (have h1 := hfr15 k hk; omega)); have hg6 := Nat.le_trans hcur.size hgn; replace F := F.below hb; replace B5 := B5.below hb; replace hfr13 : ∀ k ∈ addrBlock A13, k < _ := (fun k hk => Nat.lt_of_lt_of_le (hfr13 k hk) hb.size); replace hfr15 : ∀ k ∈ addrBlock A15, k < _ := (fun k hk => Nat.lt_of_lt_of_le (hfr15 k hk) hb.size); replace hcur := bthen hcur hb
              refine hK.out _ _ hcur (fun hHeld => ?_)
              clear hK K hHeld
              (try simp (config := {maxSteps := 2000000}) only [Act.put, List.setIfInBounds_toArray, List.set_cons_zero, List.set_cons_succ, List.getElem_toArray, List.getElem_cons_zero, List.getElem_cons_succ])
              refine wpAnyH_ready (rs := [4]) (by kernel_rfl) (by simp) ?_
              refine AllReadyH.cons (o := _) rfl (fun K hK => ?_) AllReadyH.nil
              go_simp; (with_reducible refine (truncF F (by repeat (first | exact List.mem_cons_self .. | apply List.mem_cons_of_mem)) (by repeat (first | exact List.mem_cons_self .. | apply List.mem_cons_of_mem)) HTQ.out (by omega)).mono ?_); rintro e wn ⟨vn, rfl, ⟨qn, rn, rfl, ⟨b16, A16, n16, c16, rfl, o, hf⟩, ⟨b16r, A16r, n16r, c16r, rfl, o2, hf2⟩⟩, hb⟩; replace F := ((F.below hb).cons o).cons o2; have hne16_5 : ∀ k ∈ addrBlock A16, k ≠ g5 := (fun k hk e => by (have h1 := (hf k hk).1; have h2 := B5.lt; omega)); have hne16r_5 : ∀ k ∈ addrBlock A16r, k ≠ g5 := (fun k hk e => by (have h1 := (hf2 k hk).1; have h2 := B5.lt; omega)); have hne16_6 : ∀ k ∈ addrBlock A16, k ≠ g6 := (fun k hk e => by (have h1 := (hf k hk).1; have h2 := B6.lt; omega)); have hne16r_6 : ∀ k ∈ addrBlock A16r, k ≠ g6 := (fun k hk e => by (have h1 := (hf2 k hk).1; have h2 := B6.lt; omega)); have hfr16 : ∀ k ∈ addrBlock A16, k < _ := (fun k hk => (hf k hk).2); have hfr16r : ∀ k ∈ addrBlock A16r, k < _ := (fun k hk => (hf2 k hk).2); clear hf hf2; replace B5 := B5.below hb; replace B6 := B6.below hb; replace hfr13 : ∀ k ∈ addrBlock A13, k < _ := (fun k hk => Nat.lt_of_lt_of_le (hfr13 k hk) hb.size); replace hfr15 : ∀ k ∈ addrBlock A15, k < _ := (fun k hk => Nat.lt_of_lt_of_le (hfr15 k hk) hb.size); replace hcur := bthen hcur hb; go_wp2_with fail
              refine hK.out _ _ hcur (fun hHeld => ?_)
              clear hK K hHeld
              (try simp (config := {maxSteps := 2000000}) only [Act.put, List.setIfInBounds_toArray, List.set_cons_zero, List.set_cons_succ, List.getElem_toArray, List.getElem_cons_zero, List.getElem_cons_succ])
              refine wpAnyH_take (i := 5) (oi := _) (v := .tuple #[.agg #[.bool b16, .slice A16 n16 c16], .agg #[.bool b16r, .slice A16r n16r c16r], .bool ok]) rfl (by kernel_rfl) (by kernel_rfl) (by kernel_rfl) (fun _ _ _ h => h) (Or.inl ⟨by kernel_rfl, fun W hSw => by ((try dsimp only at hSw); go_simp; (try (with_reducible rfl)))⟩) hcur ?_
              (try simp (config := {maxSteps := 2000000}) only [Act.put, List.setIfInBounds_toArray, List.set_cons_zero, List.set_cons_succ, List.getElem_toArray, List.getElem_cons_zero, List.getElem_cons_succ])
              refine wpAnyH_take (i := 6) (oi := _) (v := .agg #[.bool b16, .slice A16 n16 c16]) rfl (by kernel_rfl) (by kernel_rfl) (by kernel_rfl) (fun _ _ _ h => h) (Or.inl ⟨by kernel_rfl, fun W hSw => by ((try dsimp only at hSw); go_simp; (try (with_reducible rfl)))⟩) hcur ?_
              (try simp (config := {maxSteps := 2000000}) only [Act.put, List.setIfInBounds_toArray, List.set_cons_zero, List.set_cons_succ, List.getElem_toArray, List.getElem_cons_zero, List.getElem_cons_succ])
              refine wpAnyH_take (i := 7) (oi := _) (v := .agg #[.bool b16r, .slice A16r n16r c16r]) rfl (by kernel_rfl) (by kernel_rfl) (by kernel_rfl) (fun _ _ _ h => h) (Or.inl ⟨by kernel_rfl, fun W hSw => by ((try dsimp only at hSw); go_simp; (try (with_reducible rfl)))⟩) hcur ?_
              (try simp (config := {maxSteps := 2000000}) only [Act.put, List.setIfInBounds_toArray, List.set_cons_zero, List.set_cons_succ, List.getElem_toArray, List.getElem_cons_zero, List.getElem_cons_succ])
              refine wpAnyH_take (i := 8) (oi := _) (v := .bool ok) rfl (by kernel_rfl) (by kernel_rfl) (by kernel_rfl) (fun _ _ _ h => h) (Or.inl ⟨by kernel_rfl, fun W hSw => by ((try dsimp only at hSw); go_simp; (try (with_reducible rfl)))⟩) hcur ?_
              (try simp (config := {maxSteps := 2000000}) only [Act.put, List.setIfInBounds_toArray, List.set_cons_zero, List.set_cons_succ, List.getElem_toArray, List.getElem_cons_zero, List.getElem_cons_succ])
              refine wpAnyH_ready (rs := [11]) (by kernel_rfl) (by simp) ?_
              refine AllReadyH.cons (o := _) rfl (fun K hK => ?_) AllReadyH.nil
              refine st_store rfl rfl B5 (news := [.bool b16, .slice A16 n16 c16]) (by rfl) infoNum (by simp) (by simp [Value.oneCell']) ?_; intro wn hon Bx; simp only [List.take_zero, List.nil_append, List.length_cons, List.length_nil, List.drop_succ_cons, List.drop_zero, List.append_nil, List.cons_append] at Bx; replace B5 := Bx; clear Bx; replace B6 := B6.only hon hneb6_5; have oo5 : NR.Ok _ _ := (F.out _ (show (⟨b16, A16, n16, c16, _, _, _⟩ : NR) ∈ _ from (by repeat (first | exact List.mem_cons_self .. | apply List.mem_cons_of_mem)))).only hon hne16_5; have F1 := F; clear F; have F := F0.below (hcur.trans (hon.below hg5)); replace F := F.cons ((F1.out _ (show (⟨b16r, A16r, n16r, c16r, _, _, _⟩ : NR) ∈ _ from (by repeat (first | exact List.mem_cons_self .. | apply List.mem_cons_of_mem)))).only hon hne16r_5); clear F1; replace hcur := hcur.trans (hon.below hg5); clear hon
              refine hK.out _ _ hcur (fun hHeld => ?_)
              clear hK K hHeld
              (try simp (config := {maxSteps := 2000000}) only [Act.put, List.setIfInBounds_toArray, List.set_cons_zero, List.set_cons_succ, List.getElem_toArray, List.getElem_cons_zero, List.getElem_cons_succ])
              refine wpAnyH_ready (rs := [12]) (by kernel_rfl) (by simp) ?_
              refine AllReadyH.cons (o := _) rfl (fun K hK => ?_) AllReadyH.nil
              refine st_store rfl rfl B6 (news := [.bool b16r, .slice A16r n16r c16r]) (by rfl) infoNum (by simp) (by simp [Value.oneCell']) ?_; intro wn hon Bx; simp only [List.take_zero, List.nil_append, List.length_cons, List.length_nil, List.drop_succ_cons, List.drop_zero, List.append_nil, List.cons_append] at Bx; replace B6 := Bx; clear Bx; replace B5 := B5.only hon (Ne.symm hneb6_5); have oo6 : NR.Ok _ _ := (F.out _ (show (⟨b16r, A16r, n16r, c16r, _, _, _⟩ : NR) ∈ _ from (by repeat (first | exact List.mem_cons_self .. | apply List.mem_cons_of_mem)))).only hon hne16r_6; replace oo5 := oo5.only hon hne16_6; have F1 := F; clear F; have F := F0.below (hcur.trans (hon.below hg6)); clear F1; replace hcur := hcur.trans (hon.below hg6); clear hon
              refine hK.out _ _ hcur (fun hHeld => ?_)
              clear hK K hHeld
              (try simp (config := {maxSteps := 2000000}) only [Act.put, List.setIfInBounds_toArray, List.set_cons_zero, List.set_cons_succ, List.getElem_toArray, List.getElem_cons_zero, List.getElem_cons_succ])
              refine wpAnyH_ready (rs := [13]) (by kernel_rfl) (by simp) ?_
              refine AllReadyH.cons (o := _) rfl (fun K hK => ?_) AllReadyH.nil
              go_simp
              refine hK.out _ _ hcur (fun hHeld => ?_)
              clear hK K hHeld
              (try simp (config := {maxSteps := 2000000}) only [Act.put, List.setIfInBounds_toArray, List.set_cons_zero, List.set_cons_succ, List.getElem_toArray, List.getElem_cons_zero, List.getElem_cons_succ])
              refine wpAnyH_done (by kernel_rfl) ?_ _
              refine NoPanic.normal ?_
              obtain ⟨rfl⟩ := hQ7
              (go_wp2_with fail)
              go_meet
              exact ⟨g5, g6, _, _, _, _, _, _, _, _, rfl, rfl, rfl, ⟨hg5, hg6, by first | exact hneb6_5 | exact (Ne.symm hneb5_6)⟩, hcur, B5, B6, (Fs.nil _).cons oo5, (Fs.nil _).cons oo6⟩
            exact AllReadyH.nil
          refine AllReadyH.cons (o := _) rfl (fun K hK => ?_) ?_
          · refine st_alloc 6 rfl infoNum (cs := [.bool false, .slice none 0 0]) rfl ?_; intro g6 wn hb B6 hgn; have hne13_6 : ∀ k ∈ addrBlock A13, k ≠ g6 := (fun k hk e => by (have h1 := hfr13 k hk; omega)); have hne15_6 : ∀ k ∈ addrBlock A15, k ≠ g6 := (fun k hk e => by (have h1 := hfr15 k hk; omega)); have hg6 := Nat.le_trans hcur.size hgn; replace F := F.below hb; replace hfr13 : ∀ k ∈ addrBlock A13, k < _ := (fun k hk => Nat.lt_of_lt_of_le (hfr13 k hk) hb.size); replace hfr15 : ∀ k ∈ addrBlock A15, k < _ := (fun k hk => Nat.lt_of_lt_of_le (hfr15 k hk) hb.size); replace hcur := bthen hcur hb
            refine hK.out _ _ hcur (fun hHeld => ?_)
            clear hK K hHeld
            (try simp (config := {maxSteps := 2000000}) only [Act.put, List.setIfInBounds_toArray, List.set_cons_zero, List.set_cons_succ, List.getElem_toArray, List.getElem_cons_zero, List.getElem_cons_succ])
            refine wpAnyH_ready (rs := [4, 9]) (by kernel_rfl) (by simp) ?_
            refine AllReadyH.cons (o := _) rfl (fun K hK => ?_) ?_
            · go_simp; (with_reducible refine (truncF F (by repeat (first | exact List.mem_cons_self .. | apply List.mem_cons_of_mem)) (by repeat (first | exact List.mem_cons_self .. | apply List.mem_cons_of_mem)) HTQ.out (by omega)).mono ?_); rintro e wn ⟨vn, rfl, ⟨qn, rn, rfl, ⟨b16, A16, n16, c16, rfl, o, hf⟩, ⟨b16r, A16r, n16r, c16r, rfl, o2, hf2⟩⟩, hb⟩; replace F := ((F.below hb).cons o).cons o2; have hne16_6 : ∀ k ∈ addrBlock A16, k ≠ g6 := (fun k hk e => by (have h1 := (hf k hk).1; have h2 := B6.lt; omega)); have hne16r_6 : ∀ k ∈ addrBlock A16r, k ≠ g6 := (fun k hk e => by (have h1 := (hf2 k hk).1; have h2 := B6.lt; omega)); have hfr16 : ∀ k ∈ addrBlock A16, k < _ := (fun k hk => (hf k hk).2); have hfr16r : ∀ k ∈ addrBlock A16r, k < _ := (fun k hk => (hf2 k hk).2); clear hf hf2; replace B6 := B6.below hb; replace hfr13 : ∀ k ∈ addrBlock A13, k < _ := (fun k hk => Nat.lt_of_lt_of_le (hfr13 k hk) hb.size); replace hfr15 : ∀ k ∈ addrBlock A15, k < _ := (fun k hk => Nat.lt_of_lt_of_le (hfr15 k hk) hb.size); replace hcur := bthen hcur hb; go_wp2_with fail
              refine hK.out _ _ hcur (fun hHeld => ?_)
              clear hK K hHeld
              (try simp (config := {maxSteps := 2000000}) only [Act.put, List.setIfInBounds_toArray, List.set_cons_zero, List.set_cons_succ, List.getElem_toArray, List.getElem_cons_zero, List.getElem_cons_succ])
              refine wpAnyH_take (i := 5) (oi := _) (v := .tuple #[.agg #[.bool b16, .slice A16 n16 c16], .agg #[.bool b16r, .slice A16r n16r c16r], .bool ok]) rfl (by kernel_rfl) (by kernel_rfl) (by kernel_rfl) (fun _ _ _ h => h) (Or.inl ⟨by kernel_rfl, fun W hSw => by ((try dsimp only at hSw); go_simp; (try (with_reducible rfl)))⟩) hcur ?_
              (try simp (config := {maxSteps := 2000000}) only [Act.put, List.setIfInBounds_toArray, List.set_cons_zero, List.set_cons_succ, List.getElem_toArray, List.getElem_cons_zero, List.getElem_cons_succ])
              refine wpAnyH_take (i := 6) (oi := _) (v := .agg #[.bool b16, .slice A16 n16 c16]) rfl (by kernel_rfl) (by kernel_rfl) (by kernel_rfl) (fun _ _ _ h => h) (Or.inl ⟨by kernel_rfl, fun W hSw => by ((try dsimp only at hSw); go_simp; (try (with_reducible rfl)))⟩) hcur ?_
              (try simp (config := {maxSteps := 2000000}) only [Act.put, List.setIfInBounds_toArray, List.set_cons_zero, List.set_cons_succ, List.getElem_toArray, List.getElem_cons_zero, List.getElem_cons_succ])
              refine wpAnyH_take (i := 7) (oi := _) (v := .agg #[.bool b16r, .slice A16r n16r c16r]) rfl (by kernel_rfl) (by kernel_rfl) (by kernel_rfl) (fun _ _ _ h => h) (Or.inl ⟨by kernel_rfl, fun W hSw => by ((try dsimp only at hSw); go_simp; (try (with_reducible rfl)))⟩) hcur ?_
              (try simp (config := {maxSteps := 2000000}) only [Act.put, List.setIfInBounds_toArray, List.set_cons_zero, List.set_cons_succ, List.getElem_toArray, List.getElem_cons_zero, List.getElem_cons_succ])
              refine wpAnyH_take (i := 8) (oi := _) (v := .bool ok) rfl (by kernel_rfl) (by kernel_rfl) (by kernel_rfl) (fun _ _ _ h => h) (Or.inl ⟨by kernel_rfl, fun W hSw => by ((try dsimp only at hSw); go_simp; (try (with_reducible rfl)))⟩) hcur ?_
              (try simp (config := {maxSteps := 2000000}) only [Act.put, List.setIfInBounds_toArray, List.set_cons_zero, List.set_cons_succ, List.getElem_toArray, List.getElem_cons_zero, List.getElem_cons_succ])
              refine wpAnyH_ready (rs := [9]) (by kernel_rfl) (by simp) ?_
              refine AllReadyH.cons (o := _) rfl (fun K hK => ?_) AllReadyH.nil
              refine st_alloc 5 rfl infoNum (cs := [.bool false, .slice none 0 0]) rfl ?_; intro g5 wn hb B5 hgn; have hneb5_6 : g5 ≠ g6 := (fun e => by (have h1 := B6.lt; omega)); have hne13_5 : ∀ k ∈ addrBlock A13, k ≠ g5 := (fun k hk e => by (have h1 := hfr13 k hk; omega)); have hne15_5 : ∀ k ∈ addrBlock A15, k ≠ g5 := (fun k hk e => by (have h1 := hfr15 k hk; omega)); have hne16_5 : ∀ k ∈ addrBlock A16, k ≠ g5 := (fun k hk e => by (have h1 := hfr16 k hk; omega)); have hne16r_5 : ∀ k ∈ addrBlock A16r, k ≠ g5 := (fun k hk e => by (have h1 := hfr16r k hk; omega)); have hg5 := Nat.le_trans hcur.size hgn; replace F := F.below hb; replace B6 := B6.below hb; replace hfr13 : ∀ k ∈ addrBlock A13, k < _ := (fun k hk => Nat.lt_of_lt_of_le (hfr13 k hk) hb.size); replace hfr15 : ∀ k ∈ addrBlock A15, k < _ := (fun k hk => Nat.lt_of_lt_of_le (hfr15 k hk) hb.size); replace hfr16 : ∀ k ∈ addrBlock A16, k < _ := (fun k hk => Nat.lt_of_lt_of_le (hfr16 k hk) hb.size); replace hfr16r : ∀ k ∈ addrBlock A16r, k < _ := (fun k hk => Nat.lt_of_lt_of_le (hfr16r k hk) hb.size); replace hcur := bthen hcur hb
              refine hK.out _ _ hcur (fun hHeld => ?_)
              clear hK K hHeld
              (try simp (config := {maxSteps := 2000000}) only [Act.put, List.setIfInBounds_toArray, List.set_cons_zero, List.set_cons_succ, List.getElem_toArray, List.getElem_cons_zero, List.getElem_cons_succ])
              refine wpAnyH_ready (rs := [11]) (by kernel_rfl) (by simp) ?_
              refine AllReadyH.cons (o := _) rfl (fun K hK => ?_) AllReadyH.nil
              refine st_store rfl rfl B5 (news := [.bool b16, .slice A16 n16 c16]) (by rfl) infoNum (by simp) (by simp [Value.oneCell']) ?_; intro wn hon Bx; simp only [List.take_zero, List.nil_append, List.length_cons, List.length_nil, List.drop_succ_cons, List.drop_zero, List.append_nil, List.cons_append] at Bx; replace B5 := Bx; clear Bx; replace B6 := B6.only hon (Ne.symm hneb5_6); have oo5 : NR.Ok _ _ := (F.out _ (show (⟨b16, A16, n16, c16, _, _, _⟩ : NR) ∈ _ from (by repeat (first | exact List.mem_cons_self .. | apply List.mem_cons_of_mem)))).only hon hne16_5; have F1 := F; clear F; have F := F0.below (hcur.trans (hon.below hg5)); replace F := F.cons ((F1.out _ (show (⟨b16r, A16r, n16r, c16r, _, _, _⟩ : NR) ∈ _ from (by repeat (first | exact List.mem_cons_self .. | apply List.mem_cons_of_mem)))).only hon hne16r_5); clear F1; replace hcur := hcur.trans (hon.below hg5); clear hon
              refine hK.out _ _ hcur (fun hHeld => ?_)
              clear hK K hHeld
              (try simp (config := {maxSteps := 2000000}) only [Act.put, List.setIfInBounds_toArray, List.set_cons_zero, List.set_cons_succ, List.getElem_toArray, List.getElem_cons_zero, List.getElem_cons_succ])
              refine wpAnyH_ready (rs := [12]) (by kernel_rfl) (by simp) ?_
              refine AllReadyH.cons (o := _) rfl (fun K hK => ?_) AllReadyH.nil
              refine st_store rfl rfl B6 (news := [.bool b16r, .slice A16r n16r c16r]) (by rfl) infoNum (by simp) (by simp [Value.oneCell']) ?_; intro wn hon Bx; simp only [List.take_zero, List.nil_append, List.length_cons, List.length_nil, List.drop_succ_cons, List.drop_zero, List.append_nil, List.cons_append] at Bx; replace B6 := Bx; clear Bx; replace B5 := B5.only hon hneb5_6; have oo6 : NR.Ok _ _ := (F.out _ (show (⟨b16r, A16r, n16r, c16r, _, _, _⟩ : NR) ∈ _ from (by repeat (first | exact List.mem_cons_self .. | apply List.mem_cons_of_mem)))).only hon hne16r_6; replace oo5 := oo5.only hon hne16_6; have F1 := F; clear F; have F := F0.below (hcur.trans (hon.below hg6)); clear F1; replace hcur := hcur.trans (hon.below hg6); clear hon
              refine hK.out _ _ hcur (fun hHeld => ?_)
              clear hK K hHeld
              (try simp (config := {maxSteps := 2000000}) only [Act.put, List.setIfInBounds_toArray, List.set_cons_zero, List.set_cons_succ, List.getElem_toArray, List.getElem_cons_zero, List.getElem_cons_succ])
              refine wpAnyH_ready (rs := [13]) (by kernel_rfl) (by simp) ?_
              refine AllReadyH.cons (o := _) rfl (fun K hK => ?_) AllReadyH.nil
              go_simp
              refine hK.out _ _ hcur (fun hHeld => ?_)
              clear hK K hHeld
              (try simp (config := {maxSteps := 2000000}) only [Act.put, List.setIfInBounds_toArray, List.set_cons_zero, List.set_cons_succ, List.getElem_toArray, List.getElem_cons_zero, List.getElem_cons_succ])
              refine wpAnyH_done (by kernel_rfl) ?_ _
              refine NoPanic.normal ?_
              obtain ⟨rfl⟩ := hQ7
              (go_wp2_with fail)
              go_meet
              exact ⟨g5, g6, _, _, _, _, _, _, _, _, rfl, rfl, rfl, ⟨hg5, hg6, by first | exact hneb6_5 | exact (Ne.symm hneb5_6)⟩, hcur, B5, B6, (Fs.nil _).cons oo5, (Fs.nil _).cons oo6⟩
            refine AllReadyH.cons (o := _) rfl (fun K hK => ?_) ?_
            · refine st_alloc 5 rfl infoNum (cs := [.bool false, .slice none 0 0]) rfl ?_; intro g5 wn hb B5 hgn; have hneb5_6 : g5 ≠ g6 := (fun e => by (have h1 := B6.lt; omega)); have hne13_5 : ∀ k ∈ addrBlock A13, k ≠ g5 := (fun k hk e => by (have h1 := hfr13 k hk; omega)); have hne15_5 : ∀ k ∈ addrBlock A15, k ≠ g5 := (fun k hk e => by (have h1 := hfr15 k hk; omega)); have hg5 := Nat.le_trans hcur.size hgn; replace F := F.below hb; replace B6 := B6.below hb; replace hfr13 : ∀ k ∈ addrBlock A13, k < _ := (fun k hk => Nat.lt_of_lt_of_le (hfr13 k hk) hb.size); replace hfr15 : ∀ k ∈ addrBlock A15, k < _ := (fun k hk => Nat.lt_of_lt_of_le (hfr15 k hk) hb.size); replace hcur := bthen hcur hb
              refine hK.out _ _ hcur (fun hHeld => ?_)
              clear hK K hHeld
              (try simp (config := {maxSteps := 2000000}) only [Act.put, List.setIfInBounds_toArray, List.set_cons_zero, List.set_cons_succ, List.getElem_toArray, List.getElem_cons_zero, List.getElem_cons_succ])
              refine wpAnyH_ready (rs := [4]) (by kernel_rfl) (by simp) ?_
              refine AllReadyH.cons (o := _) rfl (fun K hK => ?_) AllReadyH.nil
              go_simp; (with_reducible refine (truncF F (by repeat (first | exact List.mem_cons_self .. | apply List.mem_cons_of_mem)) (by repeat (first | exact List.mem_cons_self .. | apply List.mem_cons_of_mem)) HTQ.out (by omega)).mono ?_); rintro e wn ⟨vn, rfl, ⟨qn, rn, rfl, ⟨b16, A16, n16, c16, rfl, o, hf⟩, ⟨b16r, A16r, n16r, c16r, rfl, o2, hf2⟩⟩, hb⟩; replace F := ((F.below hb).cons o).cons o2; have hne16_6 : ∀ k ∈ addrBlock A16, k ≠ g6 := (fun k hk e => by (have h1 := (hf k hk).1; have h2 := B6.lt; omega)); have hne16r_6 : ∀ k ∈ addrBlock A16r, k ≠ g6 := (fun k hk e => by (have h1 := (hf2 k hk).1; have h2 := B6.lt; omega)); have hne16_5 : ∀ k ∈ addrBlock A16, k ≠ g5 := (fun k hk e => by (have h1 := (hf k hk).1; have h2 := B5.lt; omega)); have hne16r_5 : ∀ k ∈ addrBlock A16r, k ≠ g5 := (fun k hk e => by (have h1 := (hf2 k hk).1; have h2 := B5.lt; omega)); have hfr16 : ∀ k ∈ addrBlock A16, k < _ := (fun k hk => (hf k hk).2); have hfr16r : ∀ k ∈ addrBlock A16r, k < _ := (fun k hk => (hf2 k hk).2); clear hf hf2; replace B6 := B6.below hb; replace B5 := B5.below hb; replace hfr13 : ∀ k ∈ addrBlock A13, k < _ := (fun k hk => Nat.lt_of_lt_of_le (hfr13 k hk) hb.size); replace hfr15 : ∀ k ∈ addrBlock A15, k < _ := (fun k hk => Nat.lt_of_lt_of_le (hfr15 k hk) hb.size); replace hcur := bthen hcur hb; go_wp2_with fail
              refine hK.out _ _ hcur (fun hHeld => ?_)
              clear hK K hHeld
              (try simp (config := {maxSteps := 2000000}) only [Act.put, List.setIfInBounds_toArray, List.set_cons_zero, List.set_cons_succ, List.getElem_toArray, List.getElem_cons_zero, List.getElem_cons_succ])
              refine wpAnyH_take (i := 5) (oi := _) (v := .tuple #[.agg #[.bool b16, .slice A16 n16 c16], .agg #[.bool b16r, .slice A16r n16r c16r], .bool ok]) rfl (by kernel_rfl) (by kernel_rfl) (by kernel_rfl) (fun _ _ _ h => h) (Or.inl ⟨by kernel_rfl, fun W hSw => by ((try dsimp only at hSw); go_simp; (try (with_reducible rfl)))⟩) hcur ?_
              (try simp (config := {maxSteps := 2000000}) only [Act.put, List.setIfInBounds_toArray, List.set_cons_zero, List.set_cons_succ, List.getElem_toArray, List.getElem_cons_zero, List.getElem_cons_succ])
              refine wpAnyH_take (i := 6) (oi := _) (v := .agg #[.bool b16, .slice A16 n16 c16]) rfl (by kernel_rfl) (by kernel_rfl) (by kernel_rfl) (fun _ _ _ h => h) (Or.inl ⟨by kernel_rfl, fun W hSw => by ((try dsimp only at hSw); go_simp; (try (with_reducible rfl)))⟩) hcur ?_
              (try simp (config := {maxSteps := 2000000}) only [Act.put, List.setIfInBounds_toArray, List.set_cons_zero, List.set_cons_succ, List.getElem_toArray, List.getElem_cons_zero, List.getElem_cons_succ])
              refine wpAnyH_take (i := 7) (oi := _) (v := .agg #[.bool b16r, .slice A16r n16r c16r]) rfl (by kernel_rfl) (by kernel_rfl) (by kernel_rfl) (fun _ _ _ h => h) (Or.inl ⟨by kernel_rfl, fun W hSw => by ((try dsimp only at hSw); go_simp; (try (with_reducible rfl)))⟩) hcur ?_
              (try simp (config := {maxSteps := 2000000}) only [Act.put, List.setIfInBounds_toArray, List.set_cons_zero, List.set_cons_succ, List.getElem_toArray, List.getElem_cons_zero, List.getElem_cons_succ])
              refine wpAnyH_take (i := 8) (oi := _) (v := .bool ok) rfl (by kernel_rfl) (by kernel_rfl) (by kernel_rfl) (fun _ _ _ h => h) (Or.inl ⟨by kernel_rfl, fun W hSw => by ((try dsimp only at hSw); go_simp; (try (with_reducible rfl)))⟩) hcur ?_
              (try simp (config := {maxSteps := 2000000}) only [Act.put, List.setIfInBounds_toArray, List.set_cons_zero, List.set_cons_succ, List.getElem_toArray, List.getElem_cons_zero, List.getElem_cons_succ])
              refine wpAnyH_ready (rs := [11]) (by kernel_rfl) (by simp) ?_
              refine AllReadyH.cons (o := _) rfl (fun K hK => ?_) AllReadyH.nil
              refine st_store rfl rfl B5 (news := [.bool b16, .slice A16 n16 c16]) (by rfl) infoNum (by simp) (by simp [Value.oneCell']) ?_; intro wn hon Bx; simp only [List.take_zero, List.nil_append, List.length_cons, List.length_nil, List.drop_succ_cons, List.drop_zero, List.append_nil, List.cons_append] at Bx; replace B5 := Bx; clear Bx; replace B6 := B6.only hon (Ne.symm hneb5_6); have oo5 : NR.Ok _ _ := (F.out _ (show (⟨b16, A16, n16, c16, _, _, _⟩ : NR) ∈ _ from (by repeat (first | exact List.mem_cons_self .. | apply List.mem_cons_of_mem)))).only hon hne16_5; have F1 := F; clear F; have F := F0.below (hcur.trans (hon.below hg5)); replace F := F.cons ((F1.out _ (show (⟨b16r, A16r, n16r, c16r, _, _, _⟩ : NR) ∈ _ from (by repeat (first | exact List.mem_cons_self .. | apply List.mem_cons_of_mem)))).only hon hne16r_5); clear F1; replace hcur := hcur.trans (hon.below hg5); clear hon
              refine hK.out _ _ hcur (fun hHeld => ?_)
              clear hK K hHeld
              (try simp (config := {maxSteps := 2000000}) only [Act.put, List.setIfInBounds_toArray, List.set_cons_zero, List.set_cons_succ, List.getElem_toArray, List.getElem_cons_zero, List.getElem_cons_succ])
              refine wpAnyH_ready (rs := [12]) (by kernel_rfl) (by simp) ?_
              refine AllReadyH.cons (o := _) rfl (fun K hK => ?_) AllReadyH.nil
              refine st_store rfl rfl B6 (news := [.bool b16r, .slice A16r n16r c16r]) (by rfl) infoNum (by simp) (by simp [Value.oneCell']) ?_; intro wn hon Bx; simp only [List.take_zero, List.nil_append, List.length_cons, List.length_nil, List.drop_succ_cons, List.drop_zero, List.append_nil, List.cons_append] at Bx; replace B6 := Bx; clear Bx; replace B5 := B5.only hon hneb5_6; have oo6 : NR.Ok _ _ := (F.out _ (show (⟨b16r, A16r, n16r, c16r, _, _, _⟩ : NR) ∈ _ from (by repeat (first | exact List.mem_cons_self .. | apply List.mem_cons_of_mem)))).only hon hne16r_6; replace oo5 := oo5.only hon hne16_6; have F1 := F; clear F; have F := F0.below (hcur.trans (hon.below hg6)); clear F1; replace hcur := hcur.trans (hon.below hg6); clear hon
              refine hK.out _ _ hcur (fun hHeld => ?_)
              clear hK K hHeld
              (try simp (config := {maxSteps := 2000000}) only [Act.put, List.setIfInBounds_toArray, List.set_cons_zero, List.set_cons_succ, List.getElem_toArray, List.getElem_cons_zero, List.getElem_cons_succ])
              refine wpAnyH_ready (rs := [13]) (by kernel_rfl) (by simp) ?_
              refine AllReadyH.cons (o := _) rfl (fun K hK => ?_) AllReadyH.nil
              go_simp
              refine hK.out _ _ hcur (fun hHeld => ?_)
              clear hK K hHeld
              (try simp (config := {maxSteps := 2000000}) only [Act.put, List.setIfInBounds_toArray, List.set_cons_zero, List.set_cons_succ, List.getElem_toArray, List.getElem_cons_zero, List.getElem_cons_succ])
              refine wpAnyH_done (by kernel_rfl) ?_ _
              refine NoPanic.normal ?_
              obtain ⟨rfl⟩ := hQ7
              (go_wp2_with fail)
              go_meet
              exact ⟨g5, g6, _, _, _, _, _, _, _, _, rfl, rfl, rfl, ⟨hg5, hg6, by first | exact hneb6_5 | exact (Ne.symm hneb5_6)⟩, hcur, B5, B6, (Fs.nil _).cons oo5, (Fs.nil _).cons oo6⟩
            exact AllReadyH.nil
          exact AllReadyH.nil
        refine AllReadyH.cons (o := _) rfl (fun K hK => ?_) ?_
        · refine st_alloc 5 rfl infoNum (cs := [.bool false, .slice none 0 0]) rfl ?_; intro g5 wn hb B5 hgn; have hne13_5 : ∀ k ∈ addrBlock A13, k ≠ g5 := (fun k hk e => by (have h1 := hfr13 k hk; omega)); have hg5 := Nat.le_trans hcur.size hgn; replace F := F.below hb; replace hfr13 : ∀ k ∈ addrBlock A13, k < _ := (fun k hk => Nat.lt_of_lt_of_le (hfr13 k hk) hb.size); replace hcur := bthen hcur hb
          refine hK.out _ _ hcur (fun hHeld => ?_)
          clear hK K hHeld
          (try simp (config := {maxSteps := 2000000}) only [Act.put, List.setIfInBounds_toArray, List.set_cons_zero, List.set_cons_succ, List.getElem_toArray, List.getElem_cons_zero, List.getElem_cons_succ])
          refine wpAnyH_ready (rs := [3, 10]) (by kernel_rfl) (by simp) ?_
          refine AllReadyH.cons (o := _) rfl (fun K hK => ?_) ?_
          · go_simp; (with_reducible refine (cF F (by repeat (first | exact List.mem_cons_self .. | apply List.mem_cons_of_mem))).mono ?_); rintro e wn ⟨vn, rfl, ⟨b15, A15, n15, c15, rfl, o, hf⟩, hb⟩; replace F := (F.below hb).cons o; have hne15_5 : ∀ k ∈ addrBlock A15, k ≠ g5 := (fun k hk e => by (have h1 := (hf k hk).1; have h2 := B5.lt; omega)); have hfr15 : ∀ k ∈ addrBlock A15, k < _ := (fun k hk => (hf k hk).2); clear hf; replace B5 := B5.below hb; replace hfr13 : ∀ k ∈ addrBlock A13, k < _ := (fun k hk => Nat.lt_of_lt_of_le (hfr13 k hk) hb.size); replace hcur := bthen hcur hb; go_wp2_with fail
            refine hK.out _ _ hcur (fun hHeld => ?_)
            clear hK K hHeld
            (try simp (config := {maxSteps := 2000000}) only [Act.put, List.setIfInBounds_toArray, List.set_cons_zero, List.set_cons_succ, List.getElem_toArray, List.getElem_cons_zero, List.getElem_cons_succ])
            refine wpAnyH_ready (rs := [4, 10]) (by kernel_rfl) (by simp) ?_
            refine AllReadyH.cons (o := _) rfl (fun K hK => ?_) ?_
            · go_simp; (with_reducible refine (truncF F (by repeat (first | exact List.mem_cons_self .. | apply List.mem_cons_of_mem)) (by repeat (first | exact List.mem_cons_self .. | apply List.mem_cons_of_mem)) HTQ.out (by omega)).mono ?_); rintro e wn ⟨vn, rfl, ⟨qn, rn, rfl, ⟨b16, A16, n16, c16, rfl, o, hf⟩, ⟨b16r, A16r, n16r, c16r, rfl, o2, hf2⟩⟩, hb⟩; replace F := ((F.below hb).cons o).cons o2; have hne16_5 : ∀ k ∈ addrBlock A16, k ≠ g5 := (fun k hk e => by (have h1 := (hf k hk).1; have h2 := B5.lt; omega)); have hne16r_5 : ∀ k ∈ addrBlock A16r, k ≠ g5 := (fun k hk e => by (have h1 := (hf2 k hk).1; have h2 := B5.lt; omega)); have hfr16 : ∀ k ∈ addrBlock A16, k < _ := (fun k hk => (hf k hk).2); have hfr16r : ∀ k ∈ addrBlock A16r, k < _ := (fun k hk => (hf2 k hk).2); clear hf hf2; replace B5 := B5.below hb; replace hfr13 : ∀ k ∈ addrBlock A13, k < _ := (fun k hk => Nat.lt_of_lt_of_le (hfr13 k hk) hb.size); replace hfr15 : ∀ k ∈ addrBlock A15, k < _ := (fun k hk => Nat.lt_of_lt_of_le (hfr15 k hk) hb.size); replace hcur := bthen hcur hb; go_wp2_with fail
              refine hK.out _ _ hcur (fun hHeld => ?_)
              clear hK K hHeld
              (try simp (config := {maxSteps := 2000000}) only [Act.put, List.setIfInBounds_toArray, List.set_cons_zero, List.set_cons_succ, List.getElem_toArray, List.getElem_cons_zero, List.getElem_cons_succ])
              refine wpAnyH_take (i := 5) (oi := _) (v := .tuple #[.agg #[.bool b16, .slice A16 n16 c16], .agg #[.bool b16r, .slice A16r n16r c16r], .bool ok]) rfl (by kernel_rfl) (by kernel_rfl) (by kernel_rfl) (fun _ _ _ h => h) (Or.inl ⟨by kernel_rfl, fun W hSw => by ((try dsimp only at hSw); go_simp; (try (with_reducible rfl)))⟩) hcur ?_
              (try simp (config := {maxSteps := 2000000}) only [Act.put, List.setIfInBounds_toArray, List.set_cons_zero, List.set_cons_succ, List.getElem_toArray, List.getElem_cons_zero, List.getElem_cons_succ])
              refine wpAnyH_take (i := 6) (oi := _) (v := .agg #[.bool b16, .slice A16 n16 c16]) rfl (by kernel_rfl) (by kernel_rfl) (by kernel_rfl) (fun _ _ _ h => h) (Or.inl ⟨by kernel_rfl, fun W hSw => by ((try dsimp only at hSw); go_simp; (try (with_reducible rfl)))⟩) hcur ?_
              (try simp (config := {maxSteps := 2000000}) only [Act.put, List.setIfInBounds_toArray, List.set_cons_zero, List.set_cons_succ, List.getElem_toArray, List.getElem_cons_zero, List.getElem_cons_succ])
              refine wpAnyH_take (i := 7) (oi := _) (v := .agg #[.bool b16r, .slice A16r n16r c16r]) rfl (by kernel_rfl) (by kernel_rfl) (by kernel_rfl) (fun _ _ _ h => h) (Or.inl ⟨by kernel_rfl, fun W hSw => by ((try dsimp only at hSw); go_simp; (try (with_reducible rfl)))⟩) hcur ?_
              (try simp (config := {maxSteps := 2000000}) only [Act.put, List.setIfInBounds_toArray, List.set_cons_zero, List.set_cons_succ, List.getElem_toArray, List.getElem_cons_zero, List.getElem_cons_succ])
              refine wpAnyH_take (i := 8) (oi := _) (v := .bool ok) rfl (by kernel_rfl) (by kernel_rfl) (by kernel_rfl) (fun _ _ _ h => h) (Or.inl ⟨by kernel_rfl, fun W hSw => by ((try dsimp only at hSw); go_simp; (try (with_reducible rfl)))⟩) hcur ?_
              (try simp (config := {maxSteps := 2000000}) only [Act.put, List.setIfInBounds_toArray, List.set_cons_zero, List.set_cons_succ, List.getElem_toArray, List.getElem_cons_zero, List.getElem_cons_succ])
              refine wpAnyH_ready (rs := [10]) (by kernel_rfl) (by simp) ?_
              refine AllReadyH.cons (o := _) rfl (fun K hK => ?_) AllReadyH.nil
              refine st_alloc 6 rfl infoNum (cs := [.bool false, .slice none 0 0]) rfl ?_; intro g6 wn hb B6 hgn; have hneb6_5 : g6 ≠ g5 := (fun e => by (have h1 := B5.lt; omega)); have hne13_6 : ∀ k ∈ addrBlock A13, k ≠ g6 := (fun k hk e => by (have h1 := hfr13 k hk; omega)); have hne15_6 : ∀ k ∈ addrBlock A15, k ≠ g6 := (fun k hk e => by (have h1 := hfr15 k hk; omega)); have hne16_6 : ∀ k ∈ addrBlock A16, k ≠ g6 := (fun k hk e => by (have h1 := hfr16 k hk; omega)); have hne16r_6 : ∀ k ∈ addrBlock A16r, k ≠ g6 := (fun k hk e => by (have h1 := hfr16r k hk; omega)); have hg6 := Nat.le_trans hcur.size hgn; replace F := F.below hb; replace B5 := B5.below hb; replace hfr13 : ∀ k ∈ addrBlock A13, k < _ := (fun k hk => Nat.lt_of_lt_of_le (hfr13 k hk) hb.size); replace hfr15 : ∀ k ∈ addrBlock A15, k < _ := (fun k hk => Nat.lt_of_lt_of_le (hfr15 k hk) hb.size); replace hfr16 : ∀ k ∈ addrBlock A16, k < _ := (fun k hk => Nat.lt_of_lt_of_le (hfr16 k hk) hb.size); replace hfr16r : ∀ k ∈ addrBlock A16r, k < _ := (fun k hk => Nat.lt_of_lt_of_le (hfr16r k hk) hb.size); replace hcur := bthen hcur hb
              refine hK.out _ _ hcur (fun hHeld => ?_)
              clear hK K hHeld
              (try simp (config := {maxSteps := 2000000}) only [Act.put, List.setIfInBounds_toArray, List.set_cons_zero, List.set_cons_succ, List.getElem_toArray, List.getElem_cons_zero, List.getElem_cons_succ])
              refine wpAnyH_ready (rs := [11]) (by kernel_rfl) (by simp) ?_
              refine AllReadyH.cons (o := _) rfl (fun K hK => ?_) AllReadyH.nil
              refine st_store rfl rfl B5 (news := [.bool b16, .slice A16 n16 c16]) (by rfl) infoNum (by simp) (by simp [Value.oneCell']) ?_; intro wn hon Bx; simp only [List.take_zero, List.nil_append, List.length_cons, List.length_nil, List.drop_succ_cons, List.drop_zero, List.append_nil, List.cons_append] at Bx; replace B5 := Bx; clear Bx; replace B6 := B6.only hon hneb6_5; have oo5 : NR.Ok _ _ := (F.out _ (show (⟨b16, A16, n16, c16, _, _, _⟩ : NR) ∈ _ from (by repeat (first | exact List.mem_cons_self .. | apply List.mem_cons_of_mem)))).only hon hne16_5; have F1 := F; clear F; have F := F0.below (hcur.trans (hon.below hg5)); replace F := F.cons ((F1.out _ (show (⟨b16r, A16r, n16r, c16r, _, _, _⟩ : NR) ∈ _ from (by repeat (first | exact List.mem_cons_self .. | apply List.mem_cons_of_mem)))).only hon hne16r_5); clear F1; replace hcur := hcur.trans (hon.below hg5); clear hon
              refine hK.out _ _ hcur (fun hHeld => ?_)
              clear hK K hHeld
              (try simp (config := {maxSteps := 2000000}) only [Act.put, List.setIfInBounds_toArray, List.set_cons_zero, List.set_cons_succ, List.getElem_toArray, List.getElem_cons_zero, List.getElem_cons_succ])
              refine wpAnyH_ready (rs := [12]) (by kernel_rfl) (by simp) ?_
              refine AllReadyH.cons (o := _) rfl (fun K hK => ?_) AllReadyH.nil
              refine st_store rfl rfl B6 (news := [.bool b16r, .slice A16r n16r c16r]) (by rfl) infoNum (by simp) (by simp [Value.oneCell']) ?_; intro wn hon Bx; simp only [List.take_zero, List.nil_append, List.length_cons, List.length_nil, List.drop_succ_cons, List.drop_zero, List.append_nil, List.cons_append] at Bx; replace B6 := Bx; clear Bx; replace B5 := B5.only hon (Ne.symm hneb6_5); have oo6 : NR.Ok _ _ := (F.out _ (show (⟨b16r, A16r, n16r, c16r, _, _, _⟩ : NR) ∈ _ from (by repeat (first | exact List.mem_cons_self .. | apply List.mem_cons_of_mem)))).only hon hne16r_6; replace oo5 := oo5.only hon hne16_6; have F1 := F; clear F; have F := F0.below (hcur.trans (hon.below hg6)); clear F1; replace hcur := hcur.trans (hon.below hg6); clear hon
              refine hK.out _ _ hcur (fun hHeld => ?_)
              clear hK K hHeld
              (try simp (config := {maxSteps := 2000000}) only [Act.put, List.setIfInBounds_toArray, List.set_cons_zero, List.set_cons_succ, List.getElem_toArray, List.getElem_cons_zero, List.getElem_cons_succ])
              refine wpAnyH_ready (rs := [13]) (by kernel_rfl) (by simp) ?_
              refine AllReadyH.cons (o := _) rfl (fun K hK => ?_) AllReadyH.nil
              go_simp
              refine hK.out _ _ hcur (fun hHeld => ?_)
              clear hK K hHeld
              (try simp (config := {maxSteps := 2000000}) only [Act.put, List.setIfInBounds_toArray, List.set_cons_zero, List.set_cons_succ, List.getElem_toArray, List.getElem_cons_zero, List.getElem_cons_succ])
              refine wpAnyH_done (by kernel_rfl) ?_ _
              refine NoPanic.normal ?_
              obtain ⟨rfl⟩ := hQ7
              (go_wp2_with fail)
              go_meet
              exact ⟨g5, g6, _, _, _, _, _, _, _, _, rfl, rfl, rfl, ⟨hg5, hg6, by first | exact hneb6_5 | exact (Ne.symm hneb5_6)⟩, hcur, B5, B6, (Fs.nil _).cons oo5, (Fs.nil _).cons oo6⟩
            refine AllReadyH.cons (o := _) rfl (fun K hK => ?_) ?_
            · refine st_alloc 6 rfl infoNum (cs := [.bool false, .slice none 0 0]) rfl ?_; intro g6 wn hb B6 hgn; have hneb6_5 : g6 ≠ g5 := (fun e => by (have h1 := B5.lt; omega)); have hne13_6 : ∀ k ∈ addrBlock A13, k ≠ g6 := (fun k hk e => by (have h1 := hfr13 k hk; omega)); have hne15_6 : ∀ k ∈ addrBlock A15, k ≠ g6 := (fun k hk e => by (have h1 := hfr15 k hk; omega)); have hg6 := Nat.le_trans hcur.size hgn; replace F := F.below hb; replace B5 := B5.below hb; replace hfr13 : ∀ k ∈ addrBlock A13, k < _ := (fun k hk => Nat.lt_of_lt_of_le (hfr13 k hk) hb.size); replace hfr15 : ∀ k ∈ addrBlock A15, k < _ := (fun k hk => Nat.lt_of_lt_of_le (hfr15 k hk) hb.size); replace hcur := bthen hcur hb
              refine hK.out _ _ hcur (fun hHeld => ?_)
              clear hK K hHeld
              (try simp (config := {maxSteps := 2000000}) only [Act.put, List.setIfInBounds_toArray, List.set_cons_zero, List.set_cons_succ, List.getElem_toArray, List.getElem_cons_zero, List.getElem_cons_succ])
              refine wpAnyH_ready (rs := [4]) (by kernel_rfl) (by simp) ?_
              refine AllReadyH.cons (o := _) rfl (fun K hK => ?_) AllReadyH.nil
              go_simp; (with_reducible refine (truncF F (by repeat (first | exact List.mem_cons_self .. | apply List.mem_cons_of_mem)) (by repeat (first | exact List.mem_cons_self .. | apply List.mem_cons_of_mem)) HTQ.out (by omega)).mono ?_); rintro e wn ⟨vn, rfl, ⟨qn, rn, rfl, ⟨b16, A16, n16, c16, rfl, o, hf⟩, ⟨b16r, A16r, n16r, c16r, rfl, o2, hf2⟩⟩, hb⟩; replace F := ((F.below hb).cons o).cons o2; have hne16_5 : ∀ k ∈ addrBlock A16, k ≠ g5 := (fun k hk e => by (have h1 := (hf k hk).1; have h2 := B5.lt; omega)); have hne16r_5 : ∀ k ∈ addrBlock A16r, k ≠ g5 := (fun k hk e => by (have h1 := (hf2 k hk).1; have h2 := B5.lt; omega)); have hne16_6 : ∀ k ∈ addrBlock A16, k ≠ g6 := (fun k hk e => by (have h1 := (hf k hk).1; have h2 := B6.lt; omega)); have hne16r_6 : ∀ k ∈ addrBlock A16r, k ≠ g6 := (fun k hk e => by (have h1 := (hf2 k hk).1; have h2 := B6.lt; omega)); have hfr16 : ∀ k ∈ addrBlock A16, k < _ := (fun k hk => (hf k hk).2); have hfr16r : ∀ k ∈ addrBlock A16r, k < _ := (fun k hk => (hf2 k hk).2); clear hf hf2; replace B5 := B5.below hb; replace B6 := B6.below hb; replace hfr13 : ∀ k ∈ addrBlock A13, k < _ := (fun k hk => Nat.lt_of_lt_of_le (hfr13 k hk) hb.size); replace hfr15 : ∀ k ∈ addrBlock A15, k < _ := (fun k hk => Nat.lt_of_lt_of_le (hfr15 k hk) hb.size); replace hcur := bthen hcur hb; go_wp2_with fail
              refine hK.out _ _ hcur (fun hHeld => ?_)
              clear hK K hHeld
              (try simp (config := {maxSteps := 2000000}) only [Act.put, List.setIfInBounds_toArray, List.set_cons_zero, List.set_cons_succ, List.getElem_toArray, List.getElem_cons_zero, List.getElem_cons_succ])
              refine wpAnyH_take (i := 5) (oi := _) (v := .tuple #[.agg #[.bool b16, .slice A16 n16 c16], .agg #[.bool b16r, .slice A16r n16r c16r], .bool ok]) rfl (by kernel_rfl) (by kernel_rfl) (by kernel_rfl) (fun _ _ _ h => h) (Or.inl ⟨by kernel_rfl, fun W hSw => by ((try dsimp only at hSw); go_simp; (try (with_reducible rfl)))⟩) hcur ?_
              (try simp (config := {maxSteps := 2000000}) only [Act.put, List.setIfInBounds_toArray, List.set_cons_zero, List.set_cons_succ, List.getElem_toArray, List.getElem_cons_zero, List.getElem_cons_succ])
              refine wpAnyH_take (i := 6) (oi := _) (v := .agg #[.bool b16, .slice A16 n16 c16]) rfl (by kernel_rfl) (by kernel_rfl) (by kernel_rfl) (fun _ _ _ h => h) (Or.inl ⟨by kernel_rfl, fun W hSw => by ((try dsimp only at hSw); go_simp; (try (with_reducible rfl)))⟩) hcur ?_
              (try simp (config := {maxSteps := 2000000}) only [Act.put, List.setIfInBounds_toArray, List.set_cons_zero, List.set_cons_succ, List.getElem_toArray, List.getElem_cons_zero, List.getElem_cons_succ])
              refine wpAnyH_take (i := 7) (oi := _) (v := .agg #[.bool b16r, .slice A16r n16r c16r]) rfl (by kernel_rfl) (by kernel_rfl) (by kernel_rfl) (fun _ _ _ h => h) (Or.inl ⟨by kernel_rfl, fun W hSw => by ((try dsimp only at hSw); go_simp; (try (with_reducible rfl)))⟩) hcur ?_
              (try simp (config := {maxSteps := 2000000}) only [Act.put, List.setIfInBounds_toArray, List.set_cons_zero, List.set_cons_succ, List.getElem_toArray, List.getElem_cons_zero, List.getElem_cons_succ])
              refine wpAnyH_take (i := 8) (oi := _) (v := .bool ok) rfl (by kernel_rfl) (by kernel_rfl) (by kernel_rfl) (fun _ _ _ h => h) (Or.inl ⟨by kernel_rfl, fun W hSw => by ((try dsimp only at hSw); go_simp; (try (with_reducible rfl)))⟩) hcur ?_
              (try simp (config := {maxSteps := 2000000}) only [Act.put, List.setIfInBounds_toArray, List.set_cons_zero, List.set_cons_succ, List.getElem_toArray, List.getElem_cons_zero, List.getElem_cons_succ])
              refine wpAnyH_ready (rs := [11]) (by kernel_rfl) (by simp) ?_
              refine AllReadyH.cons (o := _) rfl (fun K hK => ?_) AllReadyH.nil
              refine st_store rfl rfl B5 (news := [.bool b16, .slice A16 n16 c16]) (by rfl) infoNum (by simp) (by simp [Value.oneCell']) ?_; intro wn hon Bx; simp only [List.take_zero, List.nil_append, List.length_cons, List.length_nil, List.drop_succ_cons, List.drop_zero, List.append_nil, List.cons_append] at Bx; replace B5 := Bx; clear Bx; replace B6 := B6.only hon hneb6_5; have oo5 : NR.Ok _ _ := (F.out _ (show (⟨b16, A16, n16, c16, _, _, _⟩ : NR) ∈ _ from (by repeat (first | exact List.mem_cons_self .. | apply List.mem_cons_of_mem)))).only hon hne16_5; have F1 := F; clear F; have F := F0.below (hcur.trans (hon.below hg5)); replace F := F.cons ((F1.out _ (show (⟨b16r, A16r, n16r, c16r, _, _, _⟩ : NR) ∈ _ from (by repeat (first | exact List.mem_cons_self .. | apply List.mem_cons_of_mem)))).only hon hne16r_5); clear F1; replace hcur := hcur.trans (hon.below hg5); clear hon
              refine hK.out _ _ hcur (fun hHeld => ?_)
              clear hK K hHeld
              (try simp (config := {maxSteps := 2000000}) only [Act.put, List.setIfInBounds_toArray, List.set_cons_zero, List.set_cons_succ, List.getElem_toArray, List.getElem_cons_zero, List.getElem_cons_succ])
              refine wpAnyH_ready (rs := [12]) (by kernel_rfl) (by simp) ?_
              refine AllReadyH.cons (o := _) rfl (fun K hK => ?_) AllReadyH.nil
              refine st_store rfl rfl B6 (news := [.bool b16r, .slice A16r n16r c16r]) (by rfl) infoNum (by simp) (by simp [Value.oneCell']) ?_; intro wn hon Bx; simp only [List.take_zero, List.nil_append, List.length_cons, List.length_nil, List.drop_succ_cons, List.drop_zero, List.append_nil, List.cons_append] at Bx; replace B6 := Bx; clear Bx; replace B5 := B5.only hon (Ne.symm hneb6_5); have oo6 : NR.Ok _ _ := (F.out _ (show (⟨b16r, A16r, n16r, c16r, _, _, _⟩ : NR) ∈ _ from (by repeat (first | exact List.mem_cons_self .. | apply List.mem_cons_of_mem)))).only hon hne16r_6; replace oo5 := oo5.only hon hne16_6; have F1 := F; clear F; have F := F0.below (hcur.trans (hon.below hg6)); clear F1; replace hcur := hcur.trans (hon.below hg6); clear hon
              refine hK.out _ _ hcur (fun hHeld => ?_)
              clear hK K hHeld
              (try simp (config := {maxSteps := 2000000}) only [Act.put, List.setIfInBounds_toArray, List.set_cons_zero, List.set_cons_succ, List.getElem_toArray, List.getElem_cons_zero, List.getElem_cons_succ])
              refine wpAnyH_ready (rs := [13]) (by kernel_rfl) (by simp) ?_
              refine AllReadyH.cons (o := _) rfl (fun K hK => ?_) AllReadyH.nil
              go_simp
              refine hK.out _ _ hcur (fun hHeld => ?_)
              clear hK K hHeld
              (try simp (config := {maxSteps := 2000000}) only [Act.put, List.setIfInBounds_toArray, List.set_cons_zero, List.set_cons_succ, List.getElem_toArray, List.getElem_cons_zero, List.getElem_cons_succ])
              refine wpAnyH_done (by kernel_rfl) ?_ _
              refine NoPanic.normal ?_
              obtain ⟨rfl⟩ := hQ7
              (go_wp2_with fail)
              go_meet
              exact ⟨g5, g6, _, _, _, _, _, _, _, _, rfl, rfl, rfl, ⟨hg5, hg6, by first | exact hneb6_5 | exact (Ne.symm hneb5_6)⟩, hcur, B5, B6, (Fs.nil _).cons oo5, (Fs.nil _).cons oo6⟩
            exact AllReadyH.nil
          refine AllReadyH.cons (o := _) rfl (fun K hK => ?_) ?_
          · refine st_alloc 6 rfl infoNum (cs := [.bool false, .slice none 0 0]) rfl ?_; intro g6 wn hb B6 hgn; have hneb6_5 : g6 ≠ g5 := (fun e => by (have h1 := B5.lt; omega)); have hne13_6 : ∀ k ∈ addrBlock A13, k ≠ g6 := (fun k hk e => by (have h1 := hfr13 k hk; omega)); have hg6 := Nat.le_trans hcur.size hgn; replace F := F.below hb; replace B5 := B5.below hb; replace hfr13 : ∀ k ∈ addrBlock A13, k < _ := (fun k hk => Nat.lt_of_lt_of_le (hfr13 k hk) hb.size); replace hcur := bthen hcur hb
            refine hK.out _ _ hcur (fun hHeld => ?_)
            clear hK K hHeld
            (try simp (config := {maxSteps := 2000000}) only [Act.put, List.setIfInBounds_toArray, List.set_cons_zero, List.set_cons_succ, List.getElem_toArray, List.getElem_cons_zero, List.getElem_cons_succ])
            refine wpAnyH_ready (rs := [3]) (by kernel_rfl) (by simp) ?_
            refine AllReadyH.cons (o := _) rfl (fun K hK => ?_) AllReadyH.nil
            go_simp; (with_reducible refine (cF F (by repeat (first | exact List.mem_cons_self .. | apply List.mem_cons_of_mem))).mono ?_); rintro e wn ⟨vn, rfl, ⟨b15, A15, n15, c15, rfl, o, hf⟩, hb⟩; replace F := (F.below hb).cons o; have hne15_5 : ∀ k ∈ addrBlock A15, k ≠ g5 := (fun k hk e => by (have h1 := (hf k hk).1; have h2 := B5.lt; omega)); have hne15_6 : ∀ k ∈ addrBlock A15, k ≠ g6 := (fun k hk e => by (have h1 := (hf k hk).1; have h2 := B6.lt; omega)); have hfr15 : ∀ k ∈ addrBlock A15, k < _ := (fun k hk => (hf k hk).2); clear hf; replace B5 := B5.below hb; replace B6 := B6.below hb; replace hfr13 : ∀ k ∈ addrBlock A13, k < _ := (fun k hk => Nat.lt_of_lt_of_le (hfr13 k hk) hb.size); replace hcur := bthen hcur hb; go_wp2_with fail
            refine hK.out _ _ hcur (fun hHeld => ?_)
            clear hK K hHeld
            (try simp (config := {maxSteps := 2000000}) only [Act.put, List.setIfInBounds_toArray, List.set_cons_zero, List.set_cons_succ, List.getElem_toArray, List.getElem_cons_zero, List.getElem_cons_succ])
            refine wpAnyH_ready (rs := [4]) (by kernel_rfl) (by simp) ?_
            refine AllReadyH.cons (o := _) rfl (fun K hK => ?_) AllReadyH.nil
            go_simp; (with_reducible refine (truncF F (by repeat (first | exact List.mem_cons_self .. | apply List.mem_cons_of_mem)) (by repeat (first | exact List.mem_cons_self .. | apply List.mem_cons_of_mem)) HTQ.out (by omega)).mono ?_); rintro e wn ⟨vn, rfl, ⟨qn, rn, rfl, ⟨b16, A16, n16, c16, rfl, o, hf⟩, ⟨b16r, A16r, n16r, c16r, rfl, o2, hf2⟩⟩, hb⟩; replace F := ((F.below hb).cons o).cons o2; have hne16_5 : ∀ k ∈ addrBlock A16, k ≠ g5 := (fun k hk e => by (have h1 := (hf k hk).1; have h2 := B5.lt; omega)); have hne16r_5 : ∀ k ∈ addrBlock A16r, k ≠ g5 := (fun k hk e => by (have h1 := (hf2 k hk).1; have h2 := B5.lt; omega)); have hne16_6 : ∀ k ∈ addrBlock A16, k ≠ g6 := (fun k hk e => by (have h1 := (hf k hk).1; have h2 := B6.lt; omega)); have hne16r_6 : ∀ k ∈ addrBlock A16r, k ≠ g6 := (fun k hk e => by (have h1 := (hf2 k hk).1; have h2 := B6.lt; omega)); have hfr16 : ∀ k ∈ addrBlock A16, k < _ := (fun k hk => (hf k hk).2); have hfr16r : ∀ k ∈ addrBlock A16r, k < _ := (fun k hk => (hf2 k hk).2); clear hf hf2; replace B5 := B5.below hb; replace B6 := B6.below hb; replace hfr13 : ∀ k ∈ addrBlock A13, k < _ := (fun k hk => Nat.lt_of_lt_of_le (hfr13 k hk) hb.size); replace hfr15 : ∀ k ∈ addrBlock A15, k < _ := (fun k hk => Nat.lt_of_lt_of_le (hfr15 k hk) hb.size); replace hcur := bthen hcur hb; go_wp2_with fail
            refine hK.out _ _ hcur (fun hHeld => ?_)
            clear hK K hHeld
            (try simp (config := {maxSteps := 2000000}) only [Act.put, List.setIfInBounds_toArray, List.set_cons_zero, List.set_cons_succ, List.getElem_toArray, List.getElem_cons_zero, List.getElem_cons_succ])
            refine wpAnyH_take (i := 5) (oi := _) (v := .tuple #[.agg #[.bool b16, .slice A16 n16 c16], .agg #[.bool b16r, .slice A16r n16r c16r], .bool ok]) rfl (by kernel_rfl) (by kernel_rfl) (by kernel_rfl) (fun _ _ _ h => h) (Or.inl ⟨by kernel_rfl, fun W hSw => by ((try dsimp only at hSw); go_simp; (try (with_reducible rfl)))⟩) hcur ?_
            (try simp (config := {maxSteps := 2000000}) only [Act.put, List.setIfInBounds_toArray, List.set_cons_zero, List.set_cons_succ, List.getElem_toArray, List.getElem_cons_zero, List.getElem_cons_succ])
            refine wpAnyH_take (i := 6) (oi := _) (v := .agg #[.bool b16, .slice A16 n16 c16]) rfl (by kernel_rfl) (by kernel_rfl) (by kernel_rfl) (fun _ _ _ h => h) (Or.inl ⟨by kernel_rfl, fun W hSw => by ((try dsimp only at hSw); go_simp; (try (with_reducible rfl)))⟩) hcur ?_
            (try simp (config := {maxSteps := 2000000}) only [Act.put, List.setIfInBounds_toArray, List.set_cons_zero, List.set_cons_succ, List.getElem_toArray, List.getElem_cons_zero, List.getElem_cons_succ])
            refine wpAnyH_take (i := 7) (oi := _) (v := .agg #[.bool b16r, .slice A16r n16r c16r]) rfl (by kernel_rfl) (by kernel_rfl) (by kernel_rfl) (fun _ _ _ h => h) (Or.inl ⟨by kernel_rfl, fun W hSw => by ((try dsimp only at hSw); go_simp; (try (with_reducible rfl)))⟩) hcur ?_
            (try simp (config := {maxSteps := 2000000}) only [Act.put, List.setIfInBounds_toArray, List.set_cons_zero, List.set_cons_succ, List.getElem_toArray, List.getElem_cons_zero, List.getElem_cons_succ])
            refine wpAnyH_take (i := 8) (oi := _) (v := .bool ok) rfl (by kernel_rfl) (by kernel_rfl) (by kernel_rfl) (fun _ _ _ h => h) (Or.inl ⟨by kernel_rfl, fun W hSw => by ((try dsimp only at hSw); go_simp; (try (with_reducible rfl)))⟩) hcur ?_
            (try simp (config := {maxSteps := 2000000}) only [Act.put, List.setIfInBounds_toArray, List.set_cons_zero, List.set_cons_succ, List.getElem_toArray, List.getElem_cons_zero, List.getElem_cons_succ])
            refine wpAnyH_ready (rs := [11]) (by kernel_rfl) (by simp) ?_
            refine AllReadyH.cons (o := _) rfl (fun K hK => ?_) AllReadyH.nil
            refine st_store rfl rfl B5 (news := [.bool b16, .slice A16 n16 c16]) (by rfl) infoNum (by simp) (by simp [Value.oneCell']) ?_; intro wn hon Bx; simp only [List.take_zero, List.nil_append, List.length_cons, List.length_nil, List.drop_succ_cons, List.drop_zero, List.append_nil, List.cons_append] at Bx; replace B5 := Bx; clear Bx; replace B6 := B6.only hon hneb6_5; have oo5 : NR.Ok _ _ := (F.out _ (show (⟨b16, A16, n16, c16, _, _, _⟩ : NR) ∈ _ from (by repeat (first | exact List.mem_cons_self .. | apply List.mem_cons_of_mem)))).only hon hne16_5; have F1 := F; clear F; have F := F0.below (hcur.trans (hon.below hg5)); replace F := F.cons ((F1.out _ (show (⟨b16r, A16r, n16r, c16r, _, _, _⟩ : NR) ∈ _ from (by repeat (first | exact List.mem_cons_self .. | apply List.mem_cons_of_mem)))).only hon hne16r_5); clear F1; replace hcur := hcur.trans (hon.below hg5); clear hon
            refine hK.out _ _ hcur (fun hHeld => ?_)
            clear hK K hHeld
            (try simp (config := {maxSteps := 2000000}) only [Act.put, List.setIfInBounds_toArray, List.set_cons_zero, List.set_cons_succ, List.getElem_toArray, List.getElem_cons_zero, List.getElem_cons_succ])
            refine wpAnyH_ready (rs := [12]) (by kernel_rfl) (by simp) ?_
            refine AllReadyH.cons (o := _) rfl (fun K hK => ?_) AllReadyH.nil
            refine st_store rfl rfl B6 (news := [.bool b16r, .slice A16r n16r c16r]) (by rfl) infoNum (by simp) (by simp [Value.oneCell']) ?_; intro wn hon Bx; simp only [List.take_zero, List.nil_append, List.length_cons, List.length_nil, List.drop_succ_cons, List.drop_zero, List.append_nil, List.cons_append] at Bx; replace B6 := Bx; clear Bx; replace B5 := B5.only hon (Ne.symm hneb6_5); have oo6 : NR.Ok _ _ := (F.out _ (show (⟨b16r, A16r, n16r, c16r, _, _, _⟩ : NR) ∈ _ from (by repeat (first | exact List.mem_cons_self .. | apply List.mem_cons_of_mem)))).only hon hne16r_6; replace oo5 := oo5.only hon hne16_6; have F1 := F; clear F; have F := F0.below (hcur.trans (hon.below hg6)); clear F1; replace hcur := hcur.trans (hon.below hg6); clear hon
            refine hK.out _ _ hcur (fun hHeld => ?_)
            clear hK K hHeld
            (try simp (config := {maxSteps := 2000000}) only [Act.put, List.setIfInBounds_toArray, List.set_cons_zero, List.set_cons_succ, List.getElem_toArray, List.getElem_cons_zero, List.getElem_cons_succ])
            refine wpAnyH_ready (rs := [13]) (by kernel_rfl) (by simp) ?_
            refine AllReadyH.cons (o := _) rfl (fun K hK => ?_) AllReadyH.nil
            go_simp
            refine hK.out _ _ hcur (fun hHeld => ?_)
            clear hK K hHeld
            (try simp (config := {maxSteps := 2000000}) only [Act.put, List.setIfInBounds_toArray, List.set_cons_zero, List.set_cons_succ, List.getElem_toArray, List.getElem_cons_zero, List.getElem_cons_succ])
            refine wpAnyH_done (by kernel_rfl) ?_ _
            refine NoPanic.normal ?_
            obtain ⟨rfl⟩ := hQ7
            (go_wp2_with fail)
            go_meet
            exact ⟨g5, g6, _, _, _, _, _, _, _, _, rfl, rfl, rfl, ⟨hg5, hg6, by first | exact hneb6_5 | exact (Ne.symm hneb5_6)⟩, hcur, B5, B6, (Fs.nil _).cons oo5, (Fs.nil _).cons oo6⟩
          exact AllReadyH.nil
        refine AllReadyH.cons (o := _) rfl (fun K hK => ?_) ?_
        · refine st_alloc 6 rfl infoNum (cs := [.bool false, .slice none 0 0]) rfl ?_; intro g6 wn hb B6 hgn; have hne13_6 : ∀ k ∈ addrBlock A13, k ≠ g6 := (fun k hk e => by (have h1 := hfr13 k hk; omega)); have hg6 := Nat.le_trans hcur.size hgn; replace F := F.below hb; replace hfr13 : ∀ k ∈ addrBlock A13, k < _ := (fun k hk => Nat.lt_of_lt_of_le (hfr13 k hk) hb.size); replace hcur := bthen hcur hb
          refine hK.out _ _ hcur (fun hHeld => ?_)
          clear hK K hHeld
          (try simp (config := {maxSteps := 2000000}) only [Act.put, List.setIfInBounds_toArray, List.set_cons_zero, List.set_cons_succ, List.getElem_toArray, List.getElem_cons_zero, List.getElem_cons_succ])
          refine wpAnyH_ready (rs := [3, 9]) (by kernel_rfl) (by simp) ?_
          refine AllReadyH.cons (o := _) rfl (fun K hK => ?_) ?_
          · go_simp; (with_reducible refine (cF F (by repeat (first | exact List.mem_cons_self .. | apply List.mem_cons_of_mem))).mono ?_); rintro e wn ⟨vn, rfl, ⟨b15, A15, n15, c15, rfl, o, hf⟩, hb⟩; replace F := (F.below hb).cons o; have hne15_6 : ∀ k ∈ addrBlock A15, k ≠ g6 := (fun k hk e => by (have h1 := (hf k hk).1; have h2 := B6.lt; omega)); have hfr15 : ∀ k ∈ addrBlock A15, k < _ := (fun k hk => (hf k hk).2); clear hf; replace B6 := B6.below hb; replace hfr13 : ∀ k ∈ addrBlock A13, k < _ := (fun k hk => Nat.lt_of_lt_of_le (hfr13 k hk) hb.size); replace hcur := bthen hcur hb; go_wp2_with fail
            refine hK.out _ _ hcur (fun hHeld => ?_)
            clear hK K hHeld
            (try simp (config := {maxSteps := 2000000}) only [Act.put, List.setIfInBounds_toArray, List.set_cons_zero, List.set_cons_succ, List.getElem_toArray, List.getElem_cons_zero, List.getElem_cons_succ])
            refine wpAnyH_ready (rs := [4, 9]) (by kernel_rfl) (by simp) ?_
            refine AllReadyH.cons (o := _) rfl (fun K hK => ?_) ?_
            · go_simp; (with_reducible refine (truncF F (by repeat (first | exact List.mem_cons_self .. | apply List.mem_cons_of_mem)) (by repeat (first | exact List.mem_cons_self .. | apply List.mem_cons_of_mem)) HTQ.out (by omega)).mono ?_); rintro e wn ⟨vn, rfl, ⟨qn, rn, rfl, ⟨b16, A16, n16, c16, rfl, o, hf⟩, ⟨b16r, A16r, n16r, c16r, rfl, o2, hf2⟩⟩, hb⟩; replace F := ((F.below hb).cons o).cons o2; have hne16_6 : ∀ k ∈ addrBlock A16, k ≠ g6 := (fun k hk e => by (have h1 := (hf k hk).1; have h2 := B6.lt; omega)); have hne16r_6 : ∀ k ∈ addrBlock A16r, k ≠ g6 := (fun k hk e => by (have h1 := (hf2 k hk).1; have h2 := B6.lt; omega)); have hfr16 : ∀ k ∈ addrBlock A16, k < _ := (fun k hk => (hf k hk).2); have hfr16r : ∀ k ∈ addrBlock A16r, k < _ := (fun k hk => (hf2 k hk).2); clear hf hf2; replace B6 := B6.below hb; replace hfr13 : ∀ k ∈ addrBlock A13, k < _ := (fun k hk => Nat.lt_of_lt_of_le (hfr13 k hk) hb.size); replace hfr15 : ∀ k ∈ addrBlock A15, k < _ := (fun k hk => Nat.lt_of_lt_of_le (hfr15 k hk) hb.size); replace hcur := bthen hcur hb; go_wp2_with fail
              refine hK.out _ _ hcur (fun hHeld => ?_)
              clear hK K hHeld
              (try simp (config := {maxSteps := 2000000}) only [Act.put, List.setIfInBounds_toArray, List.set_cons_zero, List.set_cons_succ, List.getElem_toArray, List.getElem_cons_zero, List.getElem_cons_succ])
              refine wpAnyH_take (i := 5) (oi := _) (v := .tuple #[.agg #[.bool b16, .slice A16 n16 c16], .agg #[.bool b16r, .slice A16r n16r c16r], .bool ok]) rfl (by kernel_rfl) (by kernel_rfl) (by kernel_rfl) (fun _ _ _ h => h) (Or.inl ⟨by kernel_rfl, fun W hSw => by ((try dsimp only at hSw); go_simp; (try (with_reducible rfl)))⟩) hcur ?_
              (try simp (config := {maxSteps := 2000000}) only [Act.put, List.setIfInBounds_toArray, List.set_cons_zero, List.set_cons_succ, List.getElem_toArray, List.getElem_cons_zero, List.getElem_cons_succ])
              refine wpAnyH_take (i := 6) (oi := _) (v := .agg #[.bool b16, .slice A16 n16 c16]) rfl (by kernel_rfl) (by kernel_rfl) (by kernel_rfl) (fun _ _ _ h => h) (Or.inl ⟨by kernel_rfl, fun W hSw => by ((try dsimp only at hSw); go_simp; (try (with_reducible rfl)))⟩) hcur ?_
              (try simp (config := {maxSteps := 2000000}) only [Act.put, List.setIfInBounds_toArray, List.set_cons_zero, List.set_cons_succ, List.getElem_toArray, List.getElem_cons_zero, List.getElem_cons_succ])
              refine wpAnyH_take (i := 7) (oi := _) (v := .agg #[.bool b16r, .slice A16r n16r c16r]) rfl (by kernel_rfl) (by kernel_rfl) (by kernel_rfl) (fun _ _ _ h => h) (Or.inl ⟨by kernel_rfl, fun W hSw => by ((try dsimp only at hSw); go_simp; (try (with_reducible rfl)))⟩) hcur ?_
              (try simp (config := {maxSteps := 2000000}) only [Act.put, List.setIfInBounds_toArray, List.set_cons_zero, List.set_cons_succ, List.getElem_toArray, List.getElem_cons_zero, List.getElem_cons_succ])
              refine wpAnyH_take (i := 8) (oi := _) (v := .bool ok) rfl (by kernel_rfl) (by kernel_rfl) (by kernel_rfl) (fun _ _ _ h => h) (Or.inl ⟨by kernel_rfl, fun W hSw => by ((try dsimp only at hSw); go_simp; (try (with_reducible rfl)))⟩) hcur ?_
              (try simp (config := {maxSteps := 2000000}) only [Act.put, List.setIfInBounds_toArray, List.set_cons_zero, List.set_cons_succ, List.getElem_toArray, List.getElem_cons_zero, List.getElem_cons_succ])
              refine wpAnyH_ready (rs := [9]) (by kernel_rfl) (by simp) ?_
              refine AllReadyH.cons (o := _) rfl (fun K hK => ?_) AllReadyH.nil
              refine st_alloc 5 rfl infoNum (cs := [.bool false, .slice none 0 0]) rfl ?_; intro g5 wn hb B5 hgn; have hneb5_6 : g5 ≠ g6 := (fun e => by (have h1 := B6.lt; omega)); have hne13_5 : ∀ k ∈ addrBlock A13, k ≠ g5 := (fun k hk e => by (have h1 := hfr13 k hk; omega)); have hne15_5 : ∀ k ∈ addrBlock A15, k ≠ g5 := (fun k hk e => by (have h1 := hfr15 k hk; omega)); have hne16_5 : ∀ k ∈ addrBlock A16, k ≠ g5 := (fun k hk e => by (have h1 := hfr16 k hk; omega)); have hne16r_5 : ∀ k ∈ addrBlock A16r, k ≠ g5 := (fun k hk e => by (have h1 := hfr16r k hk; omega)); have hg5 := Nat.le_trans hcur.size hgn; replace F := F.below hb; replace B6 := B6.below hb; replace hfr13 : ∀ k ∈ addrBlock A13, k < _ := (fun k hk => Nat.lt_of_lt_of_le (hfr13 k hk) hb.size); replace hfr15 : ∀ k ∈ addrBlock A15, k < _ := (fun k hk => Nat.lt_of_lt_of_le (hfr15 k hk) hb.size); replace hfr16 : ∀ k ∈ addrBlock A16, k < _ := (fun k hk => Nat.lt_of_lt_of_le (hfr16 k hk) hb.size); replace hfr16r : ∀ k ∈ addrBlock A16r, k < _ := (fun k hk => Nat.lt_of_lt_of_le (hfr16r k hk) hb.size); replace hcur := bthen hcur hb
              refine hK.out _ _ hcur (fun hHeld => ?_)
              clear hK K hHeld
              (try simp (config := {maxSteps := 2000000}) only [Act.put, List.setIfInBounds_toArray, List.set_cons_zero, List.set_cons_succ, List.getElem_toArray, List.getElem_cons_zero, List.getElem_cons_succ])
              refine wpAnyH_ready (rs := [11]) (by kernel_rfl) (by simp) ?_
              refine AllReadyH.cons (o := _) rfl (fun K hK => ?_) AllReadyH.nil
              refine st_store rfl rfl B5 (news := [.bool b16, .slice A16 n16 c16]) (by rfl) infoNum (by simp) (by simp [Value.oneCell']) ?_; intro wn hon Bx; simp only [List.take_zero, List.nil_append, List.length_cons, List.length_nil, List.drop_succ_cons, List.drop_zero, List.append_nil, List.cons_append] at Bx; replace B5 := Bx; clear Bx; replace B6 := B6.only hon (Ne.symm hneb5_6); have oo5 : NR.Ok _ _ := (F.out _ (show (⟨b16, A16, n16, c16, _, _, _⟩ : NR) ∈ _ from (by repeat (first | exact List.mem_cons_self .. | apply List.mem_cons_of_mem)))).only hon hne16_5; have F1 := F; clear F; have F := F0.below (hcur.trans (hon.below hg5)); replace F := F.cons ((F1.out _ (show (⟨b16r, A16r, n16r, c16r, _, _, _⟩ : NR) ∈ _ from (by repeat (first | exact List.mem_cons_self .. | apply List.mem_cons_of_mem)))).only hon hne16r_5); clear F1; replace hcur := hcur.trans (hon.below hg5); clear hon
              refine hK.out _ _ hcur (fun hHeld => ?_)
              clear hK K hHeld
              (try simp (config := {maxSteps := 2000000}) only [Act.put, List.setIfInBounds_toArray, List.set_cons_zero, List.set_cons_succ, List.getElem_toArray, List.getElem_cons_zero, List.getElem_cons_succ])
              refine wpAnyH_ready (rs := [12]) (by kernel_rfl) (by simp) ?_
              refine AllReadyH.cons (o := _) rfl (fun K hK => ?_) AllReadyH.nil
              refine st_store rfl rfl B6 (news := [.bool b16r, .slice A16r n16r c16r]) (by rfl) infoNum (by simp) (by simp [Value.oneCell']) ?_; intro wn hon Bx; simp only [List.take_zero, List.nil_append, List.length_cons, List.length_nil, List.drop_succ_cons, List.drop_zero, List.append_nil, List.cons_append] at Bx; replace B6 := Bx; clear Bx; replace B5 := B5.only hon hneb5_6; have oo6 : NR.Ok _ _ := (F.out _ (show (⟨b16r, A16r, n16r, c16r, _, _, _⟩ : NR) ∈ _ from (by repeat (first | exact List.mem_cons_self .. | apply List.mem_cons_of_mem)))).only hon hne16r_6; replace oo5 := oo5.only hon hne16_6; have F1 := F; clear F; have F := F0.below (hcur.trans (hon.below hg6)); clear F1; replace hcur := hcur.trans (hon.below hg6); clear hon
              refine hK.out _ _ hcur (fun hHeld => ?_)
              clear hK K hHeld
              (try simp (config := {maxSteps := 2000000}) only [Act.put, List.setIfInBounds_toArray, List.set_cons_zero, List.set_cons_succ, List.getElem_toArray, List.getElem_cons_zero, List.getElem_cons_succ])
              refine wpAnyH_ready (rs := [13]) (by kernel_rfl) (by simp) ?_
              refine AllReadyH.cons (o := _) rfl (fun K hK => ?_) AllReadyH.nil
              go_simp
              refine hK.out _ _ hcur (fun hHeld => ?_)
              clear hK K hHeld
              (try simp (config := {maxSteps := 2000000}) only [Act.put, List.setIfInBounds_toArray, List.set_cons_zero, List.set_cons_succ, List.getElem_toArray, List.getElem_cons_zero, List.getElem_cons_succ])
              refine wpAnyH_done (by kernel_rfl) ?_ _
              refine NoPanic.normal ?_
              obtain ⟨rfl⟩ := hQ7
              (go_wp2_with fail)
              go_meet
              exact ⟨g5, g6, _, _, _, _, _, _, _, _, rfl, rfl, rfl, ⟨hg5, hg6, by first | exact hneb6_5 | exact (Ne.symm hneb5_6)⟩, hcur, B5, B6, (Fs.nil _).cons oo5, (Fs.nil _).cons oo6⟩
            refine AllReadyH.cons (o := _) rfl (fun K hK => ?_) ?_
            · refine st_alloc 5 rfl infoNum (cs := [.bool false, .slice none 0 0]) rfl ?_; intro g5 wn hb B5 hgn; have hneb5_6 : g5 ≠ g6 := (fun e => by (have h1 := B6.lt; omega)); have hne13_5 : ∀ k ∈ addrBlock A13, k ≠ g5 := (fun k hk e => by (have h1 := hfr13 k hk; omega)); have hne15_5 : ∀ k ∈ addrBlock A15, k ≠ g5 := (fun k hk e => by (have h1 := hfr15 k hk; omega)); have hg5 := Nat.le_trans hcur.size hgn; replace F := F.below hb; replace B6 := B6.below hb; replace hfr13 : ∀ k ∈ addrBlock A13, k < _ := (fun k hk => Nat.lt_of_lt_of_le (hfr13 k hk) hb.size); replace hfr15 : ∀ k ∈ addrBlock A15, k < _ := (fun k hk => Nat.lt_of_lt_of_le (hfr15 k hk) hb.size); replace hcur := bthen hcur hb
              refine hK.out _ _ hcur (fun hHeld => ?_)
              clear hK K hHeld
              (try simp (config := {maxSteps := 2000000}) only [Act.put, List.setIfInBounds_toArray, List.set_cons_zero, List.set_cons_succ, List.getElem_toArray, List.getElem_cons_zero, List.getElem_cons_succ])
              refine wpAnyH_ready (rs := [4]) (by kernel_rfl) (by simp) ?_
              refine AllReadyH.cons (o := _) rfl (fun K hK => ?_) AllReadyH.nil
              go_simp; (with_reducible refine (truncF F (by repeat (first | exact List.mem_cons_self .. | apply List.mem_cons_of_mem)) (by repeat (first | exact List.mem_cons_self .. | apply List.mem_cons_of_mem)) HTQ.out (by omega)).mono ?_); rintro e wn ⟨vn, rfl, ⟨qn, rn, rfl, ⟨b16, A16, n16, c16, rfl, o, hf⟩, ⟨b16r, A16r, n16r, c16r, rfl, o2, hf2⟩⟩, hb⟩; replace F := ((F.below hb).cons o).cons o2; have hne16_6 : ∀ k ∈ addrBlock A16, k ≠ g6 := (fun k hk e => by (have h1 := (hf k hk).1; have h2 := B6.lt; omega)); have hne16r_6 : ∀ k ∈ addrBlock A16r, k ≠ g6 := (fun k hk e => by (have h1 := (hf2 k hk).1; have h2 := B6.lt; omega)); have hne16_5 : ∀ k ∈ addrBlock A16, k ≠ g5 := (fun k hk e => by (have h1 := (hf k hk).1; have h2 := B5.lt; omega)); have hne16r_5 : ∀ k ∈ addrBlock A16r, k ≠ g5 := (fun k hk e => by (have h1 := (hf2 k hk).1; have h2 := B5.lt; omega)); have hfr16 : ∀ k ∈ addrBlock A16, k < _ := (fun k hk => (hf k hk).2); have hfr16r : ∀ k ∈ addrBlock A16r, k < _ := (fun k hk => (hf2 k hk).2); clear hf hf2; replace B6 := B6.below hb; replace B5 := B5.below hb; replace hfr13 : ∀ k ∈ addrBlock A13, k < _ := (fun k hk => Nat.lt_of_lt_of_le (hfr13 k hk) hb.size); replace hfr15 : ∀ k ∈ addrBlock A15, k < _ := (fun k hk => Nat.lt_of_lt_of_le (hfr15 k hk) hb.size); replace hcur := bthen hcur hb; go_wp2_with fail
              refine hK.out _ _ hcur (fun hHeld => ?_)
              clear hK K hHeld
              (try simp (config := {maxSteps := 2000000}) only [Act.put, List.setIfInBounds_toArray, List.set_cons_zero, List.set_cons_succ, List.getElem_toArray, List.getElem_cons_zero, List.getElem_cons_succ])
              refine wpAnyH_take (i := 5) (oi := _) (v := .tuple #[.agg #[.bool b16, .slice A16 n16 c16], .agg #[.bool b16r, .slice A16r n16r c16r], .bool ok]) rfl (by kernel_rfl) (by kernel_rfl) (by kernel_rfl) (fun _ _ _ h => h) (Or.inl ⟨by kernel_rfl, fun W hSw => by ((try dsimp only at hSw); go_simp; (try (with_reducible rfl)))⟩) hcur ?_
              (try simp (config := {maxSteps := 2000000}) only [Act.put, List.setIfInBounds_toArray, List.set_cons_zero, List.set_cons_succ, List.getElem_toArray, List.getElem_cons_zero, List.getElem_cons_succ])
              refine wpAnyH_take (i := 6) (oi := _) (v := .agg #[.bool b16, .slice A16 n16 c16]) rfl (by kernel_rfl) (by kernel_rfl) (by kernel_rfl) (fun _ _ _ h => h) (Or.inl ⟨by kernel_rfl, fun W hSw => by ((try dsimp only at hSw); go_simp; (try (with_reducible rfl)))⟩) hcur ?_
              (try simp (config := {maxSteps := 2000000}) only [Act.put, List.setIfInBounds_toArray, List.set_cons_zero, List.set_cons_succ, List.getElem_toArray, List.getElem_cons_zero, List.getElem_cons_succ])
              refine wpAnyH_take (i := 7) (oi := _) (v := .agg #[.bool b16r, .slice A16r n16r c16r]) rfl (by kernel_rfl) (by kernel_rfl) (by kernel_rfl) (fun _ _ _ h => h) (Or.inl ⟨by kernel_rfl, fun W hSw => by ((try dsimp only at hSw); go_simp; (try (with_reducible rfl)))⟩) hcur ?_
              (try simp (config := {maxSteps := 2000000}) only [Act.put, List.setIfInBounds_toArray, List.set_cons_zero, List.set_cons_succ, List.getElem_toArray, List.getElem_cons_zero, List.getElem_cons_succ])
              refine wpAnyH_take (i := 8) (oi := _) (v := .bool ok) rfl (by kernel_rfl) (by kernel_rfl) (by kernel_rfl) (fun _ _ _ h => h) (Or.inl ⟨by kernel_rfl, fun W hSw => by ((try dsimp only at hSw); go_simp; (try (with_reducible rfl)))⟩) hcur ?_
              (try simp (config := {maxSteps := 2000000}) only [Act.put, List.setIfInBounds_toArray, List.set_cons_zero, List.set_cons_succ, List.getElem_toArray, List.getElem_cons_zero, List.getElem_cons_succ])
              refine wpAnyH_ready (rs := [11]) (by kernel_rfl) (by simp) ?_
              refine AllReadyH.cons (o := _) rfl (fun K hK => ?_) AllReadyH.nil
              refine st_store rfl rfl B5 (news := [.bool b16, .slice A16 n16 c16]) (by rfl) infoNum (by simp) (by simp [Value.oneCell']) ?_; intro wn hon Bx; simp only [List.take_zero, List.nil_append, List.length_cons, List.length_nil, List.drop_succ_cons, List.drop_zero, List.append_nil, List.cons_append] at Bx; replace B5 := Bx; clear Bx; replace B6 := B6.only hon (Ne.symm hneb5_6); have oo5 : NR.Ok _ _ := (F.out _ (show (⟨b16, A16, n16, c16, _, _, _⟩ : NR) ∈ _ from (by repeat (first | exact List.mem_cons_self .. | apply List.mem_cons_of_mem)))).only hon hne16_5; have F1 := F; clear F; have F := F0.below (hcur.trans (hon.below hg5)); replace F := F.cons ((F1.out _ (show (⟨b16r, A16r, n16r, c16r, _, _, _⟩ : NR) ∈ _ from (by repeat (first | exact List.mem_cons_self .. | apply List.mem_cons_of_mem)))).only hon hne16r_5); clear F1; replace hcur := hcur.trans (hon.below hg5); clear hon
              refine hK.out _ _ hcur (fun hHeld => ?_)
              clear hK K hHeld
              (try simp (config := {maxSteps := 2000000}) only [Act.put, List.setIfInBounds_toArray, List.set_cons_zero, List.set_cons_succ, List.getElem_toArray, List.getElem_cons_zero, List.getElem_cons_succ])
              refine wpAnyH_ready (rs := [12]) (by kernel_rfl) (by simp) ?_
              refine AllReadyH.cons (o := _) rfl (fun K hK => ?_) AllReadyH.nil
              refine st_store rfl rfl B6 (news := [.bool b16r, .slice A16r n16r c16r]) (by rfl) infoNum (by simp) (by simp [Value.oneCell']) ?_; intro wn hon Bx; simp only [List.take_zero, List.nil_append, List.length_cons, List.length_nil, List.drop_succ_cons, List.drop_zero, List.append_nil, List.cons_append] at Bx; replace B6 := Bx; clear Bx; replace B5 := B5.only hon hneb5_6; have oo6 : NR.Ok _ _ := (F.out _ (show (⟨b16r, A16r, n16r, c16r, _, _, _⟩ : NR) ∈ _ from (by repeat (first | exact List.mem_cons_self .. | apply List.mem_cons_of_mem)))).only hon hne16r_6; replace oo5 := oo5.only hon hne16_6; have F1 := F; clear F; have F := F0.below (hcur.trans (hon.below hg6)); clear F1; replace hcur := hcur.trans (hon.below hg6); clear hon
              refine hK.out _ _ hcur (fun hHeld => ?_)
              clear hK K hHeld
              (try simp (config := {maxSteps := 2000000}) only [Act.put, List.setIfInBounds_toArray, List.set_cons_zero, List.set_cons_succ, List.getElem_toArray, List.getElem_cons_zero, List.getElem_cons_succ])
              refine wpAnyH_ready (rs := [13]) (by kernel_rfl) (by simp) ?_
              refine AllReadyH.cons (o := _) rfl (fun K hK => ?_) AllReadyH.nil
              go_simp
              refine hK.out _ _ hcur (fun hHeld => ?_)
              clear hK K hHeld
              (try simp (config := {maxSteps := 2000000}) only [Act.put, List.setIfInBounds_toArray, List.set_cons_zero, List.set_cons_succ, List.getElem_toArray, List.getElem_cons_zero, List.getElem_cons_succ])
              refine wpAnyH_done (by kernel_rfl) ?_ _
              refine NoPanic.normal ?_
              obtain ⟨rfl⟩ := hQ7
              (go_wp2_with fail)
              go_meet
              exact ⟨g5, g6, _, _, _, _, _, _, _, _, rfl, rfl, rfl, ⟨hg5, hg6, by first | exact hneb6_5 | exact (Ne.symm hneb5_6)⟩, hcur, B5, B6, (Fs.nil _).cons oo5, (Fs.nil _).cons oo6⟩
            exact AllReadyH.nil
          refine AllReadyH.cons (o := _) rfl (fun K hK => ?_) ?_
          · refine st_alloc 5 rfl infoNum (cs := [.bool false, .slice none 0 0]) rfl ?_; intro g5 wn hb B5 hgn; have hneb5_6 : g5 ≠ g6 := (fun e => by (have h1 := B6.lt; omega)); have hne13_5 : ∀ k ∈ addrBlock A13, k ≠ g5 := (fun k hk e => by (have h1 := hfr13 k hk; omega)); have hg5 := Nat.le_trans hcur.size hgn; replace F := F.below hb; replace B6 := B6.below hb; replace hfr13 : ∀ k ∈ addrBlock A13, k < _ := (fun k hk => Nat.lt_of_lt_of_le (hfr13 k hk) hb.size); replace hcur := bthen hcur hb
            refine hK.out _ _ hcur (fun hHeld => ?_)
            clear hK K hHeld
            (try simp (config := {maxSteps := 2000000}) only [Act.put, List.setIfInBounds_toArray, List.set_cons_zero, List.set_cons_succ, List.getElem_toArray, List.getElem_cons_zero, List.getElem_cons_succ])
            refine wpAnyH_ready (rs := [3]) (by kernel_rfl) (by simp) ?_
            refine AllReadyH.cons (o := _) rfl (fun K hK => ?_) AllReadyH.nil
            go_simp; (with_reducible refine (cF F (by repeat (first | exact List.mem_cons_self .. | apply List.mem_cons_of_mem))).mono ?_); rintro e wn ⟨vn, rfl, ⟨b15, A15, n15, c15, rfl, o, hf⟩, hb⟩; replace F := (F.below hb).cons o; have hne15_6 : ∀ k ∈ addrBlock A15, k ≠ g6 := (fun k hk e => by (have h1 := (hf k hk).1; have h2 := B6.lt; omega)); have hne15_5 : ∀ k ∈ addrBlock A15, k ≠ g5 := (fun k hk e => by (have h1 := (hf k hk).1; have h2 := B5.lt; omega)); have hfr15 : ∀ k ∈ addrBlock A15, k < _ := (fun k hk => (hf k hk).2); clear hf; replace B6 := B6.below hb; replace B5 := B5.below hb; replace hfr13 : ∀ k ∈ addrBlock A13, k < _ := (fun k hk => Nat.lt_of_lt_of_le (hfr13 k hk) hb.size); replace hcur := bthen hcur hb; go_wp2_with fail
            refine hK.out _ _ hcur (fun hHeld => ?_)
            clear hK K hHeld
            (try simp (config := {maxSteps := 2000000}) only [Act.put, List.setIfInBounds_toArray, List.set_cons_zero, List.set_cons_succ, List.getElem_toArray, List.getElem_cons_zero, List.getElem_cons_succ])
            refine wpAnyH_ready (rs := [4]) (by kernel_rfl) (by simp) ?_
            refine AllReadyH.cons (o := _) rfl (fun K hK => ?_) AllReadyH.nil
            go_simp; (with_reducible refine (truncF F (by repeat (first | exact List.mem_cons_self .. | apply List.mem_cons_of_mem)) (by repeat (first | exact List.mem_cons_self .. | apply List.mem_cons_of_mem)) HTQ.out (by omega)).mono ?_); rintro e wn ⟨vn, rfl, ⟨qn, rn, rfl, ⟨b16, A16, n16, c16, rfl, o, hf⟩, ⟨b16r, A16r, n16r, c16r, rfl, o2, hf2⟩⟩, hb⟩; replace F := ((F.below hb).cons o).cons o2; have hne16_6 : ∀ k ∈ addrBlock A16, k ≠ g6 := (fun k hk e => by (have h1 := (hf k hk).1; have h2 := B6.lt; omega)); have hne16r_6 : ∀ k ∈ addrBlock A16r, k ≠ g6 := (fun k hk e => by (have h1 := (hf2 k hk).1; have h2 := B6.lt; omega)); have hne16_5 : ∀ k ∈ addrBlock A16, k ≠ g5 := (fun k hk e => by (have h1 := (hf k hk).1; have h2 := B5.lt; omega)); have hne16r_5 : ∀ k ∈ addrBlock A16r, k ≠ g5 := (fun k hk e => by (have h1 := (hf2 k hk).1; have h2 := B5.lt; omega)); have hfr16 : ∀ k ∈ addrBlock A16, k < _ := (fun k hk => (hf k hk).2); have hfr16r : ∀ k ∈ addrBlock A16r, k < _ := (fun k hk => (hf2 k hk).2); clear hf hf2; replace B6 := B6.below hb; replace B5 := B5.below hb; replace hfr13 : ∀ k ∈ addrBlock A13, k < _ := (fun k hk => Nat.lt_of_lt_of_le (hfr13 k hk) hb.size); replace hfr15 : ∀ k ∈ addrBlock A15, k < _ := (fun k hk => Nat.lt_of_lt_of_le (hfr15 k hk) hb.size); replace hcur := bthen hcur hb; go_wp2_with fail
            refine hK.out _ _ hcur (fun hHeld => ?_)
            clear hK K hHeld
            (try simp (config := {maxSteps := 2000000}) only [Act.put, List.setIfInBounds_toArray, List.set_cons_zero, List.set_cons_succ, List.getElem_toArray, List.getElem_cons_zero, List.getElem_cons_succ])
            refine wpAnyH_take (i := 5) (oi := _) (v := .tuple #[.agg #[.bool b16, .slice A16 n16 c16], .agg #[.bool b16r, .slice A16r n16r c16r], .bool ok]) rfl (by kernel_rfl) (by kernel_rfl) (by kernel_rfl) (fun _ _ _ h => h) (Or.inl ⟨by kernel_rfl, fun W hSw => by ((try dsimp only at hSw); go_simp; (try (with_reducible rfl)))⟩) hcur ?_
            (try simp (config := {maxSteps := 2000000}) only [Act.put, List.setIfInBounds_toArray, List.set_cons_zero, List.set_cons_succ, List.getElem_toArray, List.getElem_cons_zero, List.getElem_cons_succ])
            refine wpAnyH_take (i := 6) (oi := _) (v := .agg #[.bool b16, .slice A16 n16 c16]) rfl (by kernel_rfl) (by kernel_rfl) (by kernel_rfl) (fun _ _ _ h => h) (Or.inl ⟨by kernel_rfl, fun W hSw => by ((try dsimp only at hSw); go_simp; (try (with_reducible rfl)))⟩) hcur ?_
            (try simp (config := {maxSteps := 2000000}) only [Act.put, List.setIfInBounds_toArray, List.set_cons_zero, List.set_cons_succ, List.getElem_toArray, List.getElem_cons_zero, List.getElem_cons_succ])
            refine wpAnyH_take (i := 7) (oi := _) (v := .agg #[.bool b16r, .slice A16r n16r c16r]) rfl (by kernel_rfl) (by kernel_rfl) (by kernel_rfl) (fun _ _ _ h => h) (Or.inl ⟨by kernel_rfl, fun W hSw => by ((try dsimp only at hSw); go_simp; (try (with_reducible rfl)))⟩) hcur ?_
            (try simp (config := {maxSteps := 2000000}) only [Act.put, List.setIfInBounds_toArray, List.set_cons_zero, List.set_cons_succ, List.getElem_toArray, List.getElem_cons_zero, List.getElem_cons_succ])
            refine wpAnyH_take (i := 8) (oi := _) (v := .bool ok) rfl (by kernel_rfl) (by kernel_rfl) (by kernel_rfl) (fun _ _ _ h => h) (Or.inl ⟨by kernel_rfl, fun W hSw => by ((try dsimp only at hSw); go_simp; (try (with_reducible rfl)))⟩) hcur ?_
            (try simp (config := {maxSteps := 2000000}) only [Act.put, List.setIfInBounds_toArray, List.set_cons_zero, List.set_cons_succ, List.getElem_toArray, List.getElem_cons_zero, List.getElem_cons_succ])
            refine wpAnyH_ready (rs := [11]) (by kernel_rfl) (by simp) ?_
            refine AllReadyH.cons (o := _) rfl (fun K hK => ?_) AllReadyH.nil
            refine st_store rfl rfl B5 (news := [.bool b16, .slice A16 n16 c16]) (by rfl) infoNum (by simp) (by simp [Value.oneCell']) ?_; intro wn hon Bx; simp only [List.take_zero, List.nil_append, List.length_cons, List.length_nil, List.drop_succ_cons, List.drop_zero, List.append_nil, List.cons_append] at Bx; replace B5 := Bx; clear Bx; replace B6 := B6.only hon (Ne.symm hneb5_6); have oo5 : NR.Ok _ _ := (F.out _ (show (⟨b16, A16, n16, c16, _, _, _⟩ : NR) ∈ _ from (by repeat (first | exact List.mem_cons_self .. | apply List.mem_cons_of_mem)))).only hon hne16_5; have F1 := F; clear F; have F := F0.below (hcur.trans (hon.below hg5)); replace F := F.cons ((F1.out _ (show (⟨b16r, A16r, n16r, c16r, _, _, _⟩ : NR) ∈ _ from (by repeat (first | exact List.mem_cons_self .. | apply List.mem_cons_of_mem)))).only hon hne16r_5); clear F1; replace hcur := hcur.trans (hon.below hg5); clear hon
            refine hK.out _ _ hcur (fun hHeld => ?_)
            clear hK K hHeld
            (try simp (config := {maxSteps := 2000000}) only [Act.put, List.setIfInBounds_toArray, List.set_cons_zero, List.set_cons_succ, List.getElem_toArray, List.getElem_cons_zero, List.getElem_cons_succ])
            refine wpAnyH_ready (rs := [12]) (by kernel_rfl) (by simp) ?_
            refine AllReadyH.cons (o := _) rfl (fun K hK => ?_) AllReadyH.nil
            refine st_store rfl rfl B6 (news := [.bool b16r, .slice A16r n16r c16r]) (by rfl) infoNum (by simp) (by simp [Value.oneCell']) ?_; intro wn hon Bx; simp only [List.take_zero, List.nil_append, List.length_cons, List.length_nil, List.drop_succ_cons, List.drop_zero, List.append_nil, List.cons_append] at Bx; replace B6 := Bx; clear Bx; replace B5 := B5.only hon hneb5_6; have oo6 : NR.Ok _ _ := (F.out _ (show (⟨b16r, A16r, n16r, c16r, _, _, _⟩ : NR) ∈ _ from (by repeat (first | exact List.mem_cons_self .. | apply List.mem_cons_of_mem)))).only hon hne16r_6; replace oo5 := oo5.only hon hne16_6; have F1 := F; clear F; have F := F0.below (hcur.trans (hon.below hg6)); clear F1; replace hcur := hcur.trans (hon.below hg6); clear hon
            refine hK.out _ _ hcur (fun hHeld => ?_)
            clear hK K hHeld
            (try simp (config := {maxSteps := 2000000}) only [Act.put, List.setIfInBounds_toArray, List.set_cons_zero, List.set_cons_succ, List.getElem_toArray, List.getElem_cons_zero, List.getElem_cons_succ])
            refine wpAnyH_ready (rs := [13]) (by kernel_rfl) (by simp) ?_
            refine AllReadyH.cons (o := _) rfl (fun K hK => ?_) AllReadyH.nil
            go_simp
            refine hK.out _ _ hcur (fun hHeld => ?_)
            clear hK K hHeld
            (try simp (config := {maxSteps := 2000000}) only [Act.put, List.setIfInBounds_toArray, List.set_cons_zero, List.set_cons_succ, List.getElem_toArray, List.getElem_cons_zero, List.getElem_cons_succ])
            refine wpAnyH_done (by kernel_rfl) ?_ _
            refine NoPanic.normal ?_
            obtain ⟨rfl⟩ := hQ7
            (go_wp2_with fail)
            go_meet
            exact ⟨g5, g6, _, _, _, _, _, _, _, _, rfl, rfl, rfl, ⟨hg5, hg6, by first | exact hneb6_5 | exact (Ne.symm hneb5_6)⟩, hcur, B5, B6, (Fs.nil _).cons oo5, (Fs.nil _).cons oo6⟩
          exact AllReadyH.nil
        exact AllReadyH.nil
      refine AllReadyH.cons (o := _) rfl (fun K hK => ?_) ?_
      · refine st_alloc 5 rfl infoNum (cs := [.bool false, .slice none 0 0]) rfl ?_; intro g5 wn hb B5 hgn; have hg5 := Nat.le_trans hcur.size hgn; replace F := F.below hb; replace hcur := bthen hcur hb
        refine hK.out _ _ hcur (fun hHeld => ?_)
        clear hK K hHeld
        (try simp (config := {maxSteps := 2000000}) only [Act.put, List.setIfInBounds_toArray, List.set_cons_zero, List.set_cons_succ, List.getElem_toArray, List.getElem_cons_zero, List.getElem_cons_succ])
        refine wpAnyH_ready (rs := [1, 10]) (by kernel_rfl) (by simp) ?_
        refine AllReadyH.cons (o := _) rfl (fun K hK => ?_) ?_
        · go_simp; (with_reducible refine (cF F (by repeat (first | exact List.mem_cons_self .. | apply List.mem_cons_of_mem))).mono ?_); rintro e wn ⟨vn, rfl, ⟨b13, A13, n13, c13, rfl, o, hf⟩, hb⟩; replace F := (F.below hb).cons o; have hne13_5 : ∀ k ∈ addrBlock A13, k ≠ g5 := (fun k hk e => by (have h1 := (hf k hk).1; have h2 := B5.lt; omega)); have hfr13 : ∀ k ∈ addrBlock A13, k < _ := (fun k hk => (hf k hk).2); clear hf; replace B5 := B5.below hb; replace hcur := bthen hcur hb; go_wp2_with fail
          refine hK.out _ _ hcur (fun hHeld => ?_)
          clear hK K hHeld
          (try simp (config := {maxSteps := 2000000}) only [Act.put, List.setIfInBounds_toArray, List.set_cons_zero, List.set_cons_succ, List.getElem_toArray, List.getElem_cons_zero, List.getElem_cons_succ])
          refine wpAnyH_ready (rs := [3, 10]) (by kernel_rfl) (by simp) ?_
          refine AllReadyH.cons (o := _) rfl (fun K hK => ?_) ?_
          · go_simp; (with_reducible refine (cF F (by repeat (first | exact List.mem_cons_self .. | apply List.mem_cons_of_mem))).mono ?_); rintro e wn ⟨vn, rfl, ⟨b15, A15, n15, c15, rfl, o, hf⟩, hb⟩; replace F := (F.below hb).cons o; have hne15_5 : ∀ k ∈ addrBlock A15, k ≠ g5 := (fun k hk e => by (have h1 := (hf k hk).1; have h2 := B5.lt; omega)); have hfr15 : ∀ k ∈ addrBlock A15, k < _ := (fun k hk => (hf k hk).2); clear hf; replace B5 := B5.below hb; replace hfr13 : ∀ k ∈ addrBlock A13, k < _ := (fun k hk => Nat.lt_of_lt_of_le (hfr13 k hk) hb.size); replace hcur := bthen hcur hb; go_wp2_with fail
            refine hK.out _ _ hcur (fun hHeld => ?_)
            clear hK K hHeld
            (try simp (config := {maxSteps := 2000000}) only [Act.put, List.setIfInBounds_toArray, List.set_cons_zero, List.set_cons_succ, List.getElem_toArray, List.getElem_cons_zero, List.getElem_cons_succ])
            refine wpAnyH_ready (rs := [4, 10]) (by kernel_rfl) (by simp) ?_
            refine AllReadyH.cons (o := _) rfl (fun K hK => ?_) ?_
            · go_simp; (with_reducible refine (truncF F (by repeat (first | exact List.mem_cons_self .. | apply List.mem_cons_of_mem)) (by repeat (first | exact List.mem_cons_self .. | apply List.mem_cons_of_mem)) HTQ.out (by omega)).mono ?_); rintro e wn ⟨vn, rfl, ⟨qn, rn, rfl, ⟨b16, A16, n16, c16, rfl, o, hf⟩, ⟨b16r, A16r, n16r, c16r, rfl, o2, hf2⟩⟩, hb⟩; replace F := ((F.below hb).cons o).cons o2; have hne16_5 : ∀ k ∈ addrBlock A16, k ≠ g5 := (fun k hk e => by (have h1 := (hf k hk).1; have h2 := B5.lt; omega)); have hne16r_5 : ∀ k ∈ addrBlock A16r, k ≠ g5 := (fun k hk e => by (have h1 := (hf2 k hk).1; have h2 := B5.lt; omega)); have hfr16 : ∀ k ∈ addrBlock A16, k < _ := (fun k hk => (hf k hk).2); have hfr16r : ∀ k ∈ addrBlock A16r, k < _ := (fun k hk => (hf2 k hk).2); clear hf hf2; replace B5 := B5.below hb; replace hfr13 : ∀ k ∈ addrBlock A13, k < _ := (fun k hk => Nat.lt_of_lt_of_le (hfr13 k hk) hb.size); replace hfr15 : ∀ k ∈ addrBlock A15, k < _ := (fun k hk => Nat.lt_of_lt_of_le (hfr15 k hk) hb.size); replace hcur := bthen hcur hb; go_wp2_with fail
              refine hK.out _ _ hcur (fun hHeld => ?_)
              clear hK K hHeld
              (try simp (config := {maxSteps := 2000000}) only [Act.put, List.setIfInBounds_toArray, List.set_cons_zero, List.set_cons_succ, List.getElem_toArray, List.getElem_cons_zero, List.getElem_cons_succ])
              refine wpAnyH_take (i := 5) (oi := _) (v := .tuple #[.agg #[.bool b16, .slice A16 n16 c16], .agg #[.bool b16r, .slice A16r n16r c16r], .bool ok]) rfl (by kernel_rfl) (by kernel_rfl) (by kernel_rfl) (fun _ _ _ h => h) (Or.inl ⟨by kernel_rfl, fun W hSw => by ((try dsimp only at hSw); go_simp; (try (with_reducible rfl)))⟩) hcur ?_
              (try simp (config := {maxSteps := 2000000}) only [Act.put, List.setIfInBounds_toArray, List.set_cons_zero, List.set_cons_succ, List.getElem_toArray, List.getElem_cons_zero, List.getElem_cons_succ])
              refine wpAnyH_take (i := 6) (oi := _) (v := .agg #[.bool b16, .slice A16 n16 c16]) rfl (by kernel_rfl) (by kernel_rfl) (by kernel_rfl) (fun _ _ _ h => h) (Or.inl ⟨by kernel_rfl, fun W hSw => by ((try dsimp only at hSw); go_simp; (try (with_reducible rfl)))⟩) hcur ?_
              (try simp (config := {maxSteps := 2000000}) only [Act.put, List.setIfInBounds_toArray, List.set_cons_zero, List.set_cons_succ, List.getElem_toArray, List.getElem_cons_zero, List.getElem_cons_succ])
              refine wpAnyH_take (i := 7) (oi := _) (v := .agg #[.bool b16r, .slice A16r n16r c16r]) rfl (by kernel_rfl) (by kernel_rfl) (by kernel_rfl) (fun _ _ _ h => h) (Or.inl ⟨by kernel_rfl, fun W hSw => by ((try dsimp only at hSw); go_simp; (try (with_reducible rfl)))⟩) hcur ?_
              (try simp (config := {maxSteps := 2000000}) only [Act.put, List.setIfInBounds_toArray, List.set_cons_zero, List.set_cons_succ, List.getElem_toArray, List.getElem_cons_zero, List.getElem_cons_succ])
              refine wpAnyH_take (i := 8) (oi := _) (v := .bool ok) rfl (by kernel_rfl) (by kernel_rfl) (by kernel_rfl) (fun _ _ _ h => h) (Or.inl ⟨by kernel_rfl, fun W hSw => by ((try dsimp only at hSw); go_simp; (try (with_reducible rfl)))⟩) hcur ?_
              (try simp (config := {maxSteps := 2000000}) only [Act.put, List.setIfInBounds_toArray, List.set_cons_zero, List.set_cons_succ, List.getElem_toArray, List.getElem_cons_zero, List.getElem_cons_succ])
              refine wpAnyH_ready (rs := [10]) (by kernel_rfl) (by simp) ?_
              refine AllReadyH.cons (o := _) rfl (fun K hK => ?_) AllReadyH.nil
              refine st_alloc 6 rfl infoNum (cs := [.bool false, .slice none 0 0]) rfl ?_; intro g6 wn hb B6 hgn; have hneb6_5 : g6 ≠ g5 := (fun e => by (have h1 := B5.lt; omega)); have hne13_6 : ∀ k ∈ addrBlock A13, k ≠ g6 := (fun k hk e => by (have h1 := hfr13 k hk; omega)); have hne15_6 : ∀ k ∈ addrBlock A15, k ≠ g6 := (fun k hk e => by (have h1 := hfr15 k hk; omega)); have hne16_6 : ∀ k ∈ addrBlock A16, k ≠ g6 := (fun k hk e => by (have h1 := hfr16 k hk; omega)); have hne16r_6 : ∀ k ∈ addrBlock A16r, k ≠ g6 := (fun k hk e => by (have h1 := hfr16r k hk; omega)); have hg6 := Nat.le_trans hcur.size hgn; replace F := F.below hb; replace B5 := B5.below hb; replace hfr13 : ∀ k ∈ addrBlock A13, k < _ := (fun k hk => Nat.lt_of_lt_of_le (hfr13 k hk) hb.size); replace hfr15 : ∀ k ∈ addrBlock A15, k < _ := (fun k hk => Nat.lt_of_lt_of_le (hfr15 k hk) hb.size); replace hfr16 : ∀ k ∈ addrBlock A16, k < _ := (fun k hk => Nat.lt_of_lt_of_le (hfr16 k hk) hb.size); replace hfr16r : ∀ k ∈ addrBlock A16r, k < _ := (fun k hk => Nat.lt_of_lt_of_le (hfr16r k hk) hb.size); replace hcur := bthen hcur hb
              refine hK.out _ _ hcur (fun hHeld => ?_)
              clear hK K hHeld
              (try simp (config := {maxSteps := 2000000}) only [Act.put, List.setIfInBounds_toArray, List.set_cons_zero, List.set_cons_succ, List.getElem_toArray, List.getElem_cons_zero, List.getElem_cons_succ])
              refine wpAnyH_ready (rs := [11]) (by kernel_rfl) (by simp) ?_
              refine AllReadyH.cons (o := _) rfl (fun K hK => ?_) AllReadyH.nil
              refine st_store rfl rfl B5 (news := [.bool b16, .slice A16 n16 c16]) (by rfl) infoNum (by simp) (by simp [Value.oneCell']) ?_; intro wn hon Bx; simp only [List.take_zero, List.nil_append, List.length_cons, List.length_nil, List.drop_succ_cons, List.drop_zero, List.append_nil, List.cons_append] at Bx; replace B5 := Bx; clear Bx; replace B6 := B6.only hon hneb6_5; have oo5 : NR.Ok _ _ := (F.out _ (show (⟨b16, A16, n16, c16, _, _, _⟩ : NR) ∈ _ from (by repeat (first | exact List.mem_cons_self .. | apply List.mem_cons_of_mem)))).only hon hne16_5; have F1 := F; clear F; have F := F0.below (hcur.trans (hon.below hg5)); replace F := F.cons ((F1.out _ (show (⟨b16r, A16r, n16r, c16r, _, _, _⟩ : NR) ∈ _ from (by repeat (first | exact List.mem_cons_self .. | apply List.mem_cons_of_mem)))).only hon hne16r_5); clear F1; replace hcur := hcur.trans (hon.below hg5); clear hon
              refine hK.out _ _ hcur (fun hHeld => ?_)
              clear hK K hHeld
              (try simp (config := {maxSteps := 2000000}) only [Act.put, List.setIfInBounds_toArray, List.set_cons_zero, List.set_cons_succ, List.getElem_toArray, List.getElem_cons_zero, List.getElem_cons_succ])
              refine wpAnyH_ready (rs := [12]) (by kernel_rfl) (by simp) ?_
              refine AllReadyH.cons (o := _) rfl (fun K hK => ?_) AllReadyH.nil
              refine st_store rfl rfl B6 (news := [.bool b16r, .slice A16r n16r c16r]) (by rfl) infoNum (by simp) (by simp [Value.oneCell']) ?_; intro wn hon Bx; simp only [List.take_zero, List.nil_append, List.length_cons, List.length_nil, List.drop_succ_cons, List.drop_zero, List.append_nil, List.cons_append] at Bx; replace B6 := Bx; clear Bx; replace B5 := B5.only hon (Ne.symm hneb6_5); have oo6 : NR.Ok _ _ := (F.out _ (show (⟨b16r, A16r, n16r, c16r, _, _, _⟩ : NR) ∈ _ from (by repeat (first | exact List.mem_cons_self .. | apply List.mem_cons_of_mem)))).only hon hne16r_6; replace oo5 := oo5.only hon hne16_6; have F1 := F; clear F; have F := F0.below (hcur.trans (hon.below hg6)); clear F1; replace hcur := hcur.trans (hon.below hg6); clear hon
              refine hK.out _ _ hcur (fun hHeld => ?_)
              clear hK K hHeld
              (try simp (config := {maxSteps := 2000000}) only [Act.put, List.setIfInBounds_toArray, List.set_cons_zero, List.set_cons_succ, List.getElem_toArray, List.getElem_cons_zero, List.getElem_cons_succ])
              refine wpAnyH_ready (rs := [13]) (by kernel_rfl) (by simp) ?_
              refine AllReadyH.cons (o := _) rfl (fun K hK => ?_) AllReadyH.nil
              go_simp
              refine hK.out _ _ hcur (fun hHeld => ?_)
              clear hK K hHeld
              (try simp (config := {maxSteps := 2000000}) only [Act.put, List.setIfInBounds_toArray, List.set_cons_zero, List.set_cons_succ, List.getElem_toArray, List.getElem_cons_zero, List.getElem_cons_succ])
              refine wpAnyH_done (by kernel_rfl) ?_ _
              refine NoPanic.normal ?_
              obtain ⟨rfl⟩ := hQ7
              (go_wp2_with fail)
              go_meet
              exact ⟨g5, g6, _, _, _, _, _, _, _, _, rfl, rfl, rfl, ⟨hg5, hg6, by first | exact hneb6_5 | exact (Ne.symm hneb5_6)⟩, hcur, B5, B6, (Fs.nil _).cons oo5, (Fs.nil _).cons oo6⟩
            refine AllReadyH.cons (o := _) rfl (fun K hK => ?_) ?_
            · refine st_alloc 6 rfl infoNum (cs := [.bool false, .slice none 0 0]) rfl ?_; intro g6 wn hb B6 hgn; have hneb6_5 : g6 ≠ g5 := (fun e => by (have h1 := B5.lt; omega)); have hne13_6 : ∀ k ∈ addrBlock A13, k ≠ g6 := (fun k hk e => by (have h1 := hfr13 k hk; omega)); have hne15_6 : ∀ k ∈ addrBlock A15, k ≠ g6 := (fun k hk e => by (have h1 := hfr15 k hk; omega)); have hg6 := Nat.le_trans hcur.size hgn; replace F := F.below hb; replace B5 := B5.below hb; replace hfr13 : ∀ k ∈ addrBlock A13, k < _ := (fun k hk => Nat.lt_of_lt_of_le (hfr13 k hk) hb.size); replace hfr15 : ∀ k ∈ addrBlock A15, k < _ := (fun k hk => Nat.lt_of_lt_of_le (hfr15 k hk) hb.size); replace hcur := bthen hcur hb
              refine hK.out _ _ hcur (fun hHeld => ?_)
              clear hK K hHeld
              (try simp (config := {maxSteps := 2000000}) only [Act.put, List.setIfInBounds_toArray, List.set_cons_zero, List.set_cons_succ, List.getElem_toArray, List.getElem_cons_zero, List.getElem_cons_succ])
              refine wpAnyH_ready (rs := [4]) (by kernel_rfl) (by simp) ?_
              refine AllReadyH.cons (o := _) rfl (fun K hK => ?_) AllReadyH.nil
              go_simp; (with_reducible refine (truncF F (by repeat (first | exact List.mem_cons_self .. | apply List.mem_cons_of_mem)) (by repeat (first | exact List.mem_cons_self .. | apply List.mem_cons_of_mem)) HTQ.out (by omega)).mono ?_); rintro e wn ⟨vn, rfl, ⟨qn, rn, rfl, ⟨b16, A16, n16, c16, rfl, o, hf⟩, ⟨b16r, A16r, n16r, c16r, rfl, o2, hf2⟩⟩, hb⟩; replace F := ((F.below hb).cons o).cons o2; have hne16_5 : ∀ k ∈ addrBlock A16, k ≠ g5 := (fun k hk e => by (have h1 := (hf k hk).1; have h2 := B5.lt; omega)); have hne16r_5 : ∀ k ∈ addrBlock A16r, k ≠ g5 := (fun k hk e => by (have h1 := (hf2 k hk).1; have h2 := B5.lt; omega)); have hne16_6 : ∀ k ∈ addrBlock A16, k ≠ g6 := (fun k hk e => by (have h1 := (hf k hk).1; have h2 := B6.lt; omega)); have hne16r_6 : ∀ k ∈ addrBlock A16r, k ≠ g6 := (fun k hk e => by (have h1 := (hf2 k hk).1; have h2 := B6.lt; omega)); have hfr16 : ∀ k ∈ addrBlock A16, k < _ := (fun k hk => (hf k hk).2); have hfr16r : ∀ k ∈ addrBlock A16r, k < _ := (fun k hk => (hf2 k hk).2); clear hf hf2; replace B5 := B5.below hb; replace B6 := B6.below hb; replace hfr13 : ∀ k ∈ addrBlock A13, k < _ := (fun k hk => Nat.lt_of_lt_of_le (hfr13 k hk) hb.size); replace hfr15 : ∀ k ∈ addrBlock A15, k < _ := (fun k hk => Nat.lt_of_lt_of_le (hfr15 k hk) hb.size); replace hcur := bthen hcur hb; go_wp2_with fail
              refine hK.out _ _ hcur (fun hHeld => ?_)
              clear hK K hHeld
              (try simp (config := {maxSteps := 2000000}) only [Act.put, List.setIfInBounds_toArray, List.set_cons_zero, List.set_cons_succ, List.getElem_toArray, List.getElem_cons_zero, List.getElem_cons_succ])
              refine wpAnyH_take (i := 5) (oi := _) (v := .tuple #[.agg #[.bool b16, .slice A16 n16 c16], .agg #[.bool b16r, .slice A16r n16r c16r], .bool ok]) rfl (by kernel_rfl) (by kernel_rfl) (by kernel_rfl) (fun _ _ _ h => h) (Or.inl ⟨by kernel_rfl, fun W hSw => by ((try dsimp only at hSw); go_simp; (try (with_reducible rfl)))⟩) hcur ?_
              (try simp (config := {maxSteps := 2000000}) only [Act.put, List.setIfInBounds_toArray, List.set_cons_zero, List.set_cons_succ, List.getElem_toArray, List.getElem_cons_zero, List.getElem_cons_succ])
              refine wpAnyH_take (i := 6) (oi := _) (v := .agg #[.bool b16, .slice A16 n16 c16]) rfl (by kernel_rfl) (by kernel_rfl) (by kernel_rfl) (fun _ _ _ h => h) (Or.inl ⟨by kernel_rfl, fun W hSw => by ((try dsimp only at hSw); go_simp; (try (with_reducible rfl)))⟩) hcur ?_
              (try simp (config := {maxSteps := 2000000}) only [Act.put, List.setIfInBounds_toArray, List.set_cons_zero, List.set_cons_succ, List.getElem_toArray, List.getElem_cons_zero, List.getElem_cons_succ])
              refine wpAnyH_take (i := 7) (oi := _) (v := .agg #[.bool b16r, .slice A16r n16r c16r]) rfl (by kernel_rfl) (by kernel_rfl) (by kernel_rfl) (fun _ _ _ h => h) (Or.inl ⟨by kernel_rfl, fun W hSw => by ((try dsimp only at hSw); go_simp; (try (with_reducible rfl)))⟩) hcur ?_
              (try simp (config := {maxSteps := 2000000}) only [Act.put, List.setIfInBounds_toArray, List.set_cons_zero, List.set_cons_succ, List.getElem_toArray, List.getElem_cons_zero, List.getElem_cons_succ])
              refine wpAnyH_take (i := 8) (oi := _) (v := .bool ok) rfl (by kernel_rfl) (by kernel_rfl) (by kernel_rfl) (fun _ _ _ h => h) (Or.inl ⟨by kernel_rfl, fun W hSw => by ((try dsimp only at hSw); go_simp; (try (with_reducible rfl)))⟩) hcur ?_
              (try simp (config := {maxSteps := 2000000}) only [Act.put, List.setIfInBounds_toArray, List.set_cons_zero, List.set_cons_succ, List.getElem_toArray, List.getElem_cons_zero, List.getElem_cons_succ])
              refine wpAnyH_ready (rs := [11]) (by kernel_rfl) (by simp) ?_
              refine AllReadyH.cons (o := _) rfl (fun K hK => ?_) AllReadyH.nil
              refine st_store rfl rfl B5 (news := [.bool b16, .slice A16 n16 c16]) (by rfl) infoNum (by simp) (by simp [Value.oneCell']) ?_; intro wn hon Bx; simp only [List.take_zero, List.nil_append, List.length_cons, List.length_nil, List.drop_succ_cons, List.drop_zero, List.append_nil, List.cons_append] at Bx; replace B5 := Bx; clear Bx; replace B6 := B6.only hon hneb6_5; have oo5 : NR.Ok _ _ := (F.out _ (show (⟨b16, A16, n16, c16, _, _, _⟩ : NR) ∈ _ from (by repeat (first | exact List.mem_cons_self .. | apply List.mem_cons_of_mem)))).only hon hne16_5; have F1 := F; clear F; have F := F0.below (hcur.trans (hon.below hg5)); replace F := F.cons ((F1.out _ (show (⟨b16r, A16r, n16r, c16r, _, _, _⟩ : NR) ∈ _ from (by repeat (first | exact List.mem_cons_self .. | apply List.mem_cons_of_mem)))).only hon hne16r_5); clear F1; replace hcur := hcur.trans (hon.below hg5); clear hon
              refine hK.out _ _ hcur (fun hHeld => ?_)
              clear hK K hHeld
              (try simp (config := {maxSteps := 2000000}) only [Act.put, List.setIfInBounds_toArray, List.set_cons_zero, List.set_cons_succ, List.getElem_toArray, List.getElem_cons_zero, List.getElem_cons_succ])
              refine wpAnyH_ready (rs := [12]) (by kernel_rfl) (by simp) ?_
              refine AllReadyH.cons (o := _) rfl (fun K hK => ?_) AllReadyH.nil
              refine st_store rfl rfl B6 (news := [.bool b16r, .slice A16r n16r c16r]) (by rfl) infoNum (by simp) (by simp [Value.oneCell']) ?_; intro wn hon Bx; simp only [List.take_zero, List.nil_append, List.length_cons, List.length_nil, List.drop_succ_cons, List.drop_zero, List.append_nil, List.cons_append] at Bx; replace B6 := Bx; clear Bx; replace B5 := B5.only hon (Ne.symm hneb6_5); have oo6 : NR.Ok _ _ := (F.out _ (show (⟨b16r, A16r, n16r, c16r, _, _, _⟩ : NR) ∈ _ from (by repeat (first | exact List.mem_cons_self .. | apply List.mem_cons_of_mem)))).only hon hne16r_6; replace oo5 := oo5.only hon hne16_6; have F1 := F; clear F; have F := F0.below (hcur.trans (hon.below hg6)); clear F1; replace hcur := hcur.trans (hon.below hg6); clear hon
              refine hK.out _ _ hcur (fun hHeld => ?_)
              clear hK K hHeld
              (try simp (config := {maxSteps := 2000000}) only [Act.put, List.setIfInBounds_toArray, List.set_cons_zero, List.set_cons_succ, List.getElem_toArray, List.getElem_cons_zero, List.getElem_cons_succ])
              refine wpAnyH_ready (rs := [13]) (by kernel_rfl) (by simp) ?_
              refine AllReadyH.cons (o := _) rfl (fun K hK => ?_) AllReadyH.nil
              go_simp
              refine hK.out _ _ hcur (fun hHeld => ?_)
              clear hK K hHeld
              (try simp (config := {maxSteps := 2000000}) only [Act.put, List.setIfInBounds_toArray, List.set_cons_zero, List.set_cons_succ, List.getElem_toArray, List.getElem_cons_zero, List.getElem_cons_succ])
              refine wpAnyH_done (by kernel_rfl) ?_ _
              refine NoPanic.normal ?_
              obtain ⟨rfl⟩ := hQ7
              (go_wp2_with fail)
              go_meet
              exact ⟨g5, g6, _, _, _, _, _, _, _, _, rfl, rfl, rfl, ⟨hg5, hg6, by first | exact hneb6_5 | exact (Ne.symm hneb5_6)⟩, hcur, B5, B6, (Fs.nil _).cons oo5, (Fs.nil _).cons oo6⟩
            exact AllReadyH.nil
          refine AllReadyH.cons (o := _) rfl (fun K hK => ?_) ?_
          · refine st_alloc 6 rfl infoNum (cs := [.bool false, .slice none 0 0]) rfl ?_; intro g6 wn hb B6 hgn; have hneb6_5 : g6 ≠ g5 := (fun e => by (have h1 := B5.lt; omega)); have hne13_6 : ∀ k ∈ addrBlock A13, k ≠ g6 := (fun k hk e => by (have h1 := hfr13 k hk; omega)); have hg6 := Nat.le_trans hcur.size hgn; replace F := F.below hb; replace B5 := B5.below hb; replace hfr13 : ∀ k ∈ addrBlock A13, k < _ := (fun k hk => Nat.lt_of_lt_of_le (hfr13 k hk) hb.size); replace hcur := bthen hcur hb
            refine hK.out _ _ hcur (fun hHeld => ?_)
            clear hK K hHeld
            (try simp (config := {maxSteps := 2000000}) only [Act.put, List.setIfInBounds_toArray, List.set_cons_zero, List.set_cons_succ, List.getElem_toArray, List.getElem_cons_zero, List.getElem_cons_succ])
            refine wpAnyH_ready (rs := [3]) (by kernel_rfl) (by simp) ?_
            refine AllReadyH.cons (o := _) rfl (fun K hK => ?_) AllReadyH.nil
            go_simp; (with_reducible refine (cF F (by repeat (first | exact List.mem_cons_self .. | apply List.mem_cons_of_mem))).mono ?_); rintro e wn ⟨vn, rfl, ⟨b15, A15, n15, c15, rfl, o, hf⟩, hb⟩; replace F := (F.below hb).cons o; have hne15_5 : ∀ k ∈ addrBlock A15, k ≠ g5 := (fun k hk e => by (have h1 := (hf k hk).1; have h2 := B5.lt; omega)); have hne15_6 : ∀ k ∈ addrBlock A15, k ≠ g6 := (fun k hk e => by (have h1 := (hf k hk).1; have h2 := B6.lt; omega)); have hfr15 : ∀ k ∈ addrBlock A15, k < _ := (fun k hk => (hf k hk).2); clear hf; replace B5 := B5.below hb; replace B6 := B6.below hb; replace hfr13 : ∀ k ∈ addrBlock A13, k < _ := (fun k hk => Nat.lt_of_lt_of_le (hfr13 k hk) hb.size); replace hcur := bthen hcur hb; go_wp2_with fail
            refine hK.out _ _ hcur (fun hHeld => ?_)
            clear hK K hHeld
            (try simp (config := {maxSteps := 2000000}) only [Act.put, List.setIfInBounds_toArray, List.set_cons_zero, List.set_cons_succ, List.getElem_toArray, List.getElem_cons_zero, List.getElem_cons_succ])
            refine wpAnyH_ready (rs := [4]) (by kernel_rfl) (by simp) ?_
            refine AllReadyH.cons (o := _) rfl (fun K hK => ?_) AllReadyH.nil
            go_simp; (with_reducible refine (truncF F (by repeat (first | exact List.mem_cons_self .. | apply List.mem_cons_of_mem)) (by repeat (first | exact List.mem_cons_self .. | apply List.mem_cons_of_mem)) HTQ.out (by omega)).mono ?_); rintro e wn ⟨vn, rfl, ⟨qn, rn, rfl, ⟨b16, A16, n16, c16, rfl, o, hf⟩, ⟨b16r, A16r, n16r, c16r, rfl, o2, hf2⟩⟩, hb⟩; replace F := ((F.below hb).cons o).cons o2; have hne16_5 : ∀ k ∈ addrBlock A16, k ≠ g5 := (fun k hk e => by (have h1 := (hf k hk).1; have h2 := B5.lt; omega)); have hne16r_5 : ∀ k ∈ addrBlock A16r, k ≠ g5 := (fun k hk e => by (have h1 := (hf2 k hk).1; have h2 := B5.lt; omega)); have hne16_6 : ∀ k ∈ addrBlock A16, k ≠ g6 := (fun k hk e => by (have h1 := (hf k hk).1; have h2 := B6.lt; omega)); have hne16r_6 : ∀ k ∈ addrBlock A16r, k ≠ g6 := (fun k hk e => by (have h1 := (hf2 k hk).1; have h2 := B6.lt; omega)); have hfr16 : ∀ k ∈ addrBlock A16, k < _ := (fun k hk => (hf k hk).2); have hfr16r : ∀ k ∈ addrBlock A16r, k < _ := (fun k hk => (hf2 k hk).2); clear hf hf2; replace B5 := B5.below hb; replace B6 := B6.below hb; replace hfr13 : ∀ k ∈ addrBlock A13, k < _ := (fun k hk => Nat.lt_of_lt_of_le (hfr13 k hk) hb.size); replace hfr15 : ∀ k ∈ addrBlock A15, k < _ := (fun k hk => Nat.lt_of_lt_of_le (hfr15 k hk) hb.size); replace hcur := bthen hcur hb; go_wp2_with fail
            refine hK.out _ _ hcur (fun hHeld => ?_)
            clear hK K hHeld
            (try simp (config := {maxSteps := 2000000}) only [Act.put, List.setIfInBounds_toArray, List.set_cons_zero, List.set_cons_succ, List.getElem_toArray, List.getElem_cons_zero, List.getElem_cons_succ])
            refine wpAnyH_take (i := 5) (oi := _) (v := .tuple #[.agg #[.bool b16, .slice A16 n16 c16], .agg #[.bool b16r, .slice A16r n16r c16r], .bool ok]) rfl (by kernel_rfl) (by kernel_rfl) (by kernel_rfl) (fun _ _ _ h => h) (Or.inl ⟨by kernel_rfl, fun W hSw => by ((try dsimp only at hSw); go_simp; (try (with_reducible rfl)))⟩) hcur ?_
            (try simp (config := {maxSteps := 2000000}) only [Act.put, List.setIfInBounds_toArray, List.set_cons_zero, List.set_cons_succ, List.getElem_toArray, List.getElem_cons_zero, List.getElem_cons_succ])
            refine wpAnyH_take (i := 6) (oi := _) (v := .agg #[.bool b16, .slice A16 n16 c16]) rfl (by kernel_rfl) (by kernel_rfl) (by kernel_rfl) (fun _ _ _ h => h) (Or.inl ⟨by kernel_rfl, fun W hSw => by ((try dsimp only at hSw); go_simp; (try (with_reducible rfl)))⟩) hcur ?_
            (try simp (config := {maxSteps := 2000000}) only [Act.put, List.setIfInBounds_toArray, List.set_cons_zero, List.set_cons_succ, List.getElem_toArray, List.getElem_cons_zero, List.getElem_cons_succ])
            refine wpAnyH_take (i := 7) (oi := _) (v := .agg #[.bool b16r, .slice A16r n16r c16r]) rfl (by kernel_rfl) (by kernel_rfl) (by kernel_rfl) (fun _ _ _ h => h) (Or.inl ⟨by kernel_rfl, fun W hSw => by ((try dsimp only at hSw); go_simp; (try (with_reducible rfl)))⟩) hcur ?_
            (try simp (config := {maxSteps := 2000000}) only [Act.put, List.setIfInBounds_toArray, List.set_cons_zero, List.set_cons_succ, List.getElem_toArray, List.getElem_cons_zero, List.getElem_cons_succ])
            refine wpAnyH_take (i := 8) (oi := _) (v := .bool ok) rfl (by kernel_rfl) (by kernel_rfl) (by kernel_rfl) (fun _ _ _ h => h) (Or.inl ⟨by kernel_rfl, fun W hSw => by ((try dsimp only at hSw); go_simp; (try (with_reducible rfl)))⟩) hcur ?_
            (try simp (config := {maxSteps := 2000000}) only [Act.put, List.setIfInBounds_toArray, List.set_cons_zero, List.set_cons_succ, List.getElem_toArray, List.getElem_cons_zero, List.getElem_cons_succ])
            refine wpAnyH_ready (rs := [11]) (by kernel_rfl) (by simp) ?_
            refine AllReadyH.cons (o := _) rfl (fun K hK => ?_) AllReadyH.nil
            refine st_store rfl rfl B5 (news := [.bool b16, .slice A16 n16 c16]) (by rfl) infoNum (by simp) (by simp [Value.oneCell']) ?_; intro wn hon Bx; simp only [List.take_zero, List.nil_append, List.length_cons, List.length_nil, List.drop_succ_cons, List.drop_zero, List.append_nil, List.cons_append] at Bx; replace B5 := Bx; clear Bx; replace B6 := B6.only hon hneb6_5; have oo5 : NR.Ok _ _ := (F.out _ (show (⟨b16, A16, n16, c16, _, _, _⟩ : NR) ∈ _ from (by repeat (first | exact List.mem_cons_self .. | apply List.mem_cons_of_mem)))).only hon hne16_5; have F1 := F; clear F; have F := F0.below (hcur.trans (hon.below hg5)); replace F := F.cons ((F1.out _ (show (⟨b16r, A16r, n16r, c16r, _, _, _⟩ : NR) ∈ _ from (by repeat (first | exact List.mem_cons_self .. | apply List.mem_cons_of_mem)))).only hon hne16r_5); clear F1; replace hcur := hcur.trans (hon.below hg5); clear hon
            refine hK.out _ _ hcur (fun hHeld => ?_)
            clear hK K hHeld
            (try simp (config := {maxSteps := 2000000}) only [Act.put, List.setIfInBounds_toArray, List.set_cons_zero, List.set_cons_succ, List.getElem_toArray, List.getElem_cons_zero, List.getElem_cons_succ])
            refine wpAnyH_ready (rs := [12]) (by kernel_rfl) (by simp) ?_
            refine AllReadyH.cons (o := _) rfl (fun K hK => ?_) AllReadyH.nil
            refine st_store rfl rfl B6 (news := [.bool b16r, .slice A16r n16r c16r]) (by rfl) infoNum (by simp) (by simp [Value.oneCell']) ?_; intro wn hon Bx; simp only [List.take_zero, List.nil_append, List.length_cons, List.length_nil, List.drop_succ_cons, List.drop_zero, List.append_nil, List.cons_append] at Bx; replace B6 := Bx; clear Bx; replace B5 := B5.only hon (Ne.symm hneb6_5); have oo6 : NR.Ok _ _ := (F.out _ (show (⟨b16r, A16r, n16r, c16r, _, _, _⟩ : NR) ∈ _ from (by repeat (first | exact List.mem_cons_self .. | apply List.mem_cons_of_mem)))).only hon hne16r_6; replace oo5 := oo5.only hon hne16_6; have F1 := F; clear F; have F := F0.below (hcur.trans (hon.below hg6)); clear F1; replace hcur := hcur.trans (hon.below hg6); clear hon
            refine hK.out _ _ hcur (fun hHeld => ?_)
            clear hK K hHeld
            (try simp (config := {maxSteps := 2000000}) only [Act.put, List.setIfInBounds_toArray, List.set_cons_zero, List.set_cons_succ, List.getElem_toArray, List.getElem_cons_zero, List.getElem_cons_succ])
            refine wpAnyH_ready (rs := [13]) (by kernel_rfl) (by simp) ?_
            refine AllReadyH.cons (o := _) rfl (fun K hK => ?_) AllReadyH.nil
            go_simp
            refine hK.out _ _ hcur (fun hHeld => ?_)
            clear hK K hHeld
            (try simp (config := {maxSteps := 2000000}) only [Act.put, List.setIfInBounds_toArray, List.set_cons_zero, List.set_cons_succ, List.getElem_toArray, List.getElem_cons_zero, List.getElem_cons_succ])
            refine wpAnyH_done (by kernel_rfl) ?_ _
            refine NoPanic.normal ?_
            obtain ⟨rfl⟩ := hQ7
            (go_wp2_with fail)
            go_meet
            exact ⟨g5, g6, _, _, _, _, _, _, _, _, rfl, rfl, rfl, ⟨hg5, hg6, by first | exact hneb6_5 | exact (Ne.symm hneb5_6)⟩, hcur, B5, B6, (Fs.nil _).cons oo5, (Fs.nil _).cons oo6⟩
          exact AllReadyH.nil
        refine AllReadyH.cons (o := _) rfl (fun K hK => ?_) ?_
        · refine st_alloc 6 rfl infoNum (cs := [.bool false, .slice none 0 0]) rfl ?_; intro g6 wn hb B6 hgn; have hneb6_5 : g6 ≠ g5 := (fun e => by (have h1 := B5.lt; omega)); have hg6 := Nat.le_trans hcur.size hgn; replace F := F.below hb; replace B5 := B5.below hb; replace hcur := bthen hcur hb
          refine hK.out _ _ hcur (fun hHeld => ?_)
          clear hK K hHeld
          (try simp (config := {maxSteps := 2000000}) only [Act.put, List.setIfInBounds_toArray, List.set_cons_zero, List.set_cons_succ, List.getElem_toArray, List.getElem_cons_zero, List.getElem_cons_succ])
          refine wpAnyH_ready (rs := [1]) (by kernel_rfl) (by simp) ?_
          refine AllReadyH.cons (o := _) rfl (fun K hK => ?_) AllReadyH.nil
          go_simp; (with_reducible refine (cF F (by repeat (first | exact List.mem_cons_self .. | apply List.mem_cons_of_mem))).mono ?_); rintro e wn ⟨vn, rfl, ⟨b13, A13, n13, c13, rfl, o, hf⟩, hb⟩; replace F := (F.below hb).cons o; have hne13_5 : ∀ k ∈ addrBlock A13, k ≠ g5 := (fun k hk e => by (have h1 := (hf k hk).1; have h2 := B5.lt; omega)); have hne13_6 : ∀ k ∈ addrBlock A13, k ≠ g6 := (fun k hk e => by (have h1 := (hf k hk).1; have h2 := B6.lt; omega)); have hfr13 : ∀ k ∈ addrBlock A13, k < _ := (fun k hk => (hf k hk).2); clear hf; replace B5 := B5.below hb; replace B6 := B6.below hb; replace hcur := bthen hcur hb; go_wp2_with fail
          refine hK.out _ _ hcur (fun hHeld => ?_)
          clear hK K hHeld
          (try simp (config := {maxSteps := 2000000}) only [Act.put, List.setIfInBounds_toArray, List.set_cons_zero, List.set_cons_succ, List.getElem_toArray, List.getElem_cons_zero, List.getElem_cons_succ])
          refine wpAnyH_ready (rs := [3]) (by kernel_rfl) (by simp) ?_
          refine AllReadyH.cons (o := _) rfl (fun K hK => ?_) AllReadyH.nil
          go_simp; (with_reducible refine (cF F (by repeat (first | exact List.mem_cons_self .. | apply List.mem_cons_of_mem))).mono ?_); rintro e wn ⟨vn, rfl, ⟨b15, A15, n15, c15, rfl, o, hf⟩, hb⟩; replace F := (F.below hb).cons o; have hne15_5 : ∀ k ∈ addrBlock A15, k ≠ g5 := (fun k hk e => by (have h1 := (hf k hk).1; have h2 := B5.lt; omega)); have hne15_6 : ∀ k ∈ addrBlock A15, k ≠ g6 := (fun k hk e => by (have h1 := (hf k hk).1; have h2 := B6.lt; omega)); have hfr15 : ∀ k ∈ addrBlock A15, k < _ := (fun k hk => (hf k hk).2); clear hf; replace B5 := B5.below hb; replace B6 := B6.below hb; replace hfr13 : ∀ k ∈ addrBlock A13, k < _ := (fun k hk => Nat.lt_of_lt_of_le (hfr13 k hk) hb.size); replace hcur := bthen hcur hb; go_wp2_with fail
          refine hK.out _ _ hcur (fun hHeld => ?_)
          clear hK K hHeld
          (try simp (config := {maxSteps := 2000000}) only [Act.put, List.setIfInBounds_toArray, List.set_cons_zero, List.set_cons_succ, List.getElem_toArray, List.getElem_cons_zero, List.getElem_cons_succ])
          refine wpAnyH_ready (rs := [4]) (by kernel_rfl) (by simp) ?_
          refine AllReadyH.cons (o := _) rfl (fun K hK => ?_) AllReadyH.nil
          go_simp; (with_reducible refine (truncF F (by repeat (first | exact List.mem_cons_self .. | apply List.mem_cons_of_mem)) (by repeat (first | exact List.mem_cons_self .. | apply List.mem_cons_of_mem)) HTQ.out (by omega)).mono ?_); rintro e wn ⟨vn, rfl, ⟨qn, rn, rfl, ⟨b16, A16, n16, c16, rfl, o, hf⟩, ⟨b16r, A16r, n16r, c16r, rfl, o2, hf2⟩⟩, hb⟩; replace F := ((F.below hb).cons o).cons o2; have hne16_5 : ∀ k ∈ addrBlock A16, k ≠ g5 := (fun k hk e => by (have h1 := (hf k hk).1; have h2 := B5.lt; omega)); have hne16r_5 : ∀ k ∈ addrBlock A16r, k ≠ g5 := (fun k hk e => by (have h1 := (hf2 k hk).1; have h2 := B5.lt; omega)); have hne16_6 : ∀ k ∈ addrBlock A16, k ≠ g6 := (fun k hk e => by (have h1 := (hf k hk).1; have h2 := B6.lt; omega)); have hne16r_6 : ∀ k ∈ addrBlock A16r, k ≠ g6 := (fun k hk e => by (have h1 := (hf2 k hk).1; have h2 := B6.lt; omega)); have hfr16 : ∀ k ∈ addrBlock A16, k < _ := (fun k hk => (hf k hk).2); have hfr16r : ∀ k ∈ addrBlock A16r, k < _ := (fun k hk => (hf2 k hk).2); clear hf hf2; replace B5 := B5.below hb; replace B6 := B6.below hb; replace hfr13 : ∀ k ∈ addrBlock A13, k < _ := (fun k hk => Nat.lt_of_lt_of_le (hfr13 k hk) hb.size); replace hfr15 : ∀ k ∈ addrBlock A15, k < _ := (fun k hk => Nat.lt_of_lt_of_le (hfr15 k hk) hb.size); replace hcur := bthen hcur hb; go_wp2_with fail
          refine hK.out _ _ hcur (fun hHeld => ?_)
          clear hK K hHeld
          (try simp (config := {maxSteps := 2000000}) only [Act.put, List.setIfInBounds_toArray, List.set_cons_zero, List.set_cons_succ, List.getElem_toArray, List.getElem_cons_zero, List.getElem_cons_succ])
          refine wpAnyH_take (i := 5) (oi := _) (v := .tuple #[.agg #[.bool b16, .slice A16 n16 c16], .agg #[.bool b16r, .slice A16r n16r c16r], .bool ok]) rfl (by kernel_rfl) (by kernel_rfl) (by kernel_rfl) (fun _ _ _ h => h) (Or.inl ⟨by kernel_rfl, fun W hSw => by ((try dsimp only at hSw); go_simp; (try (with_reducible rfl)))⟩) hcur ?_
          (try simp (config := {maxSteps := 2000000}) only [Act.put, List.setIfInBounds_toArray, List.set_cons_zero, List.set_cons_succ, List.getElem_toArray, List.getElem_cons_zero, List.getElem_cons_succ])
          refine wpAnyH_take (i := 6) (oi := _) (v := .agg #[.bool b16, .slice A16 n16 c16]) rfl (by kernel_rfl) (by kernel_rfl) (by kernel_rfl) (fun _ _ _ h => h) (Or.inl ⟨by kernel_rfl, fun W hSw => by ((try dsimp only at hSw); go_simp; (try (with_reducible rfl)))⟩) hcur ?_
          (try simp (config := {maxSteps := 2000000}) only [Act.put, List.setIfInBounds_toArray, List.set_cons_zero, List.set_cons_succ, List.getElem_toArray, List.getElem_cons_zero, List.getElem_cons_succ])
          refine wpAnyH_take (i := 7) (oi := _) (v := .agg #[.bool b16r, .slice A16r n16r c16r]) rfl (by kernel_rfl) (by kernel_rfl) (by kernel_rfl) (fun _ _ _ h => h) (Or.inl ⟨by kernel_rfl, fun W hSw => by ((try dsimp only at hSw); go_simp; (try (with_reducible rfl)))⟩) hcur ?_
          (try simp (config := {maxSteps := 2000000}) only [Act.put, List.setIfInBounds_toArray, List.set_cons_zero, List.set_cons_succ, List.getElem_toArray, List.getElem_cons_zero, List.getElem_cons_succ])
          refine wpAnyH_take (i := 8) (oi := _) (v := .bool ok) rfl (by kernel_rfl) (by kernel_rfl) (by kernel_rfl) (fun _ _ _ h => h) (Or.inl ⟨by kernel_rfl, fun W hSw => by ((try dsimp only at hSw); go_simp; (try (with_reducible rfl)))⟩) hcur ?_
          (try simp (config := {maxSteps := 2000000}) only [Act.put, List.setIfInBounds_toArray, List.set_cons_zero, List.set_cons_succ, List.getElem_toArray, List.getElem_cons_zero, List.getElem_cons_succ])
          refine wpAnyH_ready (rs := [11]) (by kernel_rfl) (by simp) ?_
          refine AllReadyH.cons (o := _) rfl (fun K hK => ?_) AllReadyH.nil
          refine st_store rfl rfl B5 (news := [.bool b16, .slice A16 n16 c16]) (by rfl) infoNum (by simp) (by simp [Value.oneCell']) ?_; intro wn hon Bx; simp only [List.take_zero, List.nil_append, List.length_cons, List.length_nil, List.drop_succ_cons, List.drop_zero, List.append_nil, List.cons_append] at Bx; replace B5 := Bx; clear Bx; replace B6 := B6.only hon hneb6_5; have oo5 : NR.Ok _ _ := (F.out _ (show (⟨b16, A16, n16, c16, _, _, _⟩ : NR) ∈ _ from (by repeat (first | exact List.mem_cons_self .. | apply List.mem_cons_of_mem)))).only hon hne16_5; have F1 := F; clear F; have F := F0.below (hcur.trans (hon.below hg5)); replace F := F.cons ((F1.out _ (show (⟨b16r, A16r, n16r, c16r, _, _, _⟩ : NR) ∈ _ from (by repeat (first | exact List.mem_cons_self .. | apply List.mem_cons_of_mem)))).only hon hne16r_5); clear F1; replace hcur := hcur.trans (hon.below hg5); clear hon
          refine hK.out _ _ hcur (fun hHeld => ?_)
          clear hK K hHeld
          (try simp (config := {maxSteps := 2000000}) only [Act.put, List.setIfInBounds_toArray, List.set_cons_zero, List.set_cons_succ, List.getElem_toArray, List.getElem_cons_zero, List.getElem_cons_succ])
          refine wpAnyH_ready (rs := [12]) (by kernel_rfl) (by simp) ?_
          refine AllReadyH.cons (o := _) rfl (fun K hK => ?_) AllReadyH.nil
          refine st_store rfl rfl B6 (news := [.bool b16r, .slice A16r n16r c16r]) (by rfl) infoNum (by simp) (by simp [Value.oneCell']) ?_; intro wn hon Bx; simp only [List.take_zero, List.nil_append, List.length_cons, List.length_nil, List.drop_succ_cons, List.drop_zero, List.append_nil, List.cons_append] at Bx; replace B6 := Bx; clear Bx; replace B5 := B5.only hon (Ne.symm hneb6_5); have oo6 : NR.Ok _ _ := (F.out _ (show (⟨b16r, A16r, n16r, c16r, _, _, _⟩ : NR) ∈ _ from (by repeat (first | exact List.mem_cons_self .. | apply List.mem_cons_of_mem)))).only hon hne16r_6; replace oo5 := oo5.only hon hne16_6; have F1 := F; clear F; have F := F0.below (hcur.trans (hon.below hg6)); clear F1; replace hcur := hcur.trans (hon.below hg6); clear hon
          refine hK.out _ _ hcur (fun hHeld => ?_)
          clear hK K hHeld
          (try simp (config := {maxSteps := 2000000}) only [Act.put, List.setIfInBounds_toArray, List.set_cons_zero, List.set_cons_succ, List.getElem_toArray, List.getElem_cons_zero, List.getElem_cons_succ])
          refine wpAnyH_ready (rs := [13]) (by kernel_rfl) (by simp) ?_
          refine AllReadyH.cons (o := _) rfl (fun K hK => ?_) AllReadyH.nil
          go_simp
          refine hK.out _ _ hcur (fun hHeld => ?_)
          clear hK K hHeld
          (try simp (config := {maxSteps := 2000000}) only [Act.put, List.setIfInBounds_toArray, List.set_cons_zero, List.set_cons_succ, List.getElem_toArray, List.getElem_cons_zero, List.getElem_cons_succ])
          refine wpAnyH_done (by kernel_rfl) ?_ _
          refine NoPanic.normal ?_
          obtain ⟨rfl⟩ := hQ7
          (go_wp2_with fail)
          go_meet
          exact ⟨g5, g6, _, _, _, _, _, _, _, _, rfl, rfl, rfl, ⟨hg5, hg6, by first | exact hneb6_5 | exact (Ne.symm hneb5_6)⟩, hcur, B5, B6, (Fs.nil _).cons oo5, (Fs.nil _).cons oo6⟩
        exact AllReadyH.nil
      refine AllReadyH.cons (o := _) rfl (fun K hK => ?_) ?_
      · refine st_alloc 6 rfl infoNum (cs := [.bool false, .slice none 0 0]) rfl ?_; intro g6 wn hb B6 hgn; have hg6 := Nat.le_trans hcur.size hgn; replace F := F.below hb; replace hcur := bthen hcur hb
        refine hK.out _ _ hcur (fun hHeld => ?_)
        clear hK K hHeld
        (try simp (config := {maxSteps := 2000000}) only [Act.put, List.setIfInBounds_toArray, List.set_cons_zero, List.set_cons_succ, List.getElem_toArray, List.getElem_cons_zero, List.getElem_cons_succ])
        refine wpAnyH_ready (rs := [1, 9]) (by kernel_rfl) (by simp) ?_
        refine AllReadyH.cons (o := _) rfl (fun K hK => ?_) ?_
        · go_simp; (with_reducible refine (cF F (by repeat (first | exact List.mem_cons_self .. | apply List.mem_cons_of_mem))).mono ?_); rintro e wn ⟨vn, rfl, ⟨b13, A13, n13, c13, rfl, o, hf⟩, hb⟩; replace F := (F.below hb).cons o; have hne13_6 : ∀ k ∈ addrBlock A13, k ≠ g6 := (fun k hk e => by (have h1 := (hf k hk).1; have h2 := B6.lt; omega)); have hfr13 : ∀ k ∈ addrBlock A13, k < _ := (fun k hk => (hf k hk).2); clear hf; replace B6 := B6.below hb; replace hcur := bthen hcur hb; go_wp2_with fail
          refine hK.out _ _ hcur (fun hHeld => ?_)
          clear hK K hHeld
          (try simp (config := {maxSteps := 2000000}) only [Act.put, List.setIfInBounds_toArray, List.set_cons_zero, List.set_cons_succ, List.getElem_toArray, List.getElem_cons_zero, List.getElem_cons_succ])
          refine wpAnyH_ready (rs := [3, 9]) (by kernel_rfl) (by simp) ?_
          refine AllReadyH.cons (o := _) rfl (fun K hK => ?_) ?_
          · go_simp; (with_reducible refine (cF F (by repeat (first | exact List.mem_cons_self .. | apply List.mem_cons_of_mem))).mono ?_); rintro e wn ⟨vn, rfl, ⟨b15, A15, n15, c15, rfl, o, hf⟩, hb⟩; replace F := (F.below hb).cons o; have hne15_6 : ∀ k ∈ addrBlock A15, k ≠ g6 := (fun k hk e => by (have h1 := (hf k hk).1; have h2 := B6.lt; omega)); have hfr15 : ∀ k ∈ addrBlock A15, k < _ := (fun k hk => (hf k hk).2); clear hf; replace B6 := B6.below hb; replace hfr13 : ∀ k ∈ addrBlock A13, k < _ := (fun k hk => Nat.lt_of_lt_of_le (hfr13 k hk) hb.size); replace hcur := bthen hcur hb; go_wp2_with fail
            refine hK.out _ _ hcur (fun hHeld => ?_)
            clear hK K hHeld
            (try simp (config := {maxSteps := 2000000}) only [Act.put, List.setIfInBounds_toArray, List.set_cons_zero, List.set_cons_succ, List.getElem_toArray, List.getElem_cons_zero, List.getElem_cons_succ])
            refine wpAnyH_ready (rs := [4, 9]) (by kernel_rfl) (by simp) ?_
            refine AllReadyH.cons (o := _) rfl (fun K hK => ?_) ?_
            · go_simp; (with_reducible refine (truncF F (by repeat (first | exact List.mem_cons_self .. | apply List.mem_cons_of_mem)) (by repeat (first | exact List.mem_cons_self .. | apply List.mem_cons_of_mem)) HTQ.out (by omega)).mono ?_); rintro e wn ⟨vn, rfl, ⟨qn, rn, rfl, ⟨b16, A16, n16, c16, rfl, o, hf⟩, ⟨b16r, A16r, n16r, c16r, rfl, o2, hf2⟩⟩, hb⟩; replace F := ((F.below hb).cons o).cons o2; have hne16_6 : ∀ k ∈ addrBlock A16, k ≠ g6 := (fun k hk e => by (have h1 := (hf k hk).1; have h2 := B6.lt; omega)); have hne16r_6 : ∀ k ∈ addrBlock A16r, k ≠ g6 := (fun k hk e => by (have h1 := (hf2 k hk).1; have h2 := B6.lt; omega)); have hfr16 : ∀ k ∈ addrBlock A16, k < _ := (fun k hk => (hf k hk).2); have hfr16r : ∀ k ∈ addrBlock A16r, k < _ := (fun k hk => (hf2 k hk).2); clear hf hf2; replace B6 := B6.below hb; replace hfr13 : ∀ k ∈ addrBlock A13, k < _ := (fun k hk => Nat.lt_of_lt_of_le (hfr13 k hk) hb.size); replace hfr15 : ∀ k ∈ addrBlock A15, k < _ := (fun k hk => Nat.lt_of_lt_of_le (hfr15 k hk) hb.size); replace hcur := bthen hcur hb; go_wp2_with fail
              refine hK.out _ _ hcur (fun hHeld => ?_)
              clear hK K hHeld
              (try simp (config := {maxSteps := 2000000}) only [Act.put, List.setIfInBounds_toArray, List.set_cons_zero, List.set_cons_succ, List.getElem_toArray, List.getElem_cons_zero, List.getElem_cons_succ])
              refine wpAnyH_take (i := 5) (oi := _) (v := .tuple #[.agg #[.bool b16, .slice A16 n16 c16], .agg #[.bool b16r, .slice A16r n16r c16r], .bool ok]) rfl (by kernel_rfl) (by kernel_rfl) (by kernel_rfl) (fun _ _ _ h => h) (Or.inl ⟨by kernel_rfl, fun W hSw => by ((try dsimp only at hSw); go_simp; (try (with_reducible rfl)))⟩) hcur ?_
              (try simp (config := {maxSteps := 2000000}) only [Act.put, List.setIfInBounds_toArray, List.set_cons_zero, List.set_cons_succ, List.getElem_toArray, List.getElem_cons_zero, List.getElem_cons_succ])
              refine wpAnyH_take (i := 6) (oi := _) (v := .agg #[.bool b16, .slice A16 n16 c16]) rfl (by kernel_rfl) (by kernel_rfl) (by kernel_rfl) (fun _ _ _ h => h) (Or.inl ⟨by kernel_rfl, fun W hSw => by ((try dsimp only at hSw); go_simp; (try (with_reducible rfl)))⟩) hcur ?_
              (try simp (config := {maxSteps := 2000000}) only [Act.put, List.setIfInBounds_toArray, List.set_cons_zero, List.set_cons_succ, List.getElem_toArray, List.getElem_cons_zero, List.getElem_cons_succ])
              refine wpAnyH_take (i := 7) (oi := _) (v := .agg #[.bool b16r, .slice A16r n16r c16r]) rfl (by kernel_rfl) (by kernel_rfl) (by kernel_rfl) (fun _ _ _ h => h) (Or.inl ⟨by kernel_rfl, fun W hSw => by ((try dsimp only at hSw); go_simp; (try (with_reducible rfl)))⟩) hcur ?_
              (try simp (config := {maxSteps := 2000000}) only [Act.put, List.setIfInBounds_toArray, List.set_cons_zero, List.set_cons_succ, List.getElem_toArray, List.getElem_cons_zero, List.getElem_cons_succ])
              refine wpAnyH_take (i := 8) (oi := _) (v := .bool ok) rfl (by kernel_rfl) (by kernel_rfl) (by kernel_rfl) (fun _ _ _ h => h) (Or.inl ⟨by kernel_rfl, fun W hSw => by ((try dsimp only at hSw); go_simp; (try (with_reducible rfl)))⟩) hcur ?_
              (try simp (config := {maxSteps := 2000000}) only [Act.put, List.setIfInBounds_toArray, List.set_cons_zero, List.set_cons_succ, List.getElem_toArray, List.getElem_cons_zero, List.getElem_cons_succ])
              refine wpAnyH_ready (rs := [9]) (by kernel_rfl) (by simp) ?_
              refine AllReadyH.cons (o := _) rfl (fun K hK => ?_) AllReadyH.nil
              refine st_alloc 5 rfl infoNum (cs := [.bool false, .slice none 0 0]) rfl ?_; intro g5 wn hb B5 hgn; have hneb5_6 : g5 ≠ g6 := (fun e => by (have h1 := B6.lt; omega)); have hne13_5 : ∀ k ∈ addrBlock A13, k ≠ g5 := (fun k hk e => by (have h1 := hfr13 k hk; omega)); have hne15_5 : ∀ k ∈ addrBlock A15, k ≠ g5 := (fun k hk e => by (have h1 := hfr15 k hk; omega)); have hne16_5 : ∀ k ∈ addrBlock A16, k ≠ g5 := (fun k hk e => by (have h1 := hfr16 k hk; omega)); have hne16r_5 : ∀ k ∈ addrBlock A16r, k ≠ g5 := (fun k hk e => by (have h1 := hfr16r k hk; omega)); have hg5 := Nat.le_trans hcur.size hgn; replace F := F.below hb; replace B6 := B6.below hb; replace hfr13 : ∀ k ∈ addrBlock A13, k < _ := (fun k hk => Nat.lt_of_lt_of_le (hfr13 k hk) hb.size); replace hfr15 : ∀ k ∈ addrBlock A15, k < _ := (fun k hk => Nat.lt_of_lt_of_le (hfr15 k hk) hb.size); replace hfr16 : ∀ k ∈ addrBlock A16, k < _ := (fun k hk => Nat.lt_of_lt_of_le (hfr16 k hk) hb.size); replace hfr16r : ∀ k ∈ addrBlock A16r, k < _ := (fun k hk => Nat.lt_of_lt_of_le (hfr16r k hk) hb.size); replace hcur := bthen hcur hb
              refine hK.out _ _ hcur (fun hHeld => ?_)
              clear hK K hHeld
              (try simp (config := {maxSteps := 2000000}) only [Act.put, List.setIfInBounds_toArray, List.set_cons_zero, List.set_cons_succ, List.getElem_toArray, List.getElem_cons_zero, List.getElem_cons_succ])
              refine wpAnyH_ready (rs := [11]) (by kernel_rfl) (by simp) ?_
              refine AllReadyH.cons (o := _) rfl (fun K hK => ?_) AllReadyH.nil
              refine st_store rfl rfl B5 (news := [.bool b16, .slice A16 n16 c16]) (by rfl) infoNum (by simp) (by simp [Value.oneCell']) ?_; intro wn hon Bx; simp only [List.take_zero, List.nil_append, List.length_cons, List.length_nil, List.drop_succ_cons, List.drop_zero, List.append_nil, List.cons_append] at Bx; replace B5 := Bx; clear Bx; replace B6 := B6.only hon (Ne.symm hneb5_6); have oo5 : NR.Ok _ _ := (F.out _ (show (⟨b16, A16, n16, c16, _, _, _⟩ : NR) ∈ _ from (by repeat (first | exact List.mem_cons_self .. | apply List.mem_cons_of_mem)))).only hon hne16_5; have F1 := F; clear F; have F := F0.below (hcur.trans (hon.below hg5)); replace F := F.cons ((F1.out _ (show (⟨b16r, A16r, n16r, c16r, _, _, _⟩ : NR) ∈ _ from (by repeat (first | exact List.mem_cons_self .. | apply List.mem_cons_of_mem)))).only hon hne16r_5); clear F1; replace hcur := hcur.trans (hon.below hg5); clear hon
              refine hK.out _ _ hcur (fun hHeld => ?_)
              clear hK K hHeld
              (try simp (config := {maxSteps := 2000000}) only [Act.put, List.setIfInBounds_toArray, List.set_cons_zero, List.set_cons_succ, List.getElem_toArray, List.getElem_cons_zero, List.getElem_cons_succ])
              refine wpAnyH_ready (rs := [12]) (by kernel_rfl) (by simp) ?_
              refine AllReadyH.cons (o := _) rfl (fun K hK => ?_) AllReadyH.nil
              refine st_store rfl rfl B6 (news := [.bool b16r, .slice A16r n16r c16r]) (by rfl) infoNum (by simp) (by simp [Value.oneCell']) ?_; intro wn hon Bx; simp only [List.take_zero, List.nil_append, List.length_cons, List.length_nil, List.drop_succ_cons, List.drop_zero, List.append_nil, List.cons_append] at Bx; replace B6 := Bx; clear Bx; replace B5 := B5.only hon hneb5_6; have oo6 : NR.Ok _ _ := (F.out _ (show (⟨b16r, A16r, n16r, c16r, _, _, _⟩ : NR) ∈ _ from (by repeat (first | exact List.mem_cons_self .. | apply List.mem_cons_of_mem)))).only hon hne16r_6; replace oo5 := oo5.only hon hne16_6; have F1 := F; clear F; have F := F0.below (hcur.trans (hon.below hg6)); clear F1; replace hcur := hcur.trans (hon.below hg6); clear hon
              refine hK.out _ _ hcur (fun hHeld => ?_)
              clear hK K hHeld
              (try simp (config := {maxSteps := 2000000}) only [Act.put, List.setIfInBounds_toArray, List.set_cons_zero, List.set_cons_succ, List.getElem_toArray, List.getElem_cons_zero, List.getElem_cons_succ])
              refine wpAnyH_ready (rs := [13]) (by kernel_rfl) (by simp) ?_
              refine AllReadyH.cons (o := _) rfl (fun K hK => ?_) AllReadyH.nil
              go_simp
              refine hK.out _ _ hcur (fun hHeld => ?_)
              clear hK K hHeld
              (try simp (config := {maxSteps := 2000000}) only [Act.put, List.setIfInBounds_toArray, List.set_cons_zero, List.set_cons_succ, List.getElem_toArray, List.getElem_cons_zero, List.getElem_cons_succ])
              refine wpAnyH_done (by kernel_rfl) ?_ _
              refine NoPanic.normal ?_
              obtain ⟨rfl⟩ := hQ7
              (go_wp2_with fail)
              go_meet
              exact ⟨g5, g6, _, _, _, _, _, _, _, _, rfl, rfl, rfl, ⟨hg5, hg6, by first | exact hneb6_5 | exact (Ne.symm hneb5_6)⟩, hcur, B5, B6, (Fs.nil _).cons oo5, (Fs.nil _).cons oo6⟩
            refine AllReadyH.cons (o := _) rfl (fun K hK => ?_) ?_
            · refine st_alloc 5 rfl infoNum (cs := [.bool false, .slice none 0 0]) rfl ?_; intro g5 wn hb B5 hgn; have hneb5_6 : g5 ≠ g6 := (fun e => by (have h1 := B6.lt; omega)); have hne13_5 : ∀ k ∈ addrBlock A13, k ≠ g5 := (fun k hk e => by (have h1 := hfr13 k hk; omega)); have hne15_5 : ∀ k ∈ addrBlock A15, k ≠ g5 := (fun k hk e => by (have h1 := hfr15 k hk; omega)); have hg5 := Nat.le_trans hcur.size hgn; replace F := F.below hb; replace B6 := B6.below hb; replace hfr13 : ∀ k ∈ addrBlock A13, k < _ := (fun k hk => Nat.lt_of_lt_of_le (hfr13 k hk) hb.size); replace hfr15 : ∀ k ∈ addrBlock A15, k < _ := (fun k hk => Nat.lt_of_lt_of_le (hfr15 k hk) hb.size); replace hcur := bthen hcur hb
              refine hK.out _ _ hcur (fun hHeld => ?_)
              clear hK K hHeld
              (try simp (config := {maxSteps := 2000000}) only [Act.put, List.setIfInBounds_toArray, List.set_cons_zero, List.set_cons_succ, List.getElem_toArray, List.getElem_cons_zero, List.getElem_cons_succ])
              refine wpAnyH_ready (rs := [4]) (by kernel_rfl) (by simp) ?_
              refine AllReadyH.cons (o := _) rfl (fun K hK => ?_) AllReadyH.nil
              go_simp; (with_reducible refine (truncF F (by repeat (first | exact List.mem_cons_self .. | apply List.mem_cons_of_mem)) (by repeat (first | exact List.mem_cons_self .. | apply List.mem_cons_of_mem)) HTQ.out (by omega)).mono ?_); rintro e wn ⟨vn, rfl, ⟨qn, rn, rfl, ⟨b16, A16, n16, c16, rfl, o, hf⟩, ⟨b16r, A16r, n16r, c16r, rfl, o2, hf2⟩⟩, hb⟩; replace F := ((F.below hb).cons o).cons o2; have hne16_6 : ∀ k ∈ addrBlock A16, k ≠ g6 := (fun k hk e => by (have h1 := (hf k hk).1; have h2 := B6.lt; omega)); have hne16r_6 : ∀ k ∈ addrBlock A16r, k ≠ g6 := (fun k hk e => by (have h1 := (hf2 k hk).1; have h2 := B6.lt; omega)); have hne16_5 : ∀ k ∈ addrBlock A16, k ≠ g5 := (fun k hk e => by (have h1 := (hf k hk).1; have h2 := B5.lt; omega)); have hne16r_5 : ∀ k ∈ addrBlock A16r, k ≠ g5 := (fun k hk e => by (have h1 := (hf2 k hk).1; have h2 := B5.lt; omega)); have hfr16 : ∀ k ∈ addrBlock A16, k < _ := (fun k hk => (hf k hk).2); have hfr16r : ∀ k ∈ addrBlock A16r, k < _ := (fun k hk => (hf2 k hk).2); clear hf hf2; replace B6 := B6.below hb; replace B5 := B5.below hb; replace hfr13 : ∀ k ∈ addrBlock A13, k < _ := (fun k hk => Nat.lt_of_lt_of_le (hfr13 k hk) hb.size); replace hfr15 : ∀ k ∈ addrBlock A15, k < _ := (fun k hk => Nat.lt_of_lt_of_le (hfr15 k hk) hb.size); replace hcur := bthen hcur hb; go_wp2_with fail
              refine hK.out _ _ hcur (fun hHeld => ?_)
              clear hK K hHeld
              (try simp (config := {maxSteps := 2000000}) only [Act.put, List.setIfInBounds_toArray, List.set_cons_zero, List.set_cons_succ, List.getElem_toArray, List.getElem_cons_zero, List.getElem_cons_succ])
              refine wpAnyH_take (i := 5) (oi := _) (v := .tuple #[.agg #[.bool b16, .slice A16 n16 c16], .agg #[.bool b16r, .slice A16r n16r c16r], .bool ok]) rfl (by kernel_rfl) (by kernel_rfl) (by kernel_rfl) (fun _ _ _ h => h) (Or.inl ⟨by kernel_rfl, fun W hSw => by ((try dsimp only at hSw); go_simp; (try (with_reducible rfl)))⟩) hcur ?_
              (try simp (config := {maxSteps := 2000000}) only [Act.put, List.setIfInBounds_toArray, List.set_cons_zero, List.set_cons_succ, List.getElem_toArray, List.getElem_cons_zero, List.getElem_cons_succ])
              refine wpAnyH_take (i := 6) (oi := _) (v := .agg #[.bool b16, .slice A16 n16 c16]) rfl (by kernel_rfl) (by kernel_rfl) (by kernel_rfl) (fun _ _ _ h => h) (Or.inl ⟨by kernel_rfl, fun W hSw => by ((try dsimp only at hSw); go_simp; (try (with_reducible rfl)))⟩) hcur ?_
              (try simp (config := {maxSteps := 2000000}) only [Act.put, List.setIfInBounds_toArray, List.set_cons_zero, List.set_cons_succ, List.getElem_toArray, List.getElem_cons_zero, List.getElem_cons_succ])
              refine wpAnyH_take (i := 7) (oi := _) (v := .agg #[.bool b16r, .slice A16r n16r c16r]) rfl (by kernel_rfl) (by kernel_rfl) (by kernel_rfl) (fun _ _ _ h => h) (Or.inl ⟨by kernel_rfl, fun W hSw => by ((try dsimp only at hSw); go_simp; (try (with_reducible rfl)))⟩) hcur ?_
              (try simp (config := {maxSteps := 2000000}) only [Act.put, List.setIfInBounds_toArray, List.set_cons_zero, List.set_cons_succ, List.getElem_toArray, List.getElem_cons_zero, List.getElem_cons_succ])
              refine wpAnyH_take (i := 8) (oi := _) (v := .bool ok) rfl (by kernel_rfl) (by kernel_rfl) (by kernel_rfl) (fun _ _ _ h => h) (Or.inl ⟨by kernel_rfl, fun W hSw => by ((try dsimp only at hSw); go_simp; (try (with_reducible rfl)))⟩) hcur ?_
              (try simp (config := {maxSteps := 2000000}) only [Act.put, List.setIfInBounds_toArray, List.set_cons_zero, List.set_cons_succ, List.getElem_toArray, List.getElem_cons_zero, List.getElem_cons_succ])
              refine wpAnyH_ready (rs := [11]) (by kernel_rfl) (by simp) ?_
              refine AllReadyH.cons (o := _) rfl (fun K hK => ?_) AllReadyH.nil
              refine st_store rfl rfl B5 (news := [.bool b16, .slice A16 n16 c16]) (by rfl) infoNum (by simp) (by simp [Value.oneCell']) ?_; intro wn hon Bx; simp only [List.take_zero, List.nil_append, List.length_cons, List.length_nil, List.drop_succ_cons, List.drop_zero, List.append_nil, List.cons_append] at Bx; replace B5 := Bx; clear Bx; replace B6 := B6.only hon (Ne.symm hneb5_6); have oo5 : NR.Ok _ _ := (F.out _ (show (⟨b16, A16, n16, c16, _, _, _⟩ : NR) ∈ _ from (by repeat (first | exact List.mem_cons_self .. | apply List.mem_cons_of_mem)))).only hon hne16_5; have F1 := F; clear F; have F := F0.below (hcur.trans (hon.below hg5)); replace F := F.cons ((F1.out _ (show (⟨b16r, A16r, n16r, c16r, _, _, _⟩ : NR) ∈ _ from (by repeat (first | exact List.mem_cons_self .. | apply List.mem_cons_of_mem)))).only hon hne16r_5); clear F1; replace hcur := hcur.trans (hon.below hg5); clear hon
              refine hK.out _ _ hcur (fun hHeld => ?_)
              clear hK K hHeld
              (try simp (config := {maxSteps := 2000000}) only [Act.put, List.setIfInBounds_toArray, List.set_cons_zero, List.set_cons_succ, List.getElem_toArray, List.getElem_cons_zero, List.getElem_cons_succ])
              refine wpAnyH_ready (rs := [12]) (by kernel_rfl) (by simp) ?_
              refine AllReadyH.cons (o := _) rfl (fun K hK => ?_) AllReadyH.nil
              refine st_store rfl rfl B6 (news := [.bool b16r, .slice A16r n16r c16r]) (by rfl) infoNum (by simp) (by simp [Value.oneCell']) ?_; intro wn hon Bx; simp only [List.take_zero, List.nil_append, List.length_cons, List.length_nil, List.drop_succ_cons, List.drop_zero, List.append_nil, List.cons_append] at Bx; replace B6 := Bx; clear Bx; replace B5 := B5.only hon hneb5_6; have oo6 : NR.Ok _ _ := (F.out _ (show (⟨b16r, A16r, n16r, c16r, _, _, _⟩ : NR) ∈ _ from (by repeat (first | exact List.mem_cons_self .. | apply List.mem_cons_of_mem)))).only hon hne16r_6; replace oo5 := oo5.only hon hne16_6; have F1 := F; clear F; have F := F0.below (hcur.trans (hon.below hg6)); clear F1; replace hcur := hcur.trans (hon.below hg6); clear hon
              refine hK.out _ _ hcur (fun hHeld => ?_)
              clear hK K hHeld
              (try simp (config := {maxSteps := 2000000}) only [Act.put, List.setIfInBounds_toArray, List.set_cons_zero, List.set_cons_succ, List.getElem_toArray, List.getElem_cons_zero, List.getElem_cons_succ])
              refine wpAnyH_ready (rs := [13]) (by kernel_rfl) (by simp) ?_
              refine AllReadyH.cons (o := _) rfl (fun K hK => ?_) AllReadyH.nil
              go_simp
              refine hK.out _ _ hcur (fun hHeld => ?_)
              clear hK K hHeld
              (try simp (config := {maxSteps := 2000000}) only [Act.put, List.setIfInBounds_toArray, List.set_cons_zero, List.set_cons_succ, List.getElem_toArray, List.getElem_cons_zero, List.getElem_cons_succ])
              refine wpAnyH_done (by kernel_rfl) ?_ _
              refine NoPanic.normal ?_
              obtain ⟨rfl⟩ := hQ7
              (go_wp2_with fail)
              go_meet
              exact ⟨g5, g6, _, _, _, _, _, _, _, _, rfl, rfl, rfl, ⟨hg5, hg6, by first | exact hneb6_5 | exact (Ne.symm hneb5_6)⟩, hcur, B5, B6, (Fs.nil _).cons oo5, (Fs.nil _).cons oo6⟩
            exact AllReadyH.nil
          refine AllReadyH.cons (o := _) rfl (fun K hK => ?_) ?_
          · refine st_alloc 5 rfl infoNum (cs := [.bool false, .slice none 0 0]) rfl ?_; intro g5 wn hb B5 hgn; have hneb5_6 : g5 ≠ g6 := (fun e => by (have h1 := B6.lt; omega)); have hne13_5 : ∀ k ∈ addrBlock A13, k ≠ g5 := (fun k hk e => by (have h1 := hfr13 k hk; omega)); have hg5 := Nat.le_trans hcur.size hgn; replace F := F.below hb; replace B6 := B6.below hb; replace hfr13 : ∀ k ∈ addrBlock A13, k < _ := (fun k hk => Nat.lt_of_lt_of_le (hfr13 k hk) hb.size); replace hcur := bthen hcur hb
            refine hK.out _ _ hcur (fun hHeld => ?_)
            clear hK K hHeld
            (try simp (config := {maxSteps := 2000000}) only [Act.put, List.setIfInBounds_toArray, List.set_cons_zero, List.set_cons_succ, List.getElem_toArray, List.getElem_cons_zero, List.getElem_cons_succ])
            refine wpAnyH_ready (rs := [3]) (by kernel_rfl) (by simp) ?_
            refine AllReadyH.cons (o := _) rfl (fun K hK => ?_) AllReadyH.nil
            go_simp; (with_reducible refine (cF F (by repeat (first | exact List.mem_cons_self .. | apply List.mem_cons_of_mem))).mono ?_); rintro e wn ⟨vn, rfl, ⟨b15, A15, n15, c15, rfl, o, hf⟩, hb⟩; replace F := (F.below hb).cons o; have hne15_6 : ∀ k ∈ addrBlock A15, k ≠ g6 := (fun k hk e => by (have h1 := (hf k hk).1; have h2 := B6.lt; omega)); have hne15_5 : ∀ k ∈ addrBlock A15, k ≠ g5 := (fun k hk e => by (have h1 := (hf k hk).1; have h2 := B5.lt; omega)); have hfr15 : ∀ k ∈ addrBlock A15, k < _ := (fun k hk => (hf k hk).2); clear hf; replace B6 := B6.below hb; replace B5 := B5.below hb; replace hfr13 : ∀ k ∈ addrBlock A13, k < _ := (fun k hk => Nat.lt_of_lt_of_le (hfr13 k hk) hb.size); replace hcur := bthen hcur hb; go_wp2_with fail
            refine hK.out _ _ hcur (fun hHeld => ?_)
            clear hK K hHeld
            (try simp (config := {maxSteps := 2000000}) only [Act.put, List.setIfInBounds_toArray, List.set_cons_zero, List.set_cons_succ, List.getElem_toArray, List.getElem_cons_zero, List.getElem_cons_succ])
            refine wpAnyH_ready (rs := [4]) (by kernel_rfl) (by simp) ?_
            refine AllReadyH.cons (o := _) rfl (fun K hK => ?_) AllReadyH.nil
            go_simp; (with_reducible refine (truncF F (by repeat (first | exact List.mem_cons_self .. | apply List.mem_cons_of_mem)) (by repeat (first | exact List.mem_cons_self .. | apply List.mem_cons_of_mem)) HTQ.out (by omega)).mono ?_); rintro e wn ⟨vn, rfl, ⟨qn, rn, rfl, ⟨b16, A16, n16, c16, rfl, o, hf⟩, ⟨b16r, A16r, n16r, c16r, rfl, o2, hf2⟩⟩, hb⟩; replace F := ((F.below hb).cons o).cons o2; have hne16_6 : ∀ k ∈ addrBlock A16, k ≠ g6 := (fun k hk e => by (have h1 := (hf k hk).1; have h2 := B6.lt; omega)); have hne16r_6 : ∀ k ∈ addrBlock A16r, k ≠ g6 := (fun k hk e => by (have h1 := (hf2 k hk).1; have h2 := B6.lt; omega)); have hne16_5 : ∀ k ∈ addrBlock A16, k ≠ g5 := (fun k hk e => by (have h1 := (hf k hk).1; have h2 := B5.lt; omega)); have hne16r_5 : ∀ k ∈ addrBlock A16r, k ≠ g5 := (fun k hk e => by (have h1 := (hf2 k hk).1; have h2 := B5.lt; omega)); have hfr16 : ∀ k ∈ addrBlock A16, k < _ := (fun k hk => (hf k hk).2); have hfr16r : ∀ k ∈ addrBlock A16r, k < _ := (fun k hk => (hf2 k hk).2); clear hf hf2; replace B6 := B6.below hb; replace B5 := B5.below hb; replace hfr13 : ∀ k ∈ addrBlock A13, k < _ := (fun k hk => Nat.lt_of_lt_of_le (hfr13 k hk) hb.size); replace hfr15 : ∀ k ∈ addrBlock A15, k < _ := (fun k hk => Nat.lt_of_lt_of_le (hfr15 k hk) hb.size); replace hcur := bthen hcur hb; go_wp2_with fail
            refine hK.out _ _ hcur (fun hHeld => ?_)
            clear hK K hHeld
            (try simp (config := {maxSteps := 2000000}) only [Act.put, List.setIfInBounds_toArray, List.set_cons_zero, List.set_cons_succ, List.getElem_toArray, List.getElem_cons_zero, List.getElem_cons_succ])
            refine wpAnyH_take (i := 5) (oi := _) (v := .tuple #[.agg #[.bool b16, .slice A16 n16 c16], .agg #[.bool b16r, .slice A16r n16r c16r], .bool ok]) rfl (by kernel_rfl) (by kernel_rfl) (by kernel_rfl) (fun _ _ _ h => h) (Or.inl ⟨by kernel_rfl, fun W hSw => by ((try dsimp only at hSw); go_simp; (try (with_reducible rfl)))⟩) hcur ?_
            (try simp (config := {maxSteps := 2000000}) only [Act.put, List.setIfInBounds_toArray, List.set_cons_zero, List.set_cons_succ, List.getElem_toArray, List.getElem_cons_zero, List.getElem_cons_succ])
            refine wpAnyH_take (i := 6) (oi := _) (v := .agg #[.bool b16, .slice A16 n16 c16]) rfl (by kernel_rfl) (by kernel_rfl) (by kernel_rfl) (fun _ _ _ h => h) (Or.inl ⟨by kernel_rfl, fun W hSw => by ((try dsimp only at hSw); go_simp; (try (with_reducible rfl)))⟩) hcur ?_
            (try simp (config := {maxSteps := 2000000}) only [Act.put, List.setIfInBounds_toArray, List.set_cons_zero, List.set_cons_succ, List.getElem_toArray, List.getElem_cons_zero, List.getElem_cons_succ])
            refine wpAnyH_take (i := 7) (oi := _) (v := .agg #[.bool b16r, .slice A16r n16r c16r]) rfl (by kernel_rfl) (by kernel_rfl) (by kernel_rfl) (fun _ _ _ h => h) (Or.inl ⟨by kernel_rfl, fun W hSw => by ((try dsimp only at hSw); go_simp; (try (with_reducible rfl)))⟩) hcur ?_
            (try simp (config := {maxSteps := 2000000}) only [Act.put, List.setIfInBounds_toArray, List.set_cons_zero, List.set_cons_succ, List.getElem_toArray, List.getElem_cons_zero, List.getElem_cons_succ])
            refine wpAnyH_take (i := 8) (oi := _) (v := .bool ok) rfl (by kernel_rfl) (by kernel_rfl) (by kernel_rfl) (fun _ _ _ h => h) (Or.inl ⟨by kernel_rfl, fun W hSw => by ((try dsimp only at hSw); go_simp; (try (with_reducible rfl)))⟩) hcur ?_
            (try simp (config := {maxSteps := 2000000}) only [Act.put, List.setIfInBounds_toArray, List.set_cons_zero, List.set_cons_succ, List.getElem_toArray, List.getElem_cons_zero, List.getElem_cons_succ])
            refine wpAnyH_ready (rs := [11]) (by kernel_rfl) (by simp) ?_
            refine AllReadyH.cons (o := _) rfl (fun K hK => ?_) AllReadyH.nil
            refine st_store rfl rfl B5 (news := [.bool b16, .slice A16 n16 c16]) (by rfl) infoNum (by simp) (by simp [Value.oneCell']) ?_; intro wn hon Bx; simp only [List.take_zero, List.nil_append, List.length_cons, List.length_nil, List.drop_succ_cons, List.drop_zero, List.append_nil, List.cons_append] at Bx; replace B5 := Bx; clear Bx; replace B6 := B6.only hon (Ne.symm hneb5_6); have oo5 : NR.Ok _ _ := (F.out _ (show (⟨b16, A16, n16, c16, _, _, _⟩ : NR) ∈ _ from (by repeat (first | exact List.mem_cons_self .. | apply List.mem_cons_of_mem)))).only hon hne16_5; have F1 := F; clear F; have F := F0.below (hcur.trans (hon.below hg5)); replace F := F.cons ((F1.out _ (show (⟨b16r, A16r, n16r, c16r, _, _, _⟩ : NR) ∈ _ from (by repeat (first | exact List.mem_cons_self .. | apply List.mem_cons_of_mem)))).only hon hne16r_5); clear F1; replace hcur := hcur.trans (hon.below hg5); clear hon
            refine hK.out _ _ hcur (fun hHeld => ?_)
            clear hK K hHeld
            (try simp (config := {maxSteps := 2000000}) only [Act.put, List.setIfInBounds_toArray, List.set_cons_zero, List.set_cons_succ, List.getElem_toArray, List.getElem_cons_zero, List.getElem_cons_succ])
            refine wpAnyH_ready (rs := [12]) (by kernel_rfl) (by simp) ?_
            refine AllReadyH.cons (o := _) rfl (fun K hK => ?_) AllReadyH.nil
            refine st_store rfl rfl B6 (news := [.bool b16r, .slice A16r n16r c16r]) (by rfl) infoNum (by simp) (by simp [Value.oneCell']) ?_; intro wn hon Bx; simp only [List.take_zero, List.nil_append, List.length_cons, List.length_nil, List.drop_succ_cons, List.drop_zero, List.append_nil, List.cons_append] at Bx; replace B6 := Bx; clear Bx; replace B5 := B5.only hon hneb5_6; have oo6 : NR.Ok _ _ := (F.out _ (show (⟨b16r, A16r, n16r, c16r, _, _, _⟩ : NR) ∈ _ from (by repeat (first | exact List.mem_cons_self .. | apply List.mem_cons_of_mem)))).only hon hne16r_6; replace oo5 := oo5.only hon hne16_6; have F1 := F; clear F; have F := F0.below (hcur.trans (hon.below hg6)); clear F1; replace hcur := hcur.trans (hon.below hg6); clear hon
            refine hK.out _ _ hcur (fun hHeld => ?_)
            clear hK K hHeld
            (try simp (config := {maxSteps := 2000000}) only [Act.put, List.setIfInBounds_toArray, List.set_cons_zero, List.set_cons_succ, List.getElem_toArray, List.getElem_cons_zero, List.getElem_cons_succ])
            refine wpAnyH_ready (rs := [13]) (by kernel_rfl) (by simp) ?_
            refine AllReadyH.cons (o := _) rfl (fun K hK => ?_) AllReadyH.nil
            go_simp
            refine hK.out _ _ hcur (fun hHeld => ?_)
            clear hK K hHeld
            (try simp (config := {maxSteps := 2000000}) only [Act.put, List.setIfInBounds_toArray, List.set_cons_zero, List.set_cons_succ, List.getElem_toArray, List.getElem_cons_zero, List.getElem_cons_succ])
            refine wpAnyH_done (by kernel_rfl) ?_ _
            refine NoPanic.normal ?_
            obtain ⟨rfl⟩ := hQ7
            (go_wp2_with fail)
            go_meet
            exact ⟨g5, g6, _, _, _, _, _, _, _, _, rfl, rfl, rfl, ⟨hg5, hg6, by first | exact hneb6_5 | exact (Ne.symm hneb5_6)⟩, hcur, B5, B6, (Fs.nil _).cons oo5, (Fs.nil _).cons oo6⟩
          exact AllReadyH.nil
        refine AllReadyH.cons (o := _) rfl (fun K hK => ?_) ?_
        · refine st_alloc 5 rfl infoNum (cs := [.bool false, .slice none 0 0]) rfl ?_; intro g5 wn hb B5 hgn; have hneb5_6 : g5 ≠ g6 := (fun e => by (have h1 := B6.lt; omega)); have hg5 := Nat.le_trans hcur.size hgn; replace F := F.below hb; replace B6 := B6.below hb; replace hcur := bthen hcur hb
          refine hK.out _ _ hcur (fun hHeld => ?_)
          clear hK K hHeld
          (try simp (config := {maxSteps := 2000000}) only [Act.put, List.setIfInBounds_toArray, List.set_cons_zero, List.set_cons_succ, List.getElem_toArray, List.getElem_cons_zero, List.getElem_cons_succ])
          refine wpAnyH_ready (rs := [1]) (by kernel_rfl) (by simp) ?_
          refine AllReadyH.cons (o := _) rfl (fun K hK => ?_) AllReadyH.nil
          go_simp; (with_reducible refine (cF F (by repeat (first | exact List.mem_cons_self .. | apply List.mem_cons_of_mem))).mono ?_); rintro e wn ⟨vn, rfl, ⟨b13, A13, n13, c13, rfl, o, hf⟩, hb⟩; replace F := (F.below hb).cons o; have hne13_6 : ∀ k ∈ addrBlock A13, k ≠ g6 := (fun k hk e => by (have h1 := (hf k hk).1; have h2 := B6.lt; omega)); have hne13_5 : ∀ k ∈ addrBlock A13, k ≠ g5 := (fun k hk e => by (have h1 := (hf k hk).1; have h2 := B5.lt; omega)); have hfr13 : ∀ k ∈ addrBlock A13, k < _ := (fun k hk => (hf k hk).2); clear hf; replace B6 := B6.below hb; replace B5 := B5.below hb; replace hcur := bthen hcur hb; go_wp2_with fail
          refine hK.out _ _ hcur (fun hHeld => ?_)
          clear hK K hHeld
          (try simp (config := {maxSteps := 2000000}) only [Act.put, List.setIfInBounds_toArray, List.set_cons_zero, List.set_cons_succ, List.getElem_toArray, List.getElem_cons_zero, List.getElem_cons_succ])
          refine wpAnyH_ready (rs := [3]) (by kernel_rfl) (by simp) ?_
          refine AllReadyH.cons (o := _) rfl (fun K hK => ?_) AllReadyH.nil
          go_simp; (with_reducible refine (cF F (by repeat (first | exact List.mem_cons_self .. | apply List.mem_cons_of_mem))).mono ?_); rintro e wn ⟨vn, rfl, ⟨b15, A15, n15, c15, rfl, o, hf⟩, hb⟩; replace F := (F.below hb).cons o; have hne15_6 : ∀ k ∈ addrBlock A15, k ≠ g6 := (fun k hk e => by (have h1 := (hf k hk).1; have h2 := B6.lt; omega)); have hne15_5 : ∀ k ∈ addrBlock A15, k ≠ g5 := (fun k hk e => by (have h1 := (hf k hk).1; have h2 := B5.lt; omega)); have hfr15 : ∀ k ∈ addrBlock A15, k < _ := (fun k hk => (hf k hk).2); clear hf; replace B6 := B6.below hb; replace B5 := B5.below hb; replace hfr13 : ∀ k ∈ addrBlock A13, k < _ := (fun k hk => Nat.lt_of_lt_of_le (hfr13 k hk) hb.size); replace hcur := bthen hcur hb; go_wp2_with fail
          refine hK.out _ _ hcur (fun hHeld => ?_)
          clear hK K hHeld
          (try simp (config := {maxSteps := 2000000}) only [Act.put, List.setIfInBounds_toArray, List.set_cons_zero, List.set_cons_succ, List.getElem_toArray, List.getElem_cons_zero, List.getElem_cons_succ])
          refine wpAnyH_ready (rs := [4]) (by kernel_rfl) (by simp) ?_
          refine AllReadyH.cons (o := _) rfl (fun K hK => ?_) AllReadyH.nil
          go_simp; (with_reducible refine (truncF F (by repeat (first | exact List.mem_cons_self .. | apply List.mem_cons_of_mem)) (by repeat (first | exact List.mem_cons_self .. | apply List.mem_cons_of_mem)) HTQ.out (by omega)).mono ?_); rintro e wn ⟨vn, rfl, ⟨qn, rn, rfl, ⟨b16, A16, n16, c16, rfl, o, hf⟩, ⟨b16r, A16r, n16r, c16r, rfl, o2, hf2⟩⟩, hb⟩; replace F := ((F.below hb).cons o).cons o2; have hne16_6 : ∀ k ∈ addrBlock A16, k ≠ g6 := (fun k hk e => by (have h1 := (hf k hk).1; have h2 := B6.lt; omega)); have hne16r_6 : ∀ k ∈ addrBlock A16r, k ≠ g6 := (fun k hk e => by (have h1 := (hf2 k hk).1; have h2 := B6.lt; omega)); have hne16_5 : ∀ k ∈ addrBlock A16, k ≠ g5 := (fun k hk e => by (have h1 := (hf k hk).1; have h2 := B5.lt; omega)); have hne16r_5 : ∀ k ∈ addrBlock A16r, k ≠ g5 := (fun k hk e => by (have h1 := (hf2 k hk).1; have h2 := B5.lt; omega)); have hfr16 : ∀ k ∈ addrBlock A16, k < _ := (fun k hk => (hf k hk).2); have hfr16r : ∀ k ∈ addrBlock A16r, k < _ := (fun k hk => (hf2 k hk).2); clear hf hf2; replace B6 := B6.below hb; replace B5 := B5.below hb; replace hfr13 : ∀ k ∈ addrBlock A13, k < _ := (fun k hk => Nat.lt_of_lt_of_le (hfr13 k hk) hb.size); replace hfr15 : ∀ k ∈ addrBlock A15, k < _ := (fun k hk => Nat.lt_of_lt_of_le (hfr15 k hk) hb.size); replace hcur := bthen hcur hb; go_wp2_with fail
          refine hK.out _ _ hcur (fun hHeld => ?_)
          clear hK K hHeld
          (try simp (config := {maxSteps := 2000000}) only [Act.put, List.setIfInBounds_toArray, List.set_cons_zero, List.set_cons_succ, List.getElem_toArray, List.getElem_cons_zero, List.getElem_cons_succ])
          refine wpAnyH_take (i := 5) (oi := _) (v := .tuple #[.agg #[.bool b16, .slice A16 n16 c16], .agg #[.bool b16r, .slice A16r n16r c16r], .bool ok]) rfl (by kernel_rfl) (by kernel_rfl) (by kernel_rfl) (fun _ _ _ h => h) (Or.inl ⟨by kernel_rfl, fun W hSw => by ((try dsimp only at hSw); go_simp; (try (with_reducible rfl)))⟩) hcur ?_
          (try simp (config := {maxSteps := 2000000}) only [Act.put, List.setIfInBounds_toArray, List.set_cons_zero, List.set_cons_succ, List.getElem_toArray, List.getElem_cons_zero, List.getElem_cons_succ])
          refine wpAnyH_take (i := 6) (oi := _) (v := .agg #[.bool b16, .slice A16 n16 c16]) rfl (by kernel_rfl) (by kernel_rfl) (by kernel_rfl) (fun _ _ _ h => h) (Or.inl ⟨by kernel_rfl, fun W hSw => by ((try dsimp only at hSw); go_simp; (try (with_reducible rfl)))⟩) hcur ?_
          (try simp (config := {maxSteps := 2000000}) only [Act.put, List.setIfInBounds_toArray, List.set_cons_zero, List.set_cons_succ, List.getElem_toArray, List.getElem_cons_zero, List.getElem_cons_succ])
          refine wpAnyH_take (i := 7) (oi := _) (v := .agg #[.bool b16r, .slice A16r n16r c16r]) rfl (by kernel_rfl) (by kernel_rfl) (by kernel_rfl) (fun _ _ _ h => h) (Or.inl ⟨by kernel_rfl, fun W hSw => by ((try dsimp only at hSw); go_simp; (try (with_reducible rfl)))⟩) hcur ?_
          (try simp (config := {maxSteps := 2000000}) only [Act.put, List.setIfInBounds_toArray, List.set_cons_zero, List.set_cons_succ, List.getElem_toArray, List.getElem_cons_zero, List.getElem_cons_succ])
          refine wpAnyH_take (i := 8) (oi := _) (v := .bool ok) rfl (by kernel_rfl) (by kernel_rfl) (by kernel_rfl) (fun _ _ _ h => h) (Or.inl ⟨by kernel_rfl, fun W hSw => by ((try dsimp only at hSw); go_simp; (try (with_reducible rfl)))⟩) hcur ?_
          (try simp (config := {maxSteps := 2000000}) only [Act.put, List.setIfInBounds_toArray, List.set_cons_zero, List.set_cons_succ, List.getElem_toArray, List.getElem_cons_zero, List.getElem_cons_succ])
          refine wpAnyH_ready (rs := [11]) (by kernel_rfl) (by simp) ?_
          refine AllReadyH.cons (o := _) rfl (fun K hK => ?_) AllReadyH.nil
          refine st_store rfl rfl B5 (news := [.bool b16, .slice A16 n16 c16]) (by rfl) infoNum (by simp) (by simp [Value.oneCell']) ?_; intro wn hon Bx; simp only [List.take_zero, List.nil_append, List.length_cons, List.length_nil, List.drop_succ_cons, List.drop_zero, List.append_nil, List.cons_append] at Bx; replace B5 := Bx; clear Bx; replace B6 := B6.only hon (Ne.symm hneb5_6); have oo5 : NR.Ok _ _ := (F.out _ (show (⟨b16, A16, n16, c16, _, _, _⟩ : NR) ∈ _ from (by repeat (first | exact List.mem_cons_self .. | apply List.mem_cons_of_mem)))).only hon hne16_5; have F1 := F; clear F; have F := F0.below (hcur.trans (hon.below hg5)); replace F := F.cons ((F1.out _ (show (⟨b16r, A16r, n16r, c16r, _, _, _⟩ : NR) ∈ _ from (by repeat (first | exact List.mem_cons_self .. | apply List.mem_cons_of_mem)))).only hon hne16r_5); clear F1; replace hcur := hcur.trans (hon.below hg5); clear hon
          refine hK.out _ _ hcur (fun hHeld => ?_)
          clear hK K hHeld
          (try simp (config := {maxSteps := 2000000}) only [Act.put, List.setIfInBounds_toArray, List.set_cons_zero, List.set_cons_succ, List.getElem_toArray, List.getElem_cons_zero, List.getElem_cons_succ])
          refine wpAnyH_ready (rs := [12]) (by kernel_rfl) (by simp) ?_
          refine AllReadyH.cons (o := _) rfl (fun K hK => ?_) AllReadyH.nil
          refine st_store rfl rfl B6 (news := [.bool b16r, .slice A16r n16r c16r]) (by rfl) infoNum (by simp) (by simp [Value.oneCell']) ?_; intro wn hon Bx; simp only [List.take_zero, List.nil_append, List.length_cons, List.length_nil, List.drop_succ_cons, List.drop_zero, List.append_nil, List.cons_append] at Bx; replace B6 := Bx; clear Bx; replace B5 := B5.only hon hneb5_6; have oo6 : NR.Ok _ _ := (F.out _ (show (⟨b16r, A16r, n16r, c16r, _, _, _⟩ : NR) ∈ _ from (by repeat (first | exact List.mem_cons_self .. | apply List.mem_cons_of_mem)))).only hon hne16r_6; replace oo5 := oo5.only hon hne16_6; have F1 := F; clear F; have F := F0.below (hcur.trans (hon.below hg6)); clear F1; replace hcur := hcur.trans (hon.below hg6); clear hon
          refine hK.out _ _ hcur (fun hHeld => ?_)
          clear hK K hHeld
          (try simp (config := {maxSteps := 2000000}) only [Act.put, List.setIfInBounds_toArray, List.set_cons_zero, List.set_cons_succ, List.getElem_toArray, List.getElem_cons_zero, List.getElem_cons_succ])
          refine wpAnyH_ready (rs := [13]) (by kernel_rfl) (by simp) ?_
          refine AllReadyH.cons (o := _) rfl (fun K hK => ?_) AllReadyH.nil
          go_simp
          refine hK.out _ _ hcur (fun hHeld => ?_)
          clear hK K hHeld
          (try simp (config := {maxSteps := 2000000}) only [Act.put, List.setIfInBounds_toArray, List.set_cons_zero, List.set_cons_succ, List.getElem_toArray, List.getElem_cons_zero, List.getElem_cons_succ])
          refine wpAnyH_done (by kernel_rfl) ?_ _
          refine NoPanic.normal ?_
          obtain ⟨rfl⟩ := hQ7
          (go_wp2_with fail)
          go_meet
          exact ⟨g5, g6, _, _, _, _, _, _, _, _, rfl, rfl, rfl, ⟨hg5, hg6, by first | exact hneb6_5 | exact (Ne.symm hneb5_6)⟩, hcur, B5, B6, (Fs.nil _).cons oo5, (Fs.nil _).cons oo6⟩
        exact AllReadyH.nil
      exact AllReadyH.nil
  case rest =>
    obtain ⟨g5, g6, b5x, b6x, A5x, A6x, n5x, n6x, c5x, c6x, rfl, rfl, rfl, hgg, hcur, B5, B6, F5, F6⟩ := hcut
    obtain ⟨hg5, hg6, hneb6_5⟩ := hgg
    have F := (F0.below hcur).cons (F6.out _ (List.mem_cons_self ..)) |>.cons (F5.out _ (List.mem_cons_self ..))
    clear F5 F6
    have C2 := (B2.below hcur).cells
    have C3 := (B3.below hcur).cells
    go_wp2_with (first
      | (go_at_call 22; (with_reducible refine (rtruncF F (by repeat (first | exact List.mem_cons_self .. | apply List.mem_cons_of_mem)) (by repeat (first | exact List.mem_cons_self .. | apply List.mem_cons_of_mem)) HTQ.out (by omega) (by omega)).mono ?_); rintro e wn ⟨vn, rfl, ⟨qv, rv, rfl, ⟨b8x, A8x, n8x, c8x, rfl, o8, f8⟩, ⟨b9x, A9x, n9x, c9x, rfl, o9, f9⟩⟩, hbn⟩; clear C2 C3 f8 f9; replace B5 := B5.below hbn; replace B6 := B6.below hbn; replace F := ((F.below hbn).cons o9).cons o8; replace hcur := bthen hcur hbn; clear o8 o9 hbn; have hcd := Below.refl wn.heap.size wn)
      | ((with_reducible refine g_dst 8 ?_); go_must (refine ev_alloc 8 rfl infoNum (cs := [.bool false, .slice none 0 0]) rfl ?_); intro g8 wn hb8 B8 hgn; have hgd8 := Nat.le_trans hcd.size hgn; have hneb8_5 : g8 ≠ g5 := (fun e => by (have h1 := B5.lt; omega)); have hneb8_6 : g8 ≠ g6 := (fun e => by (have h1 := B6.lt; omega)); replace hcd := bthen hcd hb8)
      | ((with_reducible refine g_dst 9 ?_); go_must (refine ev_alloc 9 rfl infoNum (cs := [.bool false, .slice none 0 0]) rfl ?_); intro g9 wn hb9 B9 hgn; have hgd9 := Nat.le_trans hcd.size hgn; have hneb9_8 : g9 ≠ g8 := (fun e => by (have h1 := B8.lt; omega)); have hneb9_5 : g9 ≠ g5 := (fun e => by (have h1 := B5.lt; omega)); have hneb9_6 : g9 ≠ g6 := (fun e => by (have h1 := B6.lt; omega)); replace B8 := B8.below hb9; replace hcd := bthen hcd hb9)
      | ((with_reducible refine g_store 8 ?_); go_must (refine ev_store rfl rfl B8 (news := [.bool b8x, .slice A8x n8x c8x]) (by rfl) infoNum (by simp) (by simp [Value.oneCell']) ?_); intro wn hon Bn; simp only [List.take_zero, List.nil_append, List.length_cons, List.length_nil, List.drop_succ_cons, List.drop_zero, List.append_nil, List.cons_append] at Bn; replace B9 := B9.only hon hneb9_8; replace B8 := Bn; clear Bn; replace hcd := hcd.trans (hon.below hgd8); clear hon)
      | ((with_reducible refine g_store 9 ?_); go_must (refine ev_store rfl rfl B9 (news := [.bool b9x, .slice A9x n9x c9x]) (by rfl) infoNum (by simp) (by simp [Value.oneCell']) ?_); intro wn hon Bn; simp only [List.take_zero, List.nil_append, List.length_cons, List.length_nil, List.drop_succ_cons, List.drop_zero, List.append_nil, List.cons_append] at Bn; replace B8 := B8.only hon (Ne.symm hneb9_8); replace B9 := Bn; clear Bn; replace hcd := hcd.trans (hon.below hgd9); clear hon; replace B5 := B5.below hcd; replace B6 := B6.below hcd; have hg8 := Nat.le_trans hcur.size hgd8; have hg9 := Nat.le_trans hcur.size hgd9; replace F := F.below hcd; replace hcur := bthen hcur hcd; clear hcd; have C5 := B5.cells; have C6 := B6.cells; have C8 := B8.cells; have C9 := B9.cells)
      | (go_at_call 15; (with_reducible refine (sameF F (by repeat (first | exact List.mem_cons_self .. | apply List.mem_cons_of_mem)) (by repeat (first | exact List.mem_cons_self .. | apply List.mem_cons_of_mem)) (by with_reducible rfl)).mono ?_); rintro e wn ⟨vn, rfl, rfl, hbn⟩; clear C5 C6 C8 C9; replace B5 := B5.below hbn; replace B6 := B6.below hbn; replace B8 := B8.below hbn; replace B9 := B9.below hbn; replace F := F.below hbn; replace hcur := bthen hcur hbn; clear hbn; have C5 := B5.cells; have C6 := B6.cells; have C8 := B8.cells; have C9 := B9.cells))
    have hd := (Below.refl wn.heap.size wn).drew
    replace B5 := B5.below hd
    replace B6 := B6.below hd
    replace B8 := B8.below hd
    replace B9 := B9.below hd
    replace hcur := bthen hcur hd
    replace F := F0.below hcur
    clear hd C5 C6 C8 C9
    refine wp_gen2 (fun Q7 hQ7 => ?_)
    refine wp_region_held_drew (S := fun W => Below wb.heap.size wb W) (by kernel_rfl) hcur (fun hHeld => ?_)
    clear hHeld
    refine wpAnyH_take (i := 0) (oi := _) (v := .agg #[.bool n1, .slice A1 k1 c1]) rfl (by kernel_rfl) (by kernel_rfl) (by kernel_rfl) (fun _ _ _ h => h) (Or.inl ⟨by kernel_rfl, fun W hSw => by have Cb := (B2.below hSw).cells; ((try dsimp only at hSw); go_simp; (try (with_reducible rfl)))⟩) hcur ?_
    (try simp (config := {maxSteps := 2000000}) only [Act.put, List.setIfInBounds_toArray, List.set_cons_zero, List.set_cons_succ, List.getElem_toArray, List.getElem_cons_zero, List.getElem_cons_succ])
    refine wpAnyH_take (i := 2) (oi := _) (v := .agg #[.bool n2, .slice A2 k2 c2]) rfl (by kernel_rfl) (by kernel_rfl) (by kernel_rfl) (fun _ _ _ h => h) (Or.inl ⟨by kernel_rfl, fun W hSw => by have Cb := (B3.below hSw).cells; ((try dsimp only at hSw); go_simp; (try (with_reducible rfl)))⟩) hcur ?_
    (try simp (config := {maxSteps := 2000000}) only [Act.put, List.setIfInBounds_toArray, List.set_cons_zero, List.set_cons_succ, List.getElem_toArray, List.getElem_cons_zero, List.getElem_cons_succ])
    refine wpAnyH_ready (rs := [1]) (by kernel_rfl) (by simp) ?_
    refine AllReadyH.cons (o := _) rfl (fun K hK => ?_) AllReadyH.nil
    go_simp; (with_reducible refine (cF F (by repeat (first | exact List.mem_cons_self .. | apply List.mem_cons_of_mem))).mono ?_); rintro e wn ⟨vn, rfl, ⟨b44, A44, n44, c44, rfl, o, hf⟩, hb⟩; replace F := (F.below hb).cons o; have hne44_5 : ∀ k ∈ addrBlock A44, k ≠ g5 := (fun k hk e => by (have h1 := (hf k hk).1; have h2 := B5.lt; omega)); have hne44_6 : ∀ k ∈ addrBlock A44, k ≠ g6 := (fun k hk e => by (have h1 := (hf k hk).1; have h2 := B6.lt; omega)); have hne44_8 : ∀ k ∈ addrBlock A44, k ≠ g8 := (fun k hk e => by (have h1 := (hf k hk).1; have h2 := B8.lt; omega)); have hne44_9 : ∀ k ∈ addrBlock A44, k ≠ g9 := (fun k hk e => by (have h1 := (hf k hk).1; have h2 := B9.lt; omega)); have hfr44 : ∀ k ∈ addrBlock A44, k < _ := (fun k hk => (hf k hk).2); clear hf; replace B5 := B5.below hb; replace B6 := B6.below hb; replace B8 := B8.below hb; replace B9 := B9.below hb; replace hcur := bthen hcur hb; go_wp2_with fail
    refine hK.out _ _ hcur (fun hHeld => ?_)
    clear hK K hHeld
    (try simp (config := {maxSteps := 2000000}) only [Act.put, List.setIfInBounds_toArray, List.set_cons_zero, List.set_cons_succ, List.getElem_toArray, List.getElem_cons_zero, List.getElem_cons_succ])
    refine wpAnyH_ready (rs := [3]) (by kernel_rfl) (by simp) ?_
    refine AllReadyH.cons (o := _) rfl (fun K hK => ?_) AllReadyH.nil
    go_simp; (with_reducible refine (cF F (by repeat (first | exact List.mem_cons_self .. | apply List.mem_cons_of_mem))).mono ?_); rintro e wn ⟨vn, rfl, ⟨b46, A46, n46, c46, rfl, o, hf⟩, hb⟩; replace F := (F.below hb).cons o; have hne46_5 : ∀ k ∈ addrBlock A46, k ≠ g5 := (fun k hk e => by (have h1 := (hf k hk).1; have h2 := B5.lt; omega)); have hne46_6 : ∀ k ∈ addrBlock A46, k ≠ g6 := (fun k hk e => by (have h1 := (hf k hk).1; have h2 := B6.lt; omega)); have hne46_8 : ∀ k ∈ addrBlock A46, k ≠ g8 := (fun k hk e => by (have h1 := (hf k hk).1; have h2 := B8.lt; omega)); have hne46_9 : ∀ k ∈ addrBlock A46, k ≠ g9 := (fun k hk e => by (have h1 := (hf k hk).1; have h2 := B9.lt; omega)); have hfr46 : ∀ k ∈ addrBlock A46, k < _ := (fun k hk => (hf k hk).2); clear hf; replace B5 := B5.below hb; replace B6 := B6.below hb; replace B8 := B8.below hb; replace B9 := B9.below hb; replace hfr44 : ∀ k ∈ addrBlock A44, k < _ := (fun k hk => Nat.lt_of_lt_of_le (hfr44 k hk) hb.size); replace hcur := bthen hcur hb; go_wp2_with fail
    refine hK.out _ _ hcur (fun hHeld => ?_)
    clear hK K hHeld
    (try simp (config := {maxSteps := 2000000}) only [Act.put, List.setIfInBounds_toArray, List.set_cons_zero, List.set_cons_succ, List.getElem_toArray, List.getElem_cons_zero, List.getElem_cons_succ])
    refine wpAnyH_ready (rs := [4]) (by kernel_rfl) (by simp) ?_
    refine AllReadyH.cons (o := _) rfl (fun K hK => ?_) AllReadyH.nil
    go_simp; (with_reducible refine (floorF F (by repeat (first | exact List.mem_cons_self .. | apply List.mem_cons_of_mem)) (by repeat (first | exact List.mem_cons_self .. | apply List.mem_cons_of_mem)) HFQ.out (by omega)).mono ?_); rintro e wn ⟨vn, rfl, ⟨qn, rn, rfl, ⟨b47, A47, n47, c47, rfl, o, hf⟩, ⟨b47r, A47r, n47r, c47r, rfl, o2, hf2⟩⟩, hb⟩; replace F := ((F.below hb).cons o).cons o2; have hne47_5 : ∀ k ∈ addrBlock A47, k ≠ g5 := (fun k hk e => by (have h1 := (hf k hk).1; have h2 := B5.lt; omega)); have hne47r_5 : ∀ k ∈ addrBlock A47r, k ≠ g5 := (fun k hk e => by (have h1 := (hf2 k hk).1; have h2 := B5.lt; omega)); have hne47_6 : ∀ k ∈ addrBlock A47, k ≠ g6 := (fun k hk e => by (have h1 := (hf k hk).1; have h2 := B6.lt; omega)); have hne47r_6 : ∀ k ∈ addrBlock A47r, k ≠ g6 := (fun k hk e => by (have h1 := (hf2 k hk).1; have h2 := B6.lt; omega)); have hne47_8 : ∀ k ∈ addrBlock A47, k ≠ g8 := (fun k hk e => by (have h1 := (hf k hk).1; have h2 := B8.lt; omega)); have hne47r_8 : ∀ k ∈ addrBlock A47r, k ≠ g8 := (fun k hk e => by (have h1 := (hf2 k hk).1; have h2 := B8.lt; omega)); have hne47_9 : ∀ k ∈ addrBlock A47, k ≠ g9 := (fun k hk e => by (have h1 := (hf k hk).1; have h2 := B9.lt; omega)); have hne47r_9 : ∀ k ∈ addrBlock A47r, k ≠ g9 := (fun k hk e => by (have h1 := (hf2 k hk).1; have h2 := B9.lt; omega)); have hfr47 : ∀ k ∈ addrBlock A47, k < _ := (fun k hk => (hf k hk).2); have hfr47r : ∀ k ∈ addrBlock A47r, k < _ := (fun k hk => (hf2 k hk).2); clear hf hf2; replace B5 := B5.below hb; replace B6 := B6.below hb; replace B8 := B8.below hb; replace B9 := B9.below hb; replace hfr44 : ∀ k ∈ addrBlock A44, k < _ := (fun k hk => Nat.lt_of_lt_of_le (hfr44 k hk) hb.size); replace hfr46 : ∀ k ∈ addrBlock A46, k < _ := (fun k hk => Nat.lt_of_lt_of_le (hfr46 k hk) hb.size); replace hcur := bthen hcur hb; go_wp2_with fail
    refine hK.out _ _ hcur (fun hHeld => ?_)
    clear hK K hHeld
    (try simp (config := {maxSteps := 2000000}) only [Act.put, List.setIfInBounds_toArray, List.set_cons_zero, List.set_cons_succ, List.getElem_toArray, List.getElem_cons_zero, List.getElem_cons_succ])
    refine wpAnyH_take (i := 5) (oi := _) (v := .tuple #[.agg #[.bool b47, .slice A47 n47 c47], .agg #[.bool b47r, .slice A47r n47r c47r], .bool ok]) rfl (by kernel_rfl) (by kernel_rfl) (by kernel_rfl) (fun _ _ _ h => h) (Or.inl ⟨by kernel_rfl, fun W hSw => by ((try dsimp only at hSw); go_simp; (try (with_reducible rfl)))⟩) hcur ?_
    (try simp (config := {maxSteps := 2000000}) only [Act.put, List.setIfInBounds_toArray, List.set_cons_zero, List.set_cons_succ, List.getElem_toArray, List.getElem_cons_zero, List.getElem_cons_succ])
    refine wpAnyH_take (i := 6) (oi := _) (v := .agg #[.bool b47, .slice A47 n47 c47]) rfl (by kernel_rfl) (by kernel_rfl) (by kernel_rfl) (fun _ _ _ h => h) (Or.inl ⟨by kernel_rfl, fun W hSw => by ((try dsimp only at hSw); go_simp; (try (with_reducible rfl)))⟩) hcur ?_
    (try simp (config := {maxSteps := 2000000}) only [Act.put, List.setIfInBounds_toArray, List.set_cons_zero, List.set_cons_succ, List.getElem_toArray, List.getElem_cons_zero, List.getElem_cons_succ])
    refine wpAnyH_take (i := 7) (oi := _) (v := .agg #[.bool b47r, .slice A47r n47r c47r]) rfl (by kernel_rfl) (by kernel_rfl) (by kernel_rfl) (fun _ _ _ h => h) (Or.inl ⟨by kernel_rfl, fun W hSw => by ((try dsimp only at hSw); go_simp; (try (with_reducible rfl)))⟩) hcur ?_
    (try simp (config := {maxSteps := 2000000}) only [Act.put, List.setIfInBounds_toArray, List.set_cons_zero, List.set_cons_succ, List.getElem_toArray, List.getElem_cons_zero, List.getElem_cons_succ])
    refine wpAnyH_take (i := 8) (oi := _) (v := .bool ok) rfl (by kernel_rfl) (by kernel_rfl) (by kernel_rfl) (fun _ _ _ h => h) (Or.inl ⟨by kernel_rfl, fun W hSw => by ((try dsimp only at hSw); go_simp; (try (with_reducible rfl)))⟩) hcur ?_
    (try simp (config := {maxSteps := 2000000}) only [Act.put, List.setIfInBounds_toArray, List.set_cons_zero, List.set_cons_succ, List.getElem_toArray, List.getElem_cons_zero, List.getElem_cons_succ])
    refine wpAnyH_ready (rs := [9]) (by kernel_rfl) (by simp) ?_
    refine AllReadyH.cons (o := _) rfl (fun K hK => ?_) AllReadyH.nil
    refine st_store rfl rfl B5 (news := [.bool b47, .slice A47 n47 c47]) (by rfl) infoNum (by simp) (by simp [Value.oneCell']) ?_; intro wn hon Bx; simp only [List.take_zero, List.nil_append, List.length_cons, List.length_nil, List.drop_succ_cons, List.drop_zero, List.append_nil, List.cons_append] at Bx; replace B5 := Bx; clear Bx; replace B6 := B6.only hon hneb6_5; replace B8 := B8.only hon hneb8_5; replace B9 := B9.only hon hneb9_5; have oo5 : NR.Ok _ _ := (F.out _ (show (⟨b47, A47, n47, c47, _, _, _⟩ : NR) ∈ _ from (by repeat (first | exact List.mem_cons_self .. | apply List.mem_cons_of_mem)))).only hon hne47_5; have F1 := F; clear F; have F := F0.below (hcur.trans (hon.below hg5)); replace F := F.cons ((F1.out _ (show (⟨b47r, A47r, n47r, c47r, _, _, _⟩ : NR) ∈ _ from (by repeat (first | exact List.mem_cons_self .. | apply List.mem_cons_of_mem)))).only hon hne47r_5); clear F1; replace hcur := hcur.trans (hon.below hg5); clear hon
    refine hK.out _ _ hcur (fun hHeld => ?_)
    clear hK K hHeld
    (try simp (config := {maxSteps := 2000000}) only [Act.put, List.setIfInBounds_toArray, List.set_cons_zero, List.set_cons_succ, List.getElem_toArray, List.getElem_cons_zero, List.getElem_cons_succ])
    refine wpAnyH_ready (rs := [10]) (by kernel_rfl) (by simp) ?_
    refine AllReadyH.cons (o := _) rfl (fun K hK => ?_) AllReadyH.nil
    refine st_store rfl rfl B6 (news := [.bool b47r, .slice A47r n47r c47r]) (by rfl) infoNum (by simp) (by simp [Value.oneCell']) ?_; intro wn hon Bx; simp only [List.take_zero, List.nil_append, List.length_cons, List.length_nil, List.drop_succ_cons, List.drop_zero, List.append_nil, List.cons_append] at Bx; replace B6 := Bx; clear Bx; replace B5 := B5.only hon (Ne.symm hneb6_5); replace B8 := B8.only hon hneb8_6; replace B9 := B9.only hon hneb9_6; have oo6 : NR.Ok _ _ := (F.out _ (show (⟨b47r, A47r, n47r, c47r, _, _, _⟩ : NR) ∈ _ from (by repeat (first | exact List.mem_cons_self .. | apply List.mem_cons_of_mem)))).only hon hne47r_6; replace oo5 := oo5.only hon hne47_6; have F1 := F; clear F; have F := F0.below (hcur.trans (hon.below hg6)); clear F1; replace hcur := hcur.trans (hon.below hg6); clear hon
    refine hK.out _ _ hcur (fun hHeld => ?_)
    clear hK K hHeld
    (try simp (config := {maxSteps := 2000000}) only [Act.put, List.setIfInBounds_toArray, List.set_cons_zero, List.set_cons_succ, List.getElem_toArray, List.getElem_cons_zero, List.getElem_cons_succ])
    refine wpAnyH_ready (rs := [11]) (by kernel_rfl) (by simp) ?_
    refine AllReadyH.cons (o := _) rfl (fun K hK => ?_) AllReadyH.nil
    go_simp
    refine hK.out _ _ hcur (fun hHeld => ?_)
    clear hK K hHeld
    (try simp (config := {maxSteps := 2000000}) only [Act.put, List.setIfInBounds_toArray, List.set_cons_zero, List.set_cons_succ, List.getElem_toArray, List.getElem_cons_zero, List.getElem_cons_succ])
    refine wpAnyH_done (by kernel_rfl) ?_ _
    refine NoPanic.normal ?_
    obtain ⟨rfl⟩ := hQ7
    have C2 := (B2.below hcur).cells
    have C3 := (B3.below hcur).cells
    go_wp2_with (first
      | (go_at_call 24; (with_reducible refine (rfloorF (F0.below hcur) (by repeat (first | exact List.mem_cons_self .. | apply List.mem_cons_of_mem)) (by repeat (first | exact List.mem_cons_self .. | apply List.mem_cons_of_mem)) HFQ.out (by omega)).mono ?_); rintro e wn ⟨vn, rfl, ⟨qv, rv, rfl, ⟨b8y, A8y, n8y, c8y, rfl, o8, f8⟩, ⟨b9y, A9y, n9y, c9y, rfl, o9, f9⟩⟩, hbn⟩; clear C2 C3; have hy8_8 : ∀ k ∈ addrBlock A8y, k ≠ g8 := (fun k hk e => by (have h1 := (f8 k hk).1; have h2 := B8.lt; omega)); have hy9_8 : ∀ k ∈ addrBlock A9y, k ≠ g8 := (fun k hk e => by (have h1 := (f9 k hk).1; have h2 := B8.lt; omega)); have hy8_9 : ∀ k ∈ addrBlock A8y, k ≠ g9 := (fun k hk e => by (have h1 := (f8 k hk).1; have h2 := B9.lt; omega)); have hy9_9 : ∀ k ∈ addrBlock A9y, k ≠ g9 := (fun k hk e => by (have h1 := (f9 k hk).1; have h2 := B9.lt; omega)); clear f8 f9; replace B5 := B5.below hbn; replace B6 := B6.below hbn; replace B8 := B8.below hbn; replace B9 := B9.below hbn; replace oo5 := oo5.below hbn; replace oo6 := oo6.below hbn; replace hcur := bthen hcur hbn; clear hbn)
      | ((with_reducible refine g_store 8 ?_); go_must (refine ev_store rfl rfl B8 (news := [.bool b8y, .slice A8y n8y c8y]) (by rfl) infoNum (by simp) (by simp [Value.oneCell']) ?_); intro wn hon Bn; simp only [List.take_zero, List.nil_append, List.length_cons, List.length_nil, List.drop_succ_cons, List.drop_zero, List.append_nil, List.cons_append] at Bn; replace B5 := B5.only hon (Ne.symm hneb8_5); replace B6 := B6.only hon (Ne.symm hneb8_6); replace B9 := B9.only hon hneb9_8; replace B8 := Bn; clear Bn; replace o8 := o8.only hon hy8_8; replace o9 := o9.only hon hy9_8; replace oo5 := oo5.only hon hne47_8; replace oo6 := oo6.only hon hne47r_8; replace hcur := hcur.trans (hon.below hg8); clear hon)
      | ((with_reducible refine g_store 9 ?_); go_must (refine ev_store rfl rfl B9 (news := [.bool b9y, .slice A9y n9y c9y]) (by rfl) infoNum (by simp) (by simp [Value.oneCell']) ?_); intro wn hon Bn; simp only [List.take_zero, List.nil_append, List.length_cons, List.length_nil, List.drop_succ_cons, List.drop_zero, List.append_nil, List.cons_append] at Bn; replace B5 := B5.only hon (Ne.symm hneb9_5); replace B6 := B6.only hon (Ne.symm hneb9_6); replace B8 := B8.only hon (Ne.symm hneb9_8); replace B9 := Bn; clear Bn; replace o8 := o8.only hon hy8_9; replace o9 := o9.only hon hy9_9; replace oo5 := oo5.only hon hne47_9; replace oo6 := oo6.only hon hne47r_9; replace hcur := hcur.trans (hon.below hg9); clear hon; have F := ((((Fs.nil _).cons o9).cons o8).cons oo6).cons oo5; clear o8 o9 oo5 oo6; have C5 := B5.cells; have C6 := B6.cells; have C8 := B8.cells; have C9 := B9.cells)
      | (go_at_call 15; (with_reducible refine (sameF F (by repeat (first | exact List.mem_cons_self .. | apply List.mem_cons_of_mem)) (by repeat (first | exact List.mem_cons_self .. | apply List.mem_cons_of_mem)) (by with_reducible rfl)).mono ?_); rintro e wn ⟨vn, rfl, rfl, hbn⟩; clear C5 C6 C8 C9; replace B5 := B5.below hbn; replace B6 := B6.below hbn; replace B8 := B8.below hbn; replace B9 := B9.below hbn; replace F := F.below hbn; replace hcur := bthen hcur hbn; clear hbn; have C5 := B5.cells; have C6 := B6.cells; have C8 := B8.cells; have C9 := B9.cells)
      | (go_at_call 19; (with_reducible refine (awake02_any _ (HT.out.below (bthen hbt hcur))).mono ?_); rintro e wn ⟨vn, rfl, rfl, hbn⟩; replace hcur := bthen hcur hbn; clear hbn))
    go_ret
    exact ⟨_, rfl, rfl, bthen hbt hcur⟩
end Go.Proofs.YtigoofeodbbbhaaDoor
/- The row of tandemlaw02.NumQuotients. -/
namespace Go.Proofs.YtigoofeodbbbhaaDoor
open Go.RowKit Go.Proofs.YtigoofeodbbbhaaDoorL Go.Proofs.YtigoofeodbbbhaaDoorM Go.ChangeShapes Go.WideShapes Go.ChangeAt Go.Deep
set_option linter.unusedVariables false
set_option linter.unusedSimpArgs false
def numQuotientsArgs : Array Value := #[.agg #[.bool false, .slice none 0 0], .agg #[.bool false, .slice none 0 0]]
theorem numQuotients_laid (os : Os) : laidMet Tryd.prog Rows.numQuotientsUptoRow.laid ((laidWorld os).forCall (fun _ _ => 0) ⟨#[], numQuotientsArgs, []⟩).memory :=
  laidMet_of_run' 8 (by kernel_rfl) (by kernel_rfl)
theorem numQuotients_reads (os : Os) {H : Type} (enc : TypeId × Value → H) : ∃ x, DataW.whole enc Tryd.prog ((laidWorld os).forCall (fun _ _ => 0) ⟨#[], numQuotientsArgs, []⟩).memory Tryd.f4.params.toList Rows.numQuotientsSpec.vars false numQuotientsArgs.toList 8 = some x ∧ Rows.uptoSmall H (x.1 ++ x.2.1) = true :=
  ⟨([.agg [.lit (.bool false), .nil], .agg [.lit (.bool false), .nil]], [], []), by kernel_rfl, by kernel_rfl⟩
set_option maxRecDepth 100000 in
theorem numQuotients_contract (H : Type) (enc : TypeId × Value → H) (W : World) (base : Nat) (args : Array Value) (ds gs : List (DataW H)) (before : List MemPlace)
    (hval : ∀ (j : Nat) t v, Tryd.f4.params[j]? = some t → args[j]? = some v → Value.okWide Tryd.prog W .any base t v)
    (hW : DataW.Whole enc Tryd.prog Tryd.f4.params.toList Rows.numQuotientsSpec.vars false W args.toList ds gs before) (hk : Rows.uptoSmall H (ds ++ gs) = true) (hL : laidMetH Tryd.prog Rows.numSumsRow.laid W) :
    Calls Tryd.prog 4 args W fun e W' => ∃ v, e = .returned v ∧ Rows.numQuotientsSpec.post enc Tryd.prog Tryd.f4 false true false false W args v W' := by
  have hW' := hW
  obtain ⟨p, q, hA0, hV, rfl, hfz, hnd⟩ := hW
  have hA : DataW.TrodAll enc Tryd.prog W 0 (fun _ => true) true Tryd.f4.params.toList args.toList ds p := hA0
  rw [Tryd.params4] at hA hval
  obtain ⟨v0, vs0, d0, ds0, p0, q0, hv0, rfl, rfl, h0, r0⟩ := trodAll_cons hA
  obtain ⟨v1, vs1, d1, ds1, p1, q1, hv1, rfl, rfl, h1, r1⟩ := trodAll_cons r0
  obtain ⟨hv2, rfl, rfl⟩ := trodAll_nil r1
  obtain rfl : args = #[v0, v1] := by
    have e : args.toList = [v0, v1] := by rw [hv0, hv1, hv2]
    exact Array.toList_inj.1 e
  obtain ⟨rfl, rfl⟩ := trodVars_none hV
  have hb : Rows.uptoBulk d0 + (Rows.uptoBulk d1 + 0) ≤ 1048576 := by
    simpa only [List.append_nil, Rows.uptoSmall, Rows.uptoBulkAll, decide_eq_true_eq] using hk
  obtain ⟨x0, rfl, hx0, hg0⟩ := openN (hval 0 26 v0 rfl rfl) h0
  obtain ⟨x1, rfl, hx1, hg1⟩ := openN (hval 1 26 v1 rfl rfl) h1
  clear hA0
  refine (numQuotients_any x0 x1 W (tab_of hL) (hg0 (by omega)) (hg1 (by omega)) (by omega)).mono fun e W' ⟨v, he, hv, bel⟩ => ?_
  subst he hv
  exact ⟨_, rfl, law_post rfl Tryd.underlying4 laidOut (by rw [Tryd.params4]; decide +kernel) rfl hW' rfl bel⟩
set_option maxRecDepth 100000 in
theorem numQuotients_lifted (os : Os) (started : os.Started) (H : Type) (enc : TypeId × Value → H) (F : Stop.Interp) :
    ReturnsInHanded {} Tryd.checked os 4 .any ((Rows.OpenSpec.upto Rows.numQuotientsSpec).preRow enc Tryd.prog Tryd.f4 Rows.numQuotientsUptoRow.domain false Rows.numQuotientsUptoRow.laid) (((Rows.OpenSpec.upto Rows.numQuotientsSpec).at F).post enc Tryd.prog Tryd.f4 false true false false) := by
  obtain ⟨x, hx, hxs⟩ := numQuotients_reads os enc
  refine returnsInHanded_of_row (C := Tryd.checked) (s := Rows.OpenSpec.upto Rows.numQuotientsSpec) ownK started (by kernel_rfl) Tryd.func4
    (witness_row_at (enc := enc) (C := Tryd.checked) false (laidWorld os) numQuotientsArgs rfl (by kernel_rfl) (by kernel_rfl) (by kernel_rfl)
      (OpenSpec.preRow_of_cond 8 hx (by rfl) (fun k hk => by cases hk; exact hxs) (by kernel_rfl) (numQuotients_laid os))) ?_
  intro W base args ds gs before hval hW _ hk _ hL _ _
  exact numQuotients_contract H enc W base args ds gs before hval hW (hk _ rfl) hL
theorem numQuotients_saidUpto : Rows.NumQuotientsUptoSaid :=
  OpenClaim.holds_of_cond 4 Tryd.f4 rfl rfl rfl rfl rfl rfl rfl ⟨rfl, rfl, rfl, rfl, rfl⟩ rfl rfl rfl rfl rfl (by kernel_rfl) Tryd.func4 (by kernel_rfl)
    (of_decide_eq_true (by kernel_rfl)) (by unfold Func.isWrapper; first | (rw [if_pos (by decide +kernel)]; kernel_rfl) | (rw [if_neg (by decide +kernel)]; exact ⟨rfl, rfl⟩))
    (fun os started H enc _ F => by rw [OpenClaim.pre_eq_preRow]; exact numQuotients_lifted os started H enc F)
theorem numQuotients_plainly (f : FuncId) (fn : Func) (hf : Tryd.pinned.checked.prog.funcNamed "tandem/tandemlaw02.NumQuotients" = some f) (hfn : Tryd.pinned.checked.prog.funcs[f]? = some fn) :
    true = Tryd.pinned.checked.prog.looks [] ∧ ∀ (j : Nat) t, fn.params[j]? = some t → Tryd.pinned.checked.prog.wantsStandIn t = false := by
  obtain rfl : f = 4 := Option.some.inj ((show Tryd.prog.funcNamed "tandem/tandemlaw02.NumQuotients" = some 4 by kernel_rfl).symm.trans hf) |>.symm
  obtain rfl : fn = Tryd.f4 := (Option.some.inj (Tryd.func4.symm.trans hfn)).symm
  refine ⟨by kernel_rfl, fun j t ht => ?_⟩
  rw [Tryd.params4] at ht
  have hm := Array.mem_of_getElem? ht
  simp only [Array.mem_def, List.mem_cons, List.not_mem_nil, or_false] at hm
  rcases hm with rfl | rfl
  · exact (show Tryd.prog.wantsStandIn 26 = false by kernel_rfl)
  · exact (show Tryd.prog.wantsStandIn 26 = false by kernel_rfl)
theorem NumQuotientsUptoCard_holds : Rows.NumQuotientsUptoCardSaid :=
  Claim7.holds_tied_plain_at .later [] _ _ _ _ numQuotients_saidUpto (fun _ h => by cases h) (by kernel_rfl) (fun _ h => by cases h) numQuotientsUpto_row_tie rfl ⟨rfl, rfl⟩ (by kernel_rfl) rfl numQuotients_plainly (by kernel_rfl)
end Go.Proofs.YtigoofeodbbbhaaDoor
