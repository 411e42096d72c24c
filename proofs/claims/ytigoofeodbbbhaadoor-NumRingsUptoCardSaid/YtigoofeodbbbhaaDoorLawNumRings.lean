/- NumRings. -/
import Derived.Test.YtigoofeodbbbhaaDoorNumK
import Derived.Test.YtigoofeodbbbhaaDoorNum10
namespace Go.Proofs.YtigoofeodbbbhaaDoor
open Go.RowKit Go.Proofs.YtigoofeodbbbhaaDoorL Go.Proofs.YtigoofeodbbbhaaDoorM
set_option linter.unusedVariables false
set_option linter.unusedSimpArgs false
set_option maxRecDepth 16000 in
set_option maxHeartbeats 16000000 in
theorem numRings_any (x y u : LN) (w : World) (htab : Tab w) (hx : LimN w x) (hy : LimN w y) (hu : LimN w u) (hxy : x.mag.length + y.mag.length + u.mag.length ≤ 1048576) :
    Calls Tryd.prog 8 #[.agg (encN x).toArray, .agg (encN y).toArray, .agg (encN u).toArray] w (Gives w fun r _ => r = .bool true) := by
  obtain ⟨n1, A1, c1, l1⟩ := x
  obtain ⟨n2, A2, c2, l2⟩ := y
  obtain ⟨n3, A3, c3, l3⟩ := u
  simp only [encN]
  replace hxy : l1.length + l2.length + l3.length ≤ 1048576 := hxy
  obtain ⟨k1, z1, e1, o1⟩ := open_num hx
  obtain ⟨k2, z2, e2, o2⟩ := open_num hy
  obtain ⟨k3, z3, e3, o3⟩ := open_num hu
  have F0 := (((Fs.nil w).cons o1).cons o2).cons o3
  rw [e1, e2, e3] at hxy ⊢
  have HT := As.mk htab
  clear htab hx hy hu e1 o1 e2 o2 e3 o3
  go_enter Tryd.func8, Tryd.ntmps8
  go_wp2_with (first
    | ((with_reducible refine g_dst 3 ?_); go_must (refine ev_box 3 rfl (cs := [.bool n1, .slice A1 k1 c1]) (by rfl) ?_); intro g3 wb hb3 B3 hg3; have hbt := hb3)
    | ((with_reducible refine g_dst 4 ?_); go_must (refine ev_box 4 rfl (cs := [.bool n2, .slice A2 k2 c2]) (by rfl) ?_); intro g4 wb hb4 B4 hg4; replace B3 := B3.below hb4; replace hbt := bthen hbt hb4)
    | ((with_reducible refine g_dst 5 ?_); go_must (refine ev_box 5 rfl (cs := [.bool n3, .slice A3 k3 c3]) (by rfl) ?_); intro g5 wb hb5 B5 hg5; replace B3 := B3.below hb5; replace B4 := B4.below hb5; replace hbt := bthen hbt hb5))
  replace F0 := F0.below hbt
  clear hg3 hb3 hg4 hb4 hg5 hb5
  go_cut [7] (fun s7 wx => ∃ (g7 : Nat) (bx : Bool) (Ax : Option Addr) (nx cx : Nat), s7 = .pointer (some ⟨g7, 0, none⟩) ∧ Below wb.heap.size wb wx ∧ Blk wx g7 [.bool bx, .slice Ax nx cx] 26 ∧ Fs wx [⟨bx, Ax, nx, cx, z1 * (z2 + z3), k1 + (k2 + k3 + 1), true⟩])
  case first =>
    have hcur := (Below.refl wb.heap.size wb).drew
    have F := F0.below hcur
    refine wp_gen2 (fun Q7 hQ7 => ?_)
    refine wp_region_held_drew (S := fun W => Below wb.heap.size wb W) (by kernel_rfl) hcur (fun hHeld => ?_)
    clear hHeld
    refine wpAnyH_take (i := 0) (oi := _) (v := .agg #[.bool n1, .slice A1 k1 c1]) rfl (by kernel_rfl) (by kernel_rfl) (by kernel_rfl) (fun _ _ _ h => h) (Or.inl ⟨by kernel_rfl, fun W hSw => by have Cb := (B3.below hSw).cells; ((try dsimp only at hSw); go_simp; try (with_reducible rfl))⟩) hcur ?_
    (try simp only [Act.put, List.setIfInBounds_toArray, List.set_cons_zero, List.set_cons_succ])
    refine wpAnyH_take (i := 2) (oi := _) (v := .agg #[.bool n2, .slice A2 k2 c2]) rfl (by kernel_rfl) (by kernel_rfl) (by kernel_rfl) (fun _ _ _ h => h) (Or.inl ⟨by kernel_rfl, fun W hSw => by have Cb := (B4.below hSw).cells; ((try dsimp only at hSw); go_simp; try (with_reducible rfl))⟩) hcur ?_
    (try simp only [Act.put, List.setIfInBounds_toArray, List.set_cons_zero, List.set_cons_succ])
    refine wpAnyH_take (i := 4) (oi := _) (v := .agg #[.bool n3, .slice A3 k3 c3]) rfl (by kernel_rfl) (by kernel_rfl) (by kernel_rfl) (fun _ _ _ h => h) (Or.inl ⟨by kernel_rfl, fun W hSw => by have Cb := (B5.below hSw).cells; ((try dsimp only at hSw); go_simp; try (with_reducible rfl))⟩) hcur ?_
    (try simp only [Act.put, List.setIfInBounds_toArray, List.set_cons_zero, List.set_cons_succ])
    refine wpAnyH_ready (rs := [1, 10]) (by kernel_rfl) (by simp) ?_
    refine AllReadyH.cons (o := _) rfl (fun K hK => ?_) ?_
    · go_simp; (with_reducible refine (cF F (by repeat (first | exact List.mem_cons_self .. | apply List.mem_cons_of_mem))).mono ?_); rintro e wn ⟨vn, rfl, ⟨b10, A10, n10, c10, rfl, o, hf⟩, hb⟩; replace F := (F.below hb).cons o; have hfr10 : ∀ k ∈ addrBlock A10, k < _ := (fun k hk => (hf k hk).2); clear hf; replace hcur := bthen hcur hb; go_wp2_with fail
      refine hK.out _ _ hcur (fun hHeld => ?_)
      clear hK K hHeld
      (try simp only [Act.put, List.setIfInBounds_toArray, List.set_cons_zero, List.set_cons_succ])
      refine wpAnyH_ready (rs := [3, 10]) (by kernel_rfl) (by simp) ?_
      refine AllReadyH.cons (o := _) rfl (fun K hK => ?_) ?_
      · go_simp; (with_reducible refine (cF F (by repeat (first | exact List.mem_cons_self .. | apply List.mem_cons_of_mem))).mono ?_); rintro e wn ⟨vn, rfl, ⟨b12, A12, n12, c12, rfl, o, hf⟩, hb⟩; replace F := (F.below hb).cons o; have hfr12 : ∀ k ∈ addrBlock A12, k < _ := (fun k hk => (hf k hk).2); clear hf; replace hfr10 : ∀ k ∈ addrBlock A10, k < _ := (fun k hk => Nat.lt_of_lt_of_le (hfr10 k hk) hb.size); replace hcur := bthen hcur hb; go_wp2_with fail
        refine hK.out _ _ hcur (fun hHeld => ?_)
        clear hK K hHeld
        (try simp only [Act.put, List.setIfInBounds_toArray, List.set_cons_zero, List.set_cons_succ])
        refine wpAnyH_ready (rs := [5, 10]) (by kernel_rfl) (by simp) ?_
        refine AllReadyH.cons (o := _) rfl (fun K hK => ?_) ?_
        · go_simp; (with_reducible refine (cF F (by repeat (first | exact List.mem_cons_self .. | apply List.mem_cons_of_mem))).mono ?_); rintro e wn ⟨vn, rfl, ⟨b14, A14, n14, c14, rfl, o, hf⟩, hb⟩; replace F := (F.below hb).cons o; have hfr14 : ∀ k ∈ addrBlock A14, k < _ := (fun k hk => (hf k hk).2); clear hf; replace hfr10 : ∀ k ∈ addrBlock A10, k < _ := (fun k hk => Nat.lt_of_lt_of_le (hfr10 k hk) hb.size); replace hfr12 : ∀ k ∈ addrBlock A12, k < _ := (fun k hk => Nat.lt_of_lt_of_le (hfr12 k hk) hb.size); replace hcur := bthen hcur hb; go_wp2_with fail
          refine hK.out _ _ hcur (fun hHeld => ?_)
          clear hK K hHeld
          (try simp only [Act.put, List.setIfInBounds_toArray, List.set_cons_zero, List.set_cons_succ])
          refine wpAnyH_ready (rs := [6, 10]) (by kernel_rfl) (by simp) ?_
          refine AllReadyH.cons (o := _) rfl (fun K hK => ?_) ?_
          · refine st_lit (v := fun g => .slice (some ⟨g, 0, none⟩) 2 2) 15 rfl (cs := [.bool b12, .slice A12 n12 c12, .bool b14, .slice A14 n14 c14]) (t := 26) (by go_simp; try rfl) ?_; intro g15 wn hb Bl15 hg15; replace F := F.below hb; replace hfr10 : ∀ k ∈ addrBlock A10, k < _ := (fun k hk => Nat.lt_of_lt_of_le (hfr10 k hk) hb.size); replace hfr12 : ∀ k ∈ addrBlock A12, k < _ := (fun k hk => Nat.lt_of_lt_of_le (hfr12 k hk) hb.size); replace hfr14 : ∀ k ∈ addrBlock A14, k < _ := (fun k hk => Nat.lt_of_lt_of_le (hfr14 k hk) hb.size); replace hcur := bthen hcur hb
            refine hK.out _ _ hcur (fun hHeld => ?_)
            clear hK K hHeld
            (try simp only [Act.put, List.setIfInBounds_toArray, List.set_cons_zero, List.set_cons_succ])
            refine wpAnyH_ready (rs := [7, 10]) (by kernel_rfl) (by simp) ?_
            refine AllReadyH.cons (o := _) rfl (fun K hK => ?_) ?_
            · go_simp; (with_reducible refine (addF F Bl15 (by repeat (first | exact List.mem_cons_self .. | apply List.mem_cons_of_mem)) (by repeat (first | exact List.mem_cons_self .. | apply List.mem_cons_of_mem)) (by omega)).mono ?_); rintro e wn ⟨vn, rfl, ⟨b16, A16, n16, c16, rfl, o, hf⟩, hb⟩; replace F := (F.below hb).cons o; have hfr16 : ∀ k ∈ addrBlock A16, k < _ := (fun k hk => (hf k hk).2); clear hf; replace Bl15 := Bl15.below hb; replace hfr10 : ∀ k ∈ addrBlock A10, k < _ := (fun k hk => Nat.lt_of_lt_of_le (hfr10 k hk) hb.size); replace hfr12 : ∀ k ∈ addrBlock A12, k < _ := (fun k hk => Nat.lt_of_lt_of_le (hfr12 k hk) hb.size); replace hfr14 : ∀ k ∈ addrBlock A14, k < _ := (fun k hk => Nat.lt_of_lt_of_le (hfr14 k hk) hb.size); replace hcur := bthen hcur hb; go_wp2_with fail
              refine hK.out _ _ hcur (fun hHeld => ?_)
              clear hK K hHeld
              (try simp only [Act.put, List.setIfInBounds_toArray, List.set_cons_zero, List.set_cons_succ])
              refine wpAnyH_ready (rs := [8, 10]) (by kernel_rfl) (by simp) ?_
              refine AllReadyH.cons (o := _) rfl (fun K hK => ?_) ?_
              · refine st_lit (v := fun g => .slice (some ⟨g, 0, none⟩) 2 2) 17 rfl (cs := [.bool b10, .slice A10 n10 c10, .bool b16, .slice A16 n16 c16]) (t := 26) (by go_simp; try rfl) ?_; intro g17 wn hb Bl17 hg17; replace F := F.below hb; replace hfr10 : ∀ k ∈ addrBlock A10, k < _ := (fun k hk => Nat.lt_of_lt_of_le (hfr10 k hk) hb.size); replace hfr12 : ∀ k ∈ addrBlock A12, k < _ := (fun k hk => Nat.lt_of_lt_of_le (hfr12 k hk) hb.size); replace hfr14 : ∀ k ∈ addrBlock A14, k < _ := (fun k hk => Nat.lt_of_lt_of_le (hfr14 k hk) hb.size); replace hfr16 : ∀ k ∈ addrBlock A16, k < _ := (fun k hk => Nat.lt_of_lt_of_le (hfr16 k hk) hb.size); replace hcur := bthen hcur hb
                refine hK.out _ _ hcur (fun hHeld => ?_)
                clear hK K hHeld
                (try simp only [Act.put, List.setIfInBounds_toArray, List.set_cons_zero, List.set_cons_succ])
                refine wpAnyH_ready (rs := [9, 10]) (by kernel_rfl) (by simp) ?_
                refine AllReadyH.cons (o := _) rfl (fun K hK => ?_) ?_
                · go_simp; (with_reducible refine (mulF F Bl17 (by repeat (first | exact List.mem_cons_self .. | apply List.mem_cons_of_mem)) (by repeat (first | exact List.mem_cons_self .. | apply List.mem_cons_of_mem)) (by omega)).mono ?_); rintro e wn ⟨vn, rfl, ⟨b18, A18, n18, c18, rfl, o, hf⟩, hb⟩; replace F := (F.below hb).cons o; have hfr18 : ∀ k ∈ addrBlock A18, k < _ := (fun k hk => (hf k hk).2); clear hf; replace Bl17 := Bl17.below hb; replace hfr10 : ∀ k ∈ addrBlock A10, k < _ := (fun k hk => Nat.lt_of_lt_of_le (hfr10 k hk) hb.size); replace hfr12 : ∀ k ∈ addrBlock A12, k < _ := (fun k hk => Nat.lt_of_lt_of_le (hfr12 k hk) hb.size); replace hfr14 : ∀ k ∈ addrBlock A14, k < _ := (fun k hk => Nat.lt_of_lt_of_le (hfr14 k hk) hb.size); replace hfr16 : ∀ k ∈ addrBlock A16, k < _ := (fun k hk => Nat.lt_of_lt_of_le (hfr16 k hk) hb.size); replace hcur := bthen hcur hb; go_wp2_with fail
                  refine hK.out _ _ hcur (fun hHeld => ?_)
                  clear hK K hHeld
                  (try simp only [Act.put, List.setIfInBounds_toArray, List.set_cons_zero, List.set_cons_succ])
                  refine wpAnyH_ready (rs := [10]) (by kernel_rfl) (by simp) ?_
                  refine AllReadyH.cons (o := _) rfl (fun K hK => ?_) AllReadyH.nil
                  refine st_alloc 7 rfl infoNum (cs := [.bool false, .slice none 0 0]) rfl ?_; intro g7 wn hb B7 hgn; have hne10_7 : ∀ k ∈ addrBlock A10, k ≠ g7 := (fun k hk e => by (have h1 := hfr10 k hk; omega)); have hne12_7 : ∀ k ∈ addrBlock A12, k ≠ g7 := (fun k hk e => by (have h1 := hfr12 k hk; omega)); have hne14_7 : ∀ k ∈ addrBlock A14, k ≠ g7 := (fun k hk e => by (have h1 := hfr14 k hk; omega)); have hne16_7 : ∀ k ∈ addrBlock A16, k ≠ g7 := (fun k hk e => by (have h1 := hfr16 k hk; omega)); have hne18_7 : ∀ k ∈ addrBlock A18, k ≠ g7 := (fun k hk e => by (have h1 := hfr18 k hk; omega)); have hg7 := Nat.le_trans hcur.size hgn; replace F := F.below hb; replace hfr10 : ∀ k ∈ addrBlock A10, k < _ := (fun k hk => Nat.lt_of_lt_of_le (hfr10 k hk) hb.size); replace hfr12 : ∀ k ∈ addrBlock A12, k < _ := (fun k hk => Nat.lt_of_lt_of_le (hfr12 k hk) hb.size); replace hfr14 : ∀ k ∈ addrBlock A14, k < _ := (fun k hk => Nat.lt_of_lt_of_le (hfr14 k hk) hb.size); replace hfr16 : ∀ k ∈ addrBlock A16, k < _ := (fun k hk => Nat.lt_of_lt_of_le (hfr16 k hk) hb.size); replace hfr18 : ∀ k ∈ addrBlock A18, k < _ := (fun k hk => Nat.lt_of_lt_of_le (hfr18 k hk) hb.size); replace hcur := bthen hcur hb
                  refine hK.out _ _ hcur (fun hHeld => ?_)
                  clear hK K hHeld
                  (try simp only [Act.put, List.setIfInBounds_toArray, List.set_cons_zero, List.set_cons_succ])
                  refine wpAnyH_ready (rs := [11]) (by kernel_rfl) (by simp) ?_
                  refine AllReadyH.cons (o := _) rfl (fun K hK => ?_) AllReadyH.nil
                  refine st_store rfl rfl B7 (news := [.bool b18, .slice A18 n18 c18]) (by rfl) infoNum (by simp) (by simp [Value.oneCell']) ?_; intro wn hon Bx; simp only [List.take_zero, List.nil_append, List.length_cons, List.length_nil, List.drop_succ_cons, List.drop_zero, List.append_nil, List.cons_append] at Bx; replace B7 := Bx; clear Bx; have oo7 : NR.Ok _ _ := (F.out _ (show (⟨b18, A18, n18, c18, _, _, _⟩ : NR) ∈ _ from (by repeat (first | exact List.mem_cons_self .. | apply List.mem_cons_of_mem)))).only hon hne18_7; have F1 := F; clear F; have F := F0.below (hcur.trans (hon.below hg7)); clear F1; replace hcur := hcur.trans (hon.below hg7); clear hon
                  refine hK.out _ _ hcur (fun hHeld => ?_)
                  clear hK K hHeld
                  (try simp only [Act.put, List.setIfInBounds_toArray, List.set_cons_zero, List.set_cons_succ])
                  refine wpAnyH_done (by kernel_rfl) ?_ _
                  refine NoPanic.normal ?_
                  obtain ⟨rfl⟩ := hQ7
                  (go_wp2_with fail)
                  go_meet
                  exact ⟨g7, _, _, _, _, rfl, hcur, B7, (Fs.nil _).cons oo7⟩
                refine AllReadyH.cons (o := _) rfl (fun K hK => ?_) ?_
                · refine st_alloc 7 rfl infoNum (cs := [.bool false, .slice none 0 0]) rfl ?_; intro g7 wn hb B7 hgn; have hne10_7 : ∀ k ∈ addrBlock A10, k ≠ g7 := (fun k hk e => by (have h1 := hfr10 k hk; omega)); have hne12_7 : ∀ k ∈ addrBlock A12, k ≠ g7 := (fun k hk e => by (have h1 := hfr12 k hk; omega)); have hne14_7 : ∀ k ∈ addrBlock A14, k ≠ g7 := (fun k hk e => by (have h1 := hfr14 k hk; omega)); have hne16_7 : ∀ k ∈ addrBlock A16, k ≠ g7 := (fun k hk e => by (have h1 := hfr16 k hk; omega)); have hg7 := Nat.le_trans hcur.size hgn; replace F := F.below hb; replace Bl17 := Bl17.below hb; replace hfr10 : ∀ k ∈ addrBlock A10, k < _ := (fun k hk => Nat.lt_of_lt_of_le (hfr10 k hk) hb.size); replace hfr12 : ∀ k ∈ addrBlock A12, k < _ := (fun k hk => Nat.lt_of_lt_of_le (hfr12 k hk) hb.size); replace hfr14 : ∀ k ∈ addrBlock A14, k < _ := (fun k hk => Nat.lt_of_lt_of_le (hfr14 k hk) hb.size); replace hfr16 : ∀ k ∈ addrBlock A16, k < _ := (fun k hk => Nat.lt_of_lt_of_le (hfr16 k hk) hb.size); replace hcur := bthen hcur hb
                  refine hK.out _ _ hcur (fun hHeld => ?_)
                  clear hK K hHeld
                  (try simp only [Act.put, List.setIfInBounds_toArray, List.set_cons_zero, List.set_cons_succ])
                  refine wpAnyH_ready (rs := [9]) (by kernel_rfl) (by simp) ?_
                  refine AllReadyH.cons (o := _) rfl (fun K hK => ?_) AllReadyH.nil
                  go_simp; (with_reducible refine (mulF F Bl17 (by repeat (first | exact List.mem_cons_self .. | apply List.mem_cons_of_mem)) (by repeat (first | exact List.mem_cons_self .. | apply List.mem_cons_of_mem)) (by omega)).mono ?_); rintro e wn ⟨vn, rfl, ⟨b18, A18, n18, c18, rfl, o, hf⟩, hb⟩; replace F := (F.below hb).cons o; have hne18_7 : ∀ k ∈ addrBlock A18, k ≠ g7 := (fun k hk e => by (have h1 := (hf k hk).1; have h2 := B7.lt; omega)); have hfr18 : ∀ k ∈ addrBlock A18, k < _ := (fun k hk => (hf k hk).2); clear hf; replace B7 := B7.below hb; replace Bl17 := Bl17.below hb; replace hfr10 : ∀ k ∈ addrBlock A10, k < _ := (fun k hk => Nat.lt_of_lt_of_le (hfr10 k hk) hb.size); replace hfr12 : ∀ k ∈ addrBlock A12, k < _ := (fun k hk => Nat.lt_of_lt_of_le (hfr12 k hk) hb.size); replace hfr14 : ∀ k ∈ addrBlock A14, k < _ := (fun k hk => Nat.lt_of_lt_of_le (hfr14 k hk) hb.size); replace hfr16 : ∀ k ∈ addrBlock A16, k < _ := (fun k hk => Nat.lt_of_lt_of_le (hfr16 k hk) hb.size); replace hcur := bthen hcur hb; go_wp2_with fail
                  refine hK.out _ _ hcur (fun hHeld => ?_)
                  clear hK K hHeld
                  (try simp only [Act.put, List.setIfInBounds_toArray, List.set_cons_zero, List.set_cons_succ])
                  refine wpAnyH_ready (rs := [11]) (by kernel_rfl) (by simp) ?_
                  refine AllReadyH.cons (o := _) rfl (fun K hK => ?_) AllReadyH.nil
                  refine st_store rfl rfl B7 (news := [.bool b18, .slice A18 n18 c18]) (by rfl) infoNum (by simp) (by simp [Value.oneCell']) ?_; intro wn hon Bx; simp only [List.take_zero, List.nil_append, List.length_cons, List.length_nil, List.drop_succ_cons, List.drop_zero, List.append_nil, List.cons_append] at Bx; replace B7 := Bx; clear Bx; have oo7 : NR.Ok _ _ := (F.out _ (show (⟨b18, A18, n18, c18, _, _, _⟩ : NR) ∈ _ from (by repeat (first | exact List.mem_cons_self .. | apply List.mem_cons_of_mem)))).only hon hne18_7; have F1 := F; clear F; have F := F0.below (hcur.trans (hon.below hg7)); clear F1; replace hcur := hcur.trans (hon.below hg7); clear hon
                  refine hK.out _ _ hcur (fun hHeld => ?_)
                  clear hK K hHeld
                  (try simp only [Act.put, List.setIfInBounds_toArray, List.set_cons_zero, List.set_cons_succ])
                  refine wpAnyH_done (by kernel_rfl) ?_ _
                  refine NoPanic.normal ?_
                  obtain ⟨rfl⟩ := hQ7
                  (go_wp2_with fail)
                  go_meet
                  exact ⟨g7, _, _, _, _, rfl, hcur, B7, (Fs.nil _).cons oo7⟩
                exact AllReadyH.nil
              refine AllReadyH.cons (o := _) rfl (fun K hK => ?_) ?_
              · refine st_alloc 7 rfl infoNum (cs := [.bool false, .slice none 0 0]) rfl ?_; intro g7 wn hb B7 hgn; have hne10_7 : ∀ k ∈ addrBlock A10, k ≠ g7 := (fun k hk e => by (have h1 := hfr10 k hk; omega)); have hne12_7 : ∀ k ∈ addrBlock A12, k ≠ g7 := (fun k hk e => by (have h1 := hfr12 k hk; omega)); have hne14_7 : ∀ k ∈ addrBlock A14, k ≠ g7 := (fun k hk e => by (have h1 := hfr14 k hk; omega)); have hne16_7 : ∀ k ∈ addrBlock A16, k ≠ g7 := (fun k hk e => by (have h1 := hfr16 k hk; omega)); have hg7 := Nat.le_trans hcur.size hgn; replace F := F.below hb; replace hfr10 : ∀ k ∈ addrBlock A10, k < _ := (fun k hk => Nat.lt_of_lt_of_le (hfr10 k hk) hb.size); replace hfr12 : ∀ k ∈ addrBlock A12, k < _ := (fun k hk => Nat.lt_of_lt_of_le (hfr12 k hk) hb.size); replace hfr14 : ∀ k ∈ addrBlock A14, k < _ := (fun k hk => Nat.lt_of_lt_of_le (hfr14 k hk) hb.size); replace hfr16 : ∀ k ∈ addrBlock A16, k < _ := (fun k hk => Nat.lt_of_lt_of_le (hfr16 k hk) hb.size); replace hcur := bthen hcur hb
                refine hK.out _ _ hcur (fun hHeld => ?_)
                clear hK K hHeld
                (try simp only [Act.put, List.setIfInBounds_toArray, List.set_cons_zero, List.set_cons_succ])
                refine wpAnyH_ready (rs := [8]) (by kernel_rfl) (by simp) ?_
                refine AllReadyH.cons (o := _) rfl (fun K hK => ?_) AllReadyH.nil
                refine st_lit (v := fun g => .slice (some ⟨g, 0, none⟩) 2 2) 17 rfl (cs := [.bool b10, .slice A10 n10 c10, .bool b16, .slice A16 n16 c16]) (t := 26) (by go_simp; try rfl) ?_; intro g17 wn hb Bl17 hg17; replace F := F.below hb; replace B7 := B7.below hb; replace hfr10 : ∀ k ∈ addrBlock A10, k < _ := (fun k hk => Nat.lt_of_lt_of_le (hfr10 k hk) hb.size); replace hfr12 : ∀ k ∈ addrBlock A12, k < _ := (fun k hk => Nat.lt_of_lt_of_le (hfr12 k hk) hb.size); replace hfr14 : ∀ k ∈ addrBlock A14, k < _ := (fun k hk => Nat.lt_of_lt_of_le (hfr14 k hk) hb.size); replace hfr16 : ∀ k ∈ addrBlock A16, k < _ := (fun k hk => Nat.lt_of_lt_of_le (hfr16 k hk) hb.size); replace hcur := bthen hcur hb
                refine hK.out _ _ hcur (fun hHeld => ?_)
                clear hK K hHeld
                (try simp only [Act.put, List.setIfInBounds_toArray, List.set_cons_zero, List.set_cons_succ])
                refine wpAnyH_ready (rs := [9]) (by kernel_rfl) (by simp) ?_
                refine AllReadyH.cons (o := _) rfl (fun K hK => ?_) AllReadyH.nil
                go_simp; (with_reducible refine (mulF F Bl17 (by repeat (first | exact List.mem_cons_self .. | apply List.mem_cons_of_mem)) (by repeat (first | exact List.mem_cons_self .. | apply List.mem_cons_of_mem)) (by omega)).mono ?_); rintro e wn ⟨vn, rfl, ⟨b18, A18, n18, c18, rfl, o, hf⟩, hb⟩; replace F := (F.below hb).cons o; have hne18_7 : ∀ k ∈ addrBlock A18, k ≠ g7 := (fun k hk e => by (have h1 := (hf k hk).1; have h2 := B7.lt; omega)); have hfr18 : ∀ k ∈ addrBlock A18, k < _ := (fun k hk => (hf k hk).2); clear hf; replace B7 := B7.below hb; replace Bl17 := Bl17.below hb; replace hfr10 : ∀ k ∈ addrBlock A10, k < _ := (fun k hk => Nat.lt_of_lt_of_le (hfr10 k hk) hb.size); replace hfr12 : ∀ k ∈ addrBlock A12, k < _ := (fun k hk => Nat.lt_of_lt_of_le (hfr12 k hk) hb.size); replace hfr14 : ∀ k ∈ addrBlock A14, k < _ := (fun k hk => Nat.lt_of_lt_of_le (hfr14 k hk) hb.size); replace hfr16 : ∀ k ∈ addrBlock A16, k < _ := (fun k hk => Nat.lt_of_lt_of_le (hfr16 k hk) hb.size); replace hcur := bthen hcur hb; go_wp2_with fail
                refine hK.out _ _ hcur (fun hHeld => ?_)
                clear hK K hHeld
                (try simp only [Act.put, List.setIfInBounds_toArray, List.set_cons_zero, List.set_cons_succ])
                refine wpAnyH_ready (rs := [11]) (by kernel_rfl) (by simp) ?_
                refine AllReadyH.cons (o := _) rfl (fun K hK => ?_) AllReadyH.nil
                refine st_store rfl rfl B7 (news := [.bool b18, .slice A18 n18 c18]) (by rfl) infoNum (by simp) (by simp [Value.oneCell']) ?_; intro wn hon Bx; simp only [List.take_zero, List.nil_append, List.length_cons, List.length_nil, List.drop_succ_cons, List.drop_zero, List.append_nil, List.cons_append] at Bx; replace B7 := Bx; clear Bx; have oo7 : NR.Ok _ _ := (F.out _ (show (⟨b18, A18, n18, c18, _, _, _⟩ : NR) ∈ _ from (by repeat (first | exact List.mem_cons_self .. | apply List.mem_cons_of_mem)))).only hon hne18_7; have F1 := F; clear F; have F := F0.below (hcur.trans (hon.below hg7)); clear F1; replace hcur := hcur.trans (hon.below hg7); clear hon
                refine hK.out _ _ hcur (fun hHeld => ?_)
                clear hK K hHeld
                (try simp only [Act.put, List.setIfInBounds_toArray, List.set_cons_zero, List.set_cons_succ])
                refine wpAnyH_done (by kernel_rfl) ?_ _
                refine NoPanic.normal ?_
                obtain ⟨rfl⟩ := hQ7
                (go_wp2_with fail)
                go_meet
                exact ⟨g7, _, _, _, _, rfl, hcur, B7, (Fs.nil _).cons oo7⟩
              exact AllReadyH.nil
            refine AllReadyH.cons (o := _) rfl (fun K hK => ?_) ?_
            · refine st_alloc 7 rfl infoNum (cs := [.bool false, .slice none 0 0]) rfl ?_; intro g7 wn hb B7 hgn; have hne10_7 : ∀ k ∈ addrBlock A10, k ≠ g7 := (fun k hk e => by (have h1 := hfr10 k hk; omega)); have hne12_7 : ∀ k ∈ addrBlock A12, k ≠ g7 := (fun k hk e => by (have h1 := hfr12 k hk; omega)); have hne14_7 : ∀ k ∈ addrBlock A14, k ≠ g7 := (fun k hk e => by (have h1 := hfr14 k hk; omega)); have hg7 := Nat.le_trans hcur.size hgn; replace F := F.below hb; replace Bl15 := Bl15.below hb; replace hfr10 : ∀ k ∈ addrBlock A10, k < _ := (fun k hk => Nat.lt_of_lt_of_le (hfr10 k hk) hb.size); replace hfr12 : ∀ k ∈ addrBlock A12, k < _ := (fun k hk => Nat.lt_of_lt_of_le (hfr12 k hk) hb.size); replace hfr14 : ∀ k ∈ addrBlock A14, k < _ := (fun k hk => Nat.lt_of_lt_of_le (hfr14 k hk) hb.size); replace hcur := bthen hcur hb
              refine hK.out _ _ hcur (fun hHeld => ?_)
              clear hK K hHeld
              (try simp only [Act.put, List.setIfInBounds_toArray, List.set_cons_zero, List.set_cons_succ])
              refine wpAnyH_ready (rs := [7]) (by kernel_rfl) (by simp) ?_
              refine AllReadyH.cons (o := _) rfl (fun K hK => ?_) AllReadyH.nil
              go_simp; (with_reducible refine (addF F Bl15 (by repeat (first | exact List.mem_cons_self .. | apply List.mem_cons_of_mem)) (by repeat (first | exact List.mem_cons_self .. | apply List.mem_cons_of_mem)) (by omega)).mono ?_); rintro e wn ⟨vn, rfl, ⟨b16, A16, n16, c16, rfl, o, hf⟩, hb⟩; replace F := (F.below hb).cons o; have hne16_7 : ∀ k ∈ addrBlock A16, k ≠ g7 := (fun k hk e => by (have h1 := (hf k hk).1; have h2 := B7.lt; omega)); have hfr16 : ∀ k ∈ addrBlock A16, k < _ := (fun k hk => (hf k hk).2); clear hf; replace B7 := B7.below hb; replace Bl15 := Bl15.below hb; replace hfr10 : ∀ k ∈ addrBlock A10, k < _ := (fun k hk => Nat.lt_of_lt_of_le (hfr10 k hk) hb.size); replace hfr12 : ∀ k ∈ addrBlock A12, k < _ := (fun k hk => Nat.lt_of_lt_of_le (hfr12 k hk) hb.size); replace hfr14 : ∀ k ∈ addrBlock A14, k < _ := (fun k hk => Nat.lt_of_lt_of_le (hfr14 k hk) hb.size); replace hcur := bthen hcur hb; go_wp2_with fail
              refine hK.out _ _ hcur (fun hHeld => ?_)
              clear hK K hHeld
              (try simp only [Act.put, List.setIfInBounds_toArray, List.set_cons_zero, List.set_cons_succ])
              refine wpAnyH_ready (rs := [8]) (by kernel_rfl) (by simp) ?_
              refine AllReadyH.cons (o := _) rfl (fun K hK => ?_) AllReadyH.nil
              refine st_lit (v := fun g => .slice (some ⟨g, 0, none⟩) 2 2) 17 rfl (cs := [.bool b10, .slice A10 n10 c10, .bool b16, .slice A16 n16 c16]) (t := 26) (by go_simp; try rfl) ?_; intro g17 wn hb Bl17 hg17; replace F := F.below hb; replace B7 := B7.below hb; replace hfr10 : ∀ k ∈ addrBlock A10, k < _ := (fun k hk => Nat.lt_of_lt_of_le (hfr10 k hk) hb.size); replace hfr12 : ∀ k ∈ addrBlock A12, k < _ := (fun k hk => Nat.lt_of_lt_of_le (hfr12 k hk) hb.size); replace hfr14 : ∀ k ∈ addrBlock A14, k < _ := (fun k hk => Nat.lt_of_lt_of_le (hfr14 k hk) hb.size); replace hfr16 : ∀ k ∈ addrBlock A16, k < _ := (fun k hk => Nat.lt_of_lt_of_le (hfr16 k hk) hb.size); replace hcur := bthen hcur hb
              refine hK.out _ _ hcur (fun hHeld => ?_)
              clear hK K hHeld
              (try simp only [Act.put, List.setIfInBounds_toArray, List.set_cons_zero, List.set_cons_succ])
              refine wpAnyH_ready (rs := [9]) (by kernel_rfl) (by simp) ?_
              refine AllReadyH.cons (o := _) rfl (fun K hK => ?_) AllReadyH.nil
              go_simp; (with_reducible refine (mulF F Bl17 (by repeat (first | exact List.mem_cons_self .. | apply List.mem_cons_of_mem)) (by repeat (first | exact List.mem_cons_self .. | apply List.mem_cons_of_mem)) (by omega)).mono ?_); rintro e wn ⟨vn, rfl, ⟨b18, A18, n18, c18, rfl, o, hf⟩, hb⟩; replace F := (F.below hb).cons o; have hne18_7 : ∀ k ∈ addrBlock A18, k ≠ g7 := (fun k hk e => by (have h1 := (hf k hk).1; have h2 := B7.lt; omega)); have hfr18 : ∀ k ∈ addrBlock A18, k < _ := (fun k hk => (hf k hk).2); clear hf; replace B7 := B7.below hb; replace Bl17 := Bl17.below hb; replace hfr10 : ∀ k ∈ addrBlock A10, k < _ := (fun k hk => Nat.lt_of_lt_of_le (hfr10 k hk) hb.size); replace hfr12 : ∀ k ∈ addrBlock A12, k < _ := (fun k hk => Nat.lt_of_lt_of_le (hfr12 k hk) hb.size); replace hfr14 : ∀ k ∈ addrBlock A14, k < _ := (fun k hk => Nat.lt_of_lt_of_le (hfr14 k hk) hb.size); replace hfr16 : ∀ k ∈ addrBlock A16, k < _ := (fun k hk => Nat.lt_of_lt_of_le (hfr16 k hk) hb.size); replace hcur := bthen hcur hb; go_wp2_with fail
              refine hK.out _ _ hcur (fun hHeld => ?_)
              clear hK K hHeld
              (try simp only [Act.put, List.setIfInBounds_toArray, List.set_cons_zero, List.set_cons_succ])
              refine wpAnyH_ready (rs := [11]) (by kernel_rfl) (by simp) ?_
              refine AllReadyH.cons (o := _) rfl (fun K hK => ?_) AllReadyH.nil
              refine st_store rfl rfl B7 (news := [.bool b18, .slice A18 n18 c18]) (by rfl) infoNum (by simp) (by simp [Value.oneCell']) ?_; intro wn hon Bx; simp only [List.take_zero, List.nil_append, List.length_cons, List.length_nil, List.drop_succ_cons, List.drop_zero, List.append_nil, List.cons_append] at Bx; replace B7 := Bx; clear Bx; have oo7 : NR.Ok _ _ := (F.out _ (show (⟨b18, A18, n18, c18, _, _, _⟩ : NR) ∈ _ from (by repeat (first | exact List.mem_cons_self .. | apply List.mem_cons_of_mem)))).only hon hne18_7; have F1 := F; clear F; have F := F0.below (hcur.trans (hon.below hg7)); clear F1; replace hcur := hcur.trans (hon.below hg7); clear hon
              refine hK.out _ _ hcur (fun hHeld => ?_)
              clear hK K hHeld
              (try simp only [Act.put, List.setIfInBounds_toArray, List.set_cons_zero, List.set_cons_succ])
              refine wpAnyH_done (by kernel_rfl) ?_ _
              refine NoPanic.normal ?_
              obtain ⟨rfl⟩ := hQ7
              (go_wp2_with fail)
              go_meet
              exact ⟨g7, _, _, _, _, rfl, hcur, B7, (Fs.nil _).cons oo7⟩
            exact AllReadyH.nil
          refine AllReadyH.cons (o := _) rfl (fun K hK => ?_) ?_
          · refine st_alloc 7 rfl infoNum (cs := [.bool false, .slice none 0 0]) rfl ?_; intro g7 wn hb B7 hgn; have hne10_7 : ∀ k ∈ addrBlock A10, k ≠ g7 := (fun k hk e => by (have h1 := hfr10 k hk; omega)); have hne12_7 : ∀ k ∈ addrBlock A12, k ≠ g7 := (fun k hk e => by (have h1 := hfr12 k hk; omega)); have hne14_7 : ∀ k ∈ addrBlock A14, k ≠ g7 := (fun k hk e => by (have h1 := hfr14 k hk; omega)); have hg7 := Nat.le_trans hcur.size hgn; replace F := F.below hb; replace hfr10 : ∀ k ∈ addrBlock A10, k < _ := (fun k hk => Nat.lt_of_lt_of_le (hfr10 k hk) hb.size); replace hfr12 : ∀ k ∈ addrBlock A12, k < _ := (fun k hk => Nat.lt_of_lt_of_le (hfr12 k hk) hb.size); replace hfr14 : ∀ k ∈ addrBlock A14, k < _ := (fun k hk => Nat.lt_of_lt_of_le (hfr14 k hk) hb.size); replace hcur := bthen hcur hb
            refine hK.out _ _ hcur (fun hHeld => ?_)
            clear hK K hHeld
            (try simp only [Act.put, List.setIfInBounds_toArray, List.set_cons_zero, List.set_cons_succ])
            refine wpAnyH_ready (rs := [6]) (by kernel_rfl) (by simp) ?_
            refine AllReadyH.cons (o := _) rfl (fun K hK => ?_) AllReadyH.nil
            refine st_lit (v := fun g => .slice (some ⟨g, 0, none⟩) 2 2) 15 rfl (cs := [.bool b12, .slice A12 n12 c12, .bool b14, .slice A14 n14 c14]) (t := 26) (by go_simp; try rfl) ?_; intro g15 wn hb Bl15 hg15; replace F := F.below hb; replace B7 := B7.below hb; replace hfr10 : ∀ k ∈ addrBlock A10, k < _ := (fun k hk => Nat.lt_of_lt_of_le (hfr10 k hk) hb.size); replace hfr12 : ∀ k ∈ addrBlock A12, k < _ := (fun k hk => Nat.lt_of_lt_of_le (hfr12 k hk) hb.size); replace hfr14 : ∀ k ∈ addrBlock A14, k < _ := (fun k hk => Nat.lt_of_lt_of_le (hfr14 k hk) hb.size); replace hcur := bthen hcur hb
            refine hK.out _ _ hcur (fun hHeld => ?_)
            clear hK K hHeld
            (try simp only [Act.put, List.setIfInBounds_toArray, List.set_cons_zero, List.set_cons_succ])
            refine wpAnyH_ready (rs := [7]) (by kernel_rfl) (by simp) ?_
            refine AllReadyH.cons (o := _) rfl (fun K hK => ?_) AllReadyH.nil
            go_simp; (with_reducible refine (addF F Bl15 (by repeat (first | exact List.mem_cons_self .. | apply List.mem_cons_of_mem)) (by repeat (first | exact List.mem_cons_self .. | apply List.mem_cons_of_mem)) (by omega)).mono ?_); rintro e wn ⟨vn, rfl, ⟨b16, A16, n16, c16, rfl, o, hf⟩, hb⟩; replace F := (F.below hb).cons o; have hne16_7 : ∀ k ∈ addrBlock A16, k ≠ g7 := (fun k hk e => by (have h1 := (hf k hk).1; have h2 := B7.lt; omega)); have hfr16 : ∀ k ∈ addrBlock A16, k < _ := (fun k hk => (hf k hk).2); clear hf; replace B7 := B7.below hb; replace Bl15 := Bl15.below hb; replace hfr10 : ∀ k ∈ addrBlock A10, k < _ := (fun k hk => Nat.lt_of_lt_of_le (hfr10 k hk) hb.size); replace hfr12 : ∀ k ∈ addrBlock A12, k < _ := (fun k hk => Nat.lt_of_lt_of_le (hfr12 k hk) hb.size); replace hfr14 : ∀ k ∈ addrBlock A14, k < _ := (fun k hk => Nat.lt_of_lt_of_le (hfr14 k hk) hb.size); replace hcur := bthen hcur hb; go_wp2_with fail
            refine hK.out _ _ hcur (fun hHeld => ?_)
            clear hK K hHeld
            (try simp only [Act.put, List.setIfInBounds_toArray, List.set_cons_zero, List.set_cons_succ])
            refine wpAnyH_ready (rs := [8]) (by kernel_rfl) (by simp) ?_
            refine AllReadyH.cons (o := _) rfl (fun K hK => ?_) AllReadyH.nil
            refine st_lit (v := fun g => .slice (some ⟨g, 0, none⟩) 2 2) 17 rfl (cs := [.bool b10, .slice A10 n10 c10, .bool b16, .slice A16 n16 c16]) (t := 26) (by go_simp; try rfl) ?_; intro g17 wn hb Bl17 hg17; replace F := F.below hb; replace B7 := B7.below hb; replace hfr10 : ∀ k ∈ addrBlock A10, k < _ := (fun k hk => Nat.lt_of_lt_of_le (hfr10 k hk) hb.size); replace hfr12 : ∀ k ∈ addrBlock A12, k < _ := (fun k hk => Nat.lt_of_lt_of_le (hfr12 k hk) hb.size); replace hfr14 : ∀ k ∈ addrBlock A14, k < _ := (fun k hk => Nat.lt_of_lt_of_le (hfr14 k hk) hb.size); replace hfr16 : ∀ k ∈ addrBlock A16, k < _ := (fun k hk => Nat.lt_of_lt_of_le (hfr16 k hk) hb.size); replace hcur := bthen hcur hb
            refine hK.out _ _ hcur (fun hHeld => ?_)
            clear hK K hHeld
            (try simp only [Act.put, List.setIfInBounds_toArray, List.set_cons_zero, List.set_cons_succ])
            refine wpAnyH_ready (rs := [9]) (by kernel_rfl) (by simp) ?_
            refine AllReadyH.cons (o := _) rfl (fun K hK => ?_) AllReadyH.nil
            go_simp; (with_reducible refine (mulF F Bl17 (by repeat (first | exact List.mem_cons_self .. | apply List.mem_cons_of_mem)) (by repeat (first | exact List.mem_cons_self .. | apply List.mem_cons_of_mem)) (by omega)).mono ?_); rintro e wn ⟨vn, rfl, ⟨b18, A18, n18, c18, rfl, o, hf⟩, hb⟩; replace F := (F.below hb).cons o; have hne18_7 : ∀ k ∈ addrBlock A18, k ≠ g7 := (fun k hk e => by (have h1 := (hf k hk).1; have h2 := B7.lt; omega)); have hfr18 : ∀ k ∈ addrBlock A18, k < _ := (fun k hk => (hf k hk).2); clear hf; replace B7 := B7.below hb; replace Bl17 := Bl17.below hb; replace hfr10 : ∀ k ∈ addrBlock A10, k < _ := (fun k hk => Nat.lt_of_lt_of_le (hfr10 k hk) hb.size); replace hfr12 : ∀ k ∈ addrBlock A12, k < _ := (fun k hk => Nat.lt_of_lt_of_le (hfr12 k hk) hb.size); replace hfr14 : ∀ k ∈ addrBlock A14, k < _ := (fun k hk => Nat.lt_of_lt_of_le (hfr14 k hk) hb.size); replace hfr16 : ∀ k ∈ addrBlock A16, k < _ := (fun k hk => Nat.lt_of_lt_of_le (hfr16 k hk) hb.size); replace hcur := bthen hcur hb; go_wp2_with fail
            refine hK.out _ _ hcur (fun hHeld => ?_)
            clear hK K hHeld
            (try simp only [Act.put, List.setIfInBounds_toArray, List.set_cons_zero, List.set_cons_succ])
            refine wpAnyH_ready (rs := [11]) (by kernel_rfl) (by simp) ?_
            refine AllReadyH.cons (o := _) rfl (fun K hK => ?_) AllReadyH.nil
            refine st_store rfl rfl B7 (news := [.bool b18, .slice A18 n18 c18]) (by rfl) infoNum (by simp) (by simp [Value.oneCell']) ?_; intro wn hon Bx; simp only [List.take_zero, List.nil_append, List.length_cons, List.length_nil, List.drop_succ_cons, List.drop_zero, List.append_nil, List.cons_append] at Bx; replace B7 := Bx; clear Bx; have oo7 : NR.Ok _ _ := (F.out _ (show (⟨b18, A18, n18, c18, _, _, _⟩ : NR) ∈ _ from (by repeat (first | exact List.mem_cons_self .. | apply List.mem_cons_of_mem)))).only hon hne18_7; have F1 := F; clear F; have F := F0.below (hcur.trans (hon.below hg7)); clear F1; replace hcur := hcur.trans (hon.below hg7); clear hon
            refine hK.out _ _ hcur (fun hHeld => ?_)
            clear hK K hHeld
            (try simp only [Act.put, List.setIfInBounds_toArray, List.set_cons_zero, List.set_cons_succ])
            refine wpAnyH_done (by kernel_rfl) ?_ _
            refine NoPanic.normal ?_
            obtain ⟨rfl⟩ := hQ7
            (go_wp2_with fail)
            go_meet
            exact ⟨g7, _, _, _, _, rfl, hcur, B7, (Fs.nil _).cons oo7⟩
          exact AllReadyH.nil
        refine AllReadyH.cons (o := _) rfl (fun K hK => ?_) ?_
        · refine st_alloc 7 rfl infoNum (cs := [.bool false, .slice none 0 0]) rfl ?_; intro g7 wn hb B7 hgn; have hne10_7 : ∀ k ∈ addrBlock A10, k ≠ g7 := (fun k hk e => by (have h1 := hfr10 k hk; omega)); have hne12_7 : ∀ k ∈ addrBlock A12, k ≠ g7 := (fun k hk e => by (have h1 := hfr12 k hk; omega)); have hg7 := Nat.le_trans hcur.size hgn; replace F := F.below hb; replace hfr10 : ∀ k ∈ addrBlock A10, k < _ := (fun k hk => Nat.lt_of_lt_of_le (hfr10 k hk) hb.size); replace hfr12 : ∀ k ∈ addrBlock A12, k < _ := (fun k hk => Nat.lt_of_lt_of_le (hfr12 k hk) hb.size); replace hcur := bthen hcur hb
          refine hK.out _ _ hcur (fun hHeld => ?_)
          clear hK K hHeld
          (try simp only [Act.put, List.setIfInBounds_toArray, List.set_cons_zero, List.set_cons_succ])
          refine wpAnyH_ready (rs := [5]) (by kernel_rfl) (by simp) ?_
          refine AllReadyH.cons (o := _) rfl (fun K hK => ?_) AllReadyH.nil
          go_simp; (with_reducible refine (cF F (by repeat (first | exact List.mem_cons_self .. | apply List.mem_cons_of_mem))).mono ?_); rintro e wn ⟨vn, rfl, ⟨b14, A14, n14, c14, rfl, o, hf⟩, hb⟩; replace F := (F.below hb).cons o; have hne14_7 : ∀ k ∈ addrBlock A14, k ≠ g7 := (fun k hk e => by (have h1 := (hf k hk).1; have h2 := B7.lt; omega)); have hfr14 : ∀ k ∈ addrBlock A14, k < _ := (fun k hk => (hf k hk).2); clear hf; replace B7 := B7.below hb; replace hfr10 : ∀ k ∈ addrBlock A10, k < _ := (fun k hk => Nat.lt_of_lt_of_le (hfr10 k hk) hb.size); replace hfr12 : ∀ k ∈ addrBlock A12, k < _ := (fun k hk => Nat.lt_of_lt_of_le (hfr12 k hk) hb.size); replace hcur := bthen hcur hb; go_wp2_with fail
          refine hK.out _ _ hcur (fun hHeld => ?_)
          clear hK K hHeld
          (try simp only [Act.put, List.setIfInBounds_toArray, List.set_cons_zero, List.set_cons_succ])
          refine wpAnyH_ready (rs := [6]) (by kernel_rfl) (by simp) ?_
          refine AllReadyH.cons (o := _) rfl (fun K hK => ?_) AllReadyH.nil
          refine st_lit (v := fun g => .slice (some ⟨g, 0, none⟩) 2 2) 15 rfl (cs := [.bool b12, .slice A12 n12 c12, .bool b14, .slice A14 n14 c14]) (t := 26) (by go_simp; try rfl) ?_; intro g15 wn hb Bl15 hg15; replace F := F.below hb; replace B7 := B7.below hb; replace hfr10 : ∀ k ∈ addrBlock A10, k < _ := (fun k hk => Nat.lt_of_lt_of_le (hfr10 k hk) hb.size); replace hfr12 : ∀ k ∈ addrBlock A12, k < _ := (fun k hk => Nat.lt_of_lt_of_le (hfr12 k hk) hb.size); replace hfr14 : ∀ k ∈ addrBlock A14, k < _ := (fun k hk => Nat.lt_of_lt_of_le (hfr14 k hk) hb.size); replace hcur := bthen hcur hb
          refine hK.out _ _ hcur (fun hHeld => ?_)
          clear hK K hHeld
          (try simp only [Act.put, List.setIfInBounds_toArray, List.set_cons_zero, List.set_cons_succ])
          refine wpAnyH_ready (rs := [7]) (by kernel_rfl) (by simp) ?_
          refine AllReadyH.cons (o := _) rfl (fun K hK => ?_) AllReadyH.nil
          go_simp; (with_reducible refine (addF F Bl15 (by repeat (first | exact List.mem_cons_self .. | apply List.mem_cons_of_mem)) (by repeat (first | exact List.mem_cons_self .. | apply List.mem_cons_of_mem)) (by omega)).mono ?_); rintro e wn ⟨vn, rfl, ⟨b16, A16, n16, c16, rfl, o, hf⟩, hb⟩; replace F := (F.below hb).cons o; have hne16_7 : ∀ k ∈ addrBlock A16, k ≠ g7 := (fun k hk e => by (have h1 := (hf k hk).1; have h2 := B7.lt; omega)); have hfr16 : ∀ k ∈ addrBlock A16, k < _ := (fun k hk => (hf k hk).2); clear hf; replace B7 := B7.below hb; replace Bl15 := Bl15.below hb; replace hfr10 : ∀ k ∈ addrBlock A10, k < _ := (fun k hk => Nat.lt_of_lt_of_le (hfr10 k hk) hb.size); replace hfr12 : ∀ k ∈ addrBlock A12, k < _ := (fun k hk => Nat.lt_of_lt_of_le (hfr12 k hk) hb.size); replace hfr14 : ∀ k ∈ addrBlock A14, k < _ := (fun k hk => Nat.lt_of_lt_of_le (hfr14 k hk) hb.size); replace hcur := bthen hcur hb; go_wp2_with fail
          refine hK.out _ _ hcur (fun hHeld => ?_)
          clear hK K hHeld
          (try simp only [Act.put, List.setIfInBounds_toArray, List.set_cons_zero, List.set_cons_succ])
          refine wpAnyH_ready (rs := [8]) (by kernel_rfl) (by simp) ?_
          refine AllReadyH.cons (o := _) rfl (fun K hK => ?_) AllReadyH.nil
          refine st_lit (v := fun g => .slice (some ⟨g, 0, none⟩) 2 2) 17 rfl (cs := [.bool b10, .slice A10 n10 c10, .bool b16, .slice A16 n16 c16]) (t := 26) (by go_simp; try rfl) ?_; intro g17 wn hb Bl17 hg17; replace F := F.below hb; replace B7 := B7.below hb; replace hfr10 : ∀ k ∈ addrBlock A10, k < _ := (fun k hk => Nat.lt_of_lt_of_le (hfr10 k hk) hb.size); replace hfr12 : ∀ k ∈ addrBlock A12, k < _ := (fun k hk => Nat.lt_of_lt_of_le (hfr12 k hk) hb.size); replace hfr14 : ∀ k ∈ addrBlock A14, k < _ := (fun k hk => Nat.lt_of_lt_of_le (hfr14 k hk) hb.size); replace hfr16 : ∀ k ∈ addrBlock A16, k < _ := (fun k hk => Nat.lt_of_lt_of_le (hfr16 k hk) hb.size); replace hcur := bthen hcur hb
          refine hK.out _ _ hcur (fun hHeld => ?_)
          clear hK K hHeld
          (try simp only [Act.put, List.setIfInBounds_toArray, List.set_cons_zero, List.set_cons_succ])
          refine wpAnyH_ready (rs := [9]) (by kernel_rfl) (by simp) ?_
          refine AllReadyH.cons (o := _) rfl (fun K hK => ?_) AllReadyH.nil
          go_simp; (with_reducible refine (mulF F Bl17 (by repeat (first | exact List.mem_cons_self .. | apply List.mem_cons_of_mem)) (by repeat (first | exact List.mem_cons_self .. | apply List.mem_cons_of_mem)) (by omega)).mono ?_); rintro e wn ⟨vn, rfl, ⟨b18, A18, n18, c18, rfl, o, hf⟩, hb⟩; replace F := (F.below hb).cons o; have hne18_7 : ∀ k ∈ addrBlock A18, k ≠ g7 := (fun k hk e => by (have h1 := (hf k hk).1; have h2 := B7.lt; omega)); have hfr18 : ∀ k ∈ addrBlock A18, k < _ := (fun k hk => (hf k hk).2); clear hf; replace B7 := B7.below hb; replace Bl17 := Bl17.below hb; replace hfr10 : ∀ k ∈ addrBlock A10, k < _ := (fun k hk => Nat.lt_of_lt_of_le (hfr10 k hk) hb.size); replace hfr12 : ∀ k ∈ addrBlock A12, k < _ := (fun k hk => Nat.lt_of_lt_of_le (hfr12 k hk) hb.size); replace hfr14 : ∀ k ∈ addrBlock A14, k < _ := (fun k hk => Nat.lt_of_lt_of_le (hfr14 k hk) hb.size); replace hfr16 : ∀ k ∈ addrBlock A16, k < _ := (fun k hk => Nat.lt_of_lt_of_le (hfr16 k hk) hb.size); replace hcur := bthen hcur hb; go_wp2_with fail
          refine hK.out _ _ hcur (fun hHeld => ?_)
          clear hK K hHeld
          (try simp only [Act.put, List.setIfInBounds_toArray, List.set_cons_zero, List.set_cons_succ])
          refine wpAnyH_ready (rs := [11]) (by kernel_rfl) (by simp) ?_
          refine AllReadyH.cons (o := _) rfl (fun K hK => ?_) AllReadyH.nil
          refine st_store rfl rfl B7 (news := [.bool b18, .slice A18 n18 c18]) (by rfl) infoNum (by simp) (by simp [Value.oneCell']) ?_; intro wn hon Bx; simp only [List.take_zero, List.nil_append, List.length_cons, List.length_nil, List.drop_succ_cons, List.drop_zero, List.append_nil, List.cons_append] at Bx; replace B7 := Bx; clear Bx; have oo7 : NR.Ok _ _ := (F.out _ (show (⟨b18, A18, n18, c18, _, _, _⟩ : NR) ∈ _ from (by repeat (first | exact List.mem_cons_self .. | apply List.mem_cons_of_mem)))).only hon hne18_7; have F1 := F; clear F; have F := F0.below (hcur.trans (hon.below hg7)); clear F1; replace hcur := hcur.trans (hon.below hg7); clear hon
          refine hK.out _ _ hcur (fun hHeld => ?_)
          clear hK K hHeld
          (try simp only [Act.put, List.setIfInBounds_toArray, List.set_cons_zero, List.set_cons_succ])
          refine wpAnyH_done (by kernel_rfl) ?_ _
          refine NoPanic.normal ?_
          obtain ⟨rfl⟩ := hQ7
          (go_wp2_with fail)
          go_meet
          exact ⟨g7, _, _, _, _, rfl, hcur, B7, (Fs.nil _).cons oo7⟩
        exact AllReadyH.nil
      refine AllReadyH.cons (o := _) rfl (fun K hK => ?_) ?_
      · refine st_alloc 7 rfl infoNum (cs := [.bool false, .slice none 0 0]) rfl ?_; intro g7 wn hb B7 hgn; have hne10_7 : ∀ k ∈ addrBlock A10, k ≠ g7 := (fun k hk e => by (have h1 := hfr10 k hk; omega)); have hg7 := Nat.le_trans hcur.size hgn; replace F := F.below hb; replace hfr10 : ∀ k ∈ addrBlock A10, k < _ := (fun k hk => Nat.lt_of_lt_of_le (hfr10 k hk) hb.size); replace hcur := bthen hcur hb
        refine hK.out _ _ hcur (fun hHeld => ?_)
        clear hK K hHeld
        (try simp only [Act.put, List.setIfInBounds_toArray, List.set_cons_zero, List.set_cons_succ])
        refine wpAnyH_ready (rs := [3]) (by kernel_rfl) (by simp) ?_
        refine AllReadyH.cons (o := _) rfl (fun K hK => ?_) AllReadyH.nil
        go_simp; (with_reducible refine (cF F (by repeat (first | exact List.mem_cons_self .. | apply List.mem_cons_of_mem))).mono ?_); rintro e wn ⟨vn, rfl, ⟨b12, A12, n12, c12, rfl, o, hf⟩, hb⟩; replace F := (F.below hb).cons o; have hne12_7 : ∀ k ∈ addrBlock A12, k ≠ g7 := (fun k hk e => by (have h1 := (hf k hk).1; have h2 := B7.lt; omega)); have hfr12 : ∀ k ∈ addrBlock A12, k < _ := (fun k hk => (hf k hk).2); clear hf; replace B7 := B7.below hb; replace hfr10 : ∀ k ∈ addrBlock A10, k < _ := (fun k hk => Nat.lt_of_lt_of_le (hfr10 k hk) hb.size); replace hcur := bthen hcur hb; go_wp2_with fail
        refine hK.out _ _ hcur (fun hHeld => ?_)
        clear hK K hHeld
        (try simp only [Act.put, List.setIfInBounds_toArray, List.set_cons_zero, List.set_cons_succ])
        refine wpAnyH_ready (rs := [5]) (by kernel_rfl) (by simp) ?_
        refine AllReadyH.cons (o := _) rfl (fun K hK => ?_) AllReadyH.nil
        go_simp; (with_reducible refine (cF F (by repeat (first | exact List.mem_cons_self .. | apply List.mem_cons_of_mem))).mono ?_); rintro e wn ⟨vn, rfl, ⟨b14, A14, n14, c14, rfl, o, hf⟩, hb⟩; replace F := (F.below hb).cons o; have hne14_7 : ∀ k ∈ addrBlock A14, k ≠ g7 := (fun k hk e => by (have h1 := (hf k hk).1; have h2 := B7.lt; omega)); have hfr14 : ∀ k ∈ addrBlock A14, k < _ := (fun k hk => (hf k hk).2); clear hf; replace B7 := B7.below hb; replace hfr10 : ∀ k ∈ addrBlock A10, k < _ := (fun k hk => Nat.lt_of_lt_of_le (hfr10 k hk) hb.size); replace hfr12 : ∀ k ∈ addrBlock A12, k < _ := (fun k hk => Nat.lt_of_lt_of_le (hfr12 k hk) hb.size); replace hcur := bthen hcur hb; go_wp2_with fail
        refine hK.out _ _ hcur (fun hHeld => ?_)
        clear hK K hHeld
        (try simp only [Act.put, List.setIfInBounds_toArray, List.set_cons_zero, List.set_cons_succ])
        refine wpAnyH_ready (rs := [6]) (by kernel_rfl) (by simp) ?_
        refine AllReadyH.cons (o := _) rfl (fun K hK => ?_) AllReadyH.nil
        refine st_lit (v := fun g => .slice (some ⟨g, 0, none⟩) 2 2) 15 rfl (cs := [.bool b12, .slice A12 n12 c12, .bool b14, .slice A14 n14 c14]) (t := 26) (by go_simp; try rfl) ?_; intro g15 wn hb Bl15 hg15; replace F := F.below hb; replace B7 := B7.below hb; replace hfr10 : ∀ k ∈ addrBlock A10, k < _ := (fun k hk => Nat.lt_of_lt_of_le (hfr10 k hk) hb.size); replace hfr12 : ∀ k ∈ addrBlock A12, k < _ := (fun k hk => Nat.lt_of_lt_of_le (hfr12 k hk) hb.size); replace hfr14 : ∀ k ∈ addrBlock A14, k < _ := (fun k hk => Nat.lt_of_lt_of_le (hfr14 k hk) hb.size); replace hcur := bthen hcur hb
        refine hK.out _ _ hcur (fun hHeld => ?_)
        clear hK K hHeld
        (try simp only [Act.put, List.setIfInBounds_toArray, List.set_cons_zero, List.set_cons_succ])
        refine wpAnyH_ready (rs := [7]) (by kernel_rfl) (by simp) ?_
        refine AllReadyH.cons (o := _) rfl (fun K hK => ?_) AllReadyH.nil
        go_simp; (with_reducible refine (addF F Bl15 (by repeat (first | exact List.mem_cons_self .. | apply List.mem_cons_of_mem)) (by repeat (first | exact List.mem_cons_self .. | apply List.mem_cons_of_mem)) (by omega)).mono ?_); rintro e wn ⟨vn, rfl, ⟨b16, A16, n16, c16, rfl, o, hf⟩, hb⟩; replace F := (F.below hb).cons o; have hne16_7 : ∀ k ∈ addrBlock A16, k ≠ g7 := (fun k hk e => by (have h1 := (hf k hk).1; have h2 := B7.lt; omega)); have hfr16 : ∀ k ∈ addrBlock A16, k < _ := (fun k hk => (hf k hk).2); clear hf; replace B7 := B7.below hb; replace Bl15 := Bl15.below hb; replace hfr10 : ∀ k ∈ addrBlock A10, k < _ := (fun k hk => Nat.lt_of_lt_of_le (hfr10 k hk) hb.size); replace hfr12 : ∀ k ∈ addrBlock A12, k < _ := (fun k hk => Nat.lt_of_lt_of_le (hfr12 k hk) hb.size); replace hfr14 : ∀ k ∈ addrBlock A14, k < _ := (fun k hk => Nat.lt_of_lt_of_le (hfr14 k hk) hb.size); replace hcur := bthen hcur hb; go_wp2_with fail
        refine hK.out _ _ hcur (fun hHeld => ?_)
        clear hK K hHeld
        (try simp only [Act.put, List.setIfInBounds_toArray, List.set_cons_zero, List.set_cons_succ])
        refine wpAnyH_ready (rs := [8]) (by kernel_rfl) (by simp) ?_
        refine AllReadyH.cons (o := _) rfl (fun K hK => ?_) AllReadyH.nil
        refine st_lit (v := fun g => .slice (some ⟨g, 0, none⟩) 2 2) 17 rfl (cs := [.bool b10, .slice A10 n10 c10, .bool b16, .slice A16 n16 c16]) (t := 26) (by go_simp; try rfl) ?_; intro g17 wn hb Bl17 hg17; replace F := F.below hb; replace B7 := B7.below hb; replace hfr10 : ∀ k ∈ addrBlock A10, k < _ := (fun k hk => Nat.lt_of_lt_of_le (hfr10 k hk) hb.size); replace hfr12 : ∀ k ∈ addrBlock A12, k < _ := (fun k hk => Nat.lt_of_lt_of_le (hfr12 k hk) hb.size); replace hfr14 : ∀ k ∈ addrBlock A14, k < _ := (fun k hk => Nat.lt_of_lt_of_le (hfr14 k hk) hb.size); replace hfr16 : ∀ k ∈ addrBlock A16, k < _ := (fun k hk => Nat.lt_of_lt_of_le (hfr16 k hk) hb.size); replace hcur := bthen hcur hb
        refine hK.out _ _ hcur (fun hHeld => ?_)
        clear hK K hHeld
        (try simp only [Act.put, List.setIfInBounds_toArray, List.set_cons_zero, List.set_cons_succ])
        refine wpAnyH_ready (rs := [9]) (by kernel_rfl) (by simp) ?_
        refine AllReadyH.cons (o := _) rfl (fun K hK => ?_) AllReadyH.nil
        go_simp; (with_reducible refine (mulF F Bl17 (by repeat (first | exact List.mem_cons_self .. | apply List.mem_cons_of_mem)) (by repeat (first | exact List.mem_cons_self .. | apply List.mem_cons_of_mem)) (by omega)).mono ?_); rintro e wn ⟨vn, rfl, ⟨b18, A18, n18, c18, rfl, o, hf⟩, hb⟩; replace F := (F.below hb).cons o; have hne18_7 : ∀ k ∈ addrBlock A18, k ≠ g7 := (fun k hk e => by (have h1 := (hf k hk).1; have h2 := B7.lt; omega)); have hfr18 : ∀ k ∈ addrBlock A18, k < _ := (fun k hk => (hf k hk).2); clear hf; replace B7 := B7.below hb; replace Bl17 := Bl17.below hb; replace hfr10 : ∀ k ∈ addrBlock A10, k < _ := (fun k hk => Nat.lt_of_lt_of_le (hfr10 k hk) hb.size); replace hfr12 : ∀ k ∈ addrBlock A12, k < _ := (fun k hk => Nat.lt_of_lt_of_le (hfr12 k hk) hb.size); replace hfr14 : ∀ k ∈ addrBlock A14, k < _ := (fun k hk => Nat.lt_of_lt_of_le (hfr14 k hk) hb.size); replace hfr16 : ∀ k ∈ addrBlock A16, k < _ := (fun k hk => Nat.lt_of_lt_of_le (hfr16 k hk) hb.size); replace hcur := bthen hcur hb; go_wp2_with fail
        refine hK.out _ _ hcur (fun hHeld => ?_)
        clear hK K hHeld
        (try simp only [Act.put, List.setIfInBounds_toArray, List.set_cons_zero, List.set_cons_succ])
        refine wpAnyH_ready (rs := [11]) (by kernel_rfl) (by simp) ?_
        refine AllReadyH.cons (o := _) rfl (fun K hK => ?_) AllReadyH.nil
        refine st_store rfl rfl B7 (news := [.bool b18, .slice A18 n18 c18]) (by rfl) infoNum (by simp) (by simp [Value.oneCell']) ?_; intro wn hon Bx; simp only [List.take_zero, List.nil_append, List.length_cons, List.length_nil, List.drop_succ_cons, List.drop_zero, List.append_nil, List.cons_append] at Bx; replace B7 := Bx; clear Bx; have oo7 : NR.Ok _ _ := (F.out _ (show (⟨b18, A18, n18, c18, _, _, _⟩ : NR) ∈ _ from (by repeat (first | exact List.mem_cons_self .. | apply List.mem_cons_of_mem)))).only hon hne18_7; have F1 := F; clear F; have F := F0.below (hcur.trans (hon.below hg7)); clear F1; replace hcur := hcur.trans (hon.below hg7); clear hon
        refine hK.out _ _ hcur (fun hHeld => ?_)
        clear hK K hHeld
        (try simp only [Act.put, List.setIfInBounds_toArray, List.set_cons_zero, List.set_cons_succ])
        refine wpAnyH_done (by kernel_rfl) ?_ _
        refine NoPanic.normal ?_
        obtain ⟨rfl⟩ := hQ7
        (go_wp2_with fail)
        go_meet
        exact ⟨g7, _, _, _, _, rfl, hcur, B7, (Fs.nil _).cons oo7⟩
      exact AllReadyH.nil
    refine AllReadyH.cons (o := _) rfl (fun K hK => ?_) ?_
    · refine st_alloc 7 rfl infoNum (cs := [.bool false, .slice none 0 0]) rfl ?_; intro g7 wn hb B7 hgn; have hg7 := Nat.le_trans hcur.size hgn; replace F := F.below hb; replace hcur := bthen hcur hb
      refine hK.out _ _ hcur (fun hHeld => ?_)
      clear hK K hHeld
      (try simp only [Act.put, List.setIfInBounds_toArray, List.set_cons_zero, List.set_cons_succ])
      refine wpAnyH_ready (rs := [1]) (by kernel_rfl) (by simp) ?_
      refine AllReadyH.cons (o := _) rfl (fun K hK => ?_) AllReadyH.nil
      go_simp; (with_reducible refine (cF F (by repeat (first | exact List.mem_cons_self .. | apply List.mem_cons_of_mem))).mono ?_); rintro e wn ⟨vn, rfl, ⟨b10, A10, n10, c10, rfl, o, hf⟩, hb⟩; replace F := (F.below hb).cons o; have hne10_7 : ∀ k ∈ addrBlock A10, k ≠ g7 := (fun k hk e => by (have h1 := (hf k hk).1; have h2 := B7.lt; omega)); have hfr10 : ∀ k ∈ addrBlock A10, k < _ := (fun k hk => (hf k hk).2); clear hf; replace B7 := B7.below hb; replace hcur := bthen hcur hb; go_wp2_with fail
      refine hK.out _ _ hcur (fun hHeld => ?_)
      clear hK K hHeld
      (try simp only [Act.put, List.setIfInBounds_toArray, List.set_cons_zero, List.set_cons_succ])
      refine wpAnyH_ready (rs := [3]) (by kernel_rfl) (by simp) ?_
      refine AllReadyH.cons (o := _) rfl (fun K hK => ?_) AllReadyH.nil
      go_simp; (with_reducible refine (cF F (by repeat (first | exact List.mem_cons_self .. | apply List.mem_cons_of_mem))).mono ?_); rintro e wn ⟨vn, rfl, ⟨b12, A12, n12, c12, rfl, o, hf⟩, hb⟩; replace F := (F.below hb).cons o; have hne12_7 : ∀ k ∈ addrBlock A12, k ≠ g7 := (fun k hk e => by (have h1 := (hf k hk).1; have h2 := B7.lt; omega)); have hfr12 : ∀ k ∈ addrBlock A12, k < _ := (fun k hk => (hf k hk).2); clear hf; replace B7 := B7.below hb; replace hfr10 : ∀ k ∈ addrBlock A10, k < _ := (fun k hk => Nat.lt_of_lt_of_le (hfr10 k hk) hb.size); replace hcur := bthen hcur hb; go_wp2_with fail
      refine hK.out _ _ hcur (fun hHeld => ?_)
      clear hK K hHeld
      (try simp only [Act.put, List.setIfInBounds_toArray, List.set_cons_zero, List.set_cons_succ])
      refine wpAnyH_ready (rs := [5]) (by kernel_rfl) (by simp) ?_
      refine AllReadyH.cons (o := _) rfl (fun K hK => ?_) AllReadyH.nil
      go_simp; (with_reducible refine (cF F (by repeat (first | exact List.mem_cons_self .. | apply List.mem_cons_of_mem))).mono ?_); rintro e wn ⟨vn, rfl, ⟨b14, A14, n14, c14, rfl, o, hf⟩, hb⟩; replace F := (F.below hb).cons o; have hne14_7 : ∀ k ∈ addrBlock A14, k ≠ g7 := (fun k hk e => by (have h1 := (hf k hk).1; have h2 := B7.lt; omega)); have hfr14 : ∀ k ∈ addrBlock A14, k < _ := (fun k hk => (hf k hk).2); clear hf; replace B7 := B7.below hb; replace hfr10 : ∀ k ∈ addrBlock A10, k < _ := (fun k hk => Nat.lt_of_lt_of_le (hfr10 k hk) hb.size); replace hfr12 : ∀ k ∈ addrBlock A12, k < _ := (fun k hk => Nat.lt_of_lt_of_le (hfr12 k hk) hb.size); replace hcur := bthen hcur hb; go_wp2_with fail
      refine hK.out _ _ hcur (fun hHeld => ?_)
      clear hK K hHeld
      (try simp only [Act.put, List.setIfInBounds_toArray, List.set_cons_zero, List.set_cons_succ])
      refine wpAnyH_ready (rs := [6]) (by kernel_rfl) (by simp) ?_
      refine AllReadyH.cons (o := _) rfl (fun K hK => ?_) AllReadyH.nil
      refine st_lit (v := fun g => .slice (some ⟨g, 0, none⟩) 2 2) 15 rfl (cs := [.bool b12, .slice A12 n12 c12, .bool b14, .slice A14 n14 c14]) (t := 26) (by go_simp; try rfl) ?_; intro g15 wn hb Bl15 hg15; replace F := F.below hb; replace B7 := B7.below hb; replace hfr10 : ∀ k ∈ addrBlock A10, k < _ := (fun k hk => Nat.lt_of_lt_of_le (hfr10 k hk) hb.size); replace hfr12 : ∀ k ∈ addrBlock A12, k < _ := (fun k hk => Nat.lt_of_lt_of_le (hfr12 k hk) hb.size); replace hfr14 : ∀ k ∈ addrBlock A14, k < _ := (fun k hk => Nat.lt_of_lt_of_le (hfr14 k hk) hb.size); replace hcur := bthen hcur hb
      refine hK.out _ _ hcur (fun hHeld => ?_)
      clear hK K hHeld
      (try simp only [Act.put, List.setIfInBounds_toArray, List.set_cons_zero, List.set_cons_succ])
      refine wpAnyH_ready (rs := [7]) (by kernel_rfl) (by simp) ?_
      refine AllReadyH.cons (o := _) rfl (fun K hK => ?_) AllReadyH.nil
      go_simp; (with_reducible refine (addF F Bl15 (by repeat (first | exact List.mem_cons_self .. | apply List.mem_cons_of_mem)) (by repeat (first | exact List.mem_cons_self .. | apply List.mem_cons_of_mem)) (by omega)).mono ?_); rintro e wn ⟨vn, rfl, ⟨b16, A16, n16, c16, rfl, o, hf⟩, hb⟩; replace F := (F.below hb).cons o; have hne16_7 : ∀ k ∈ addrBlock A16, k ≠ g7 := (fun k hk e => by (have h1 := (hf k hk).1; have h2 := B7.lt; omega)); have hfr16 : ∀ k ∈ addrBlock A16, k < _ := (fun k hk => (hf k hk).2); clear hf; replace B7 := B7.below hb; replace Bl15 := Bl15.below hb; replace hfr10 : ∀ k ∈ addrBlock A10, k < _ := (fun k hk => Nat.lt_of_lt_of_le (hfr10 k hk) hb.size); replace hfr12 : ∀ k ∈ addrBlock A12, k < _ := (fun k hk => Nat.lt_of_lt_of_le (hfr12 k hk) hb.size); replace hfr14 : ∀ k ∈ addrBlock A14, k < _ := (fun k hk => Nat.lt_of_lt_of_le (hfr14 k hk) hb.size); replace hcur := bthen hcur hb; go_wp2_with fail
      refine hK.out _ _ hcur (fun hHeld => ?_)
      clear hK K hHeld
      (try simp only [Act.put, List.setIfInBounds_toArray, List.set_cons_zero, List.set_cons_succ])
      refine wpAnyH_ready (rs := [8]) (by kernel_rfl) (by simp) ?_
      refine AllReadyH.cons (o := _) rfl (fun K hK => ?_) AllReadyH.nil
      refine st_lit (v := fun g => .slice (some ⟨g, 0, none⟩) 2 2) 17 rfl (cs := [.bool b10, .slice A10 n10 c10, .bool b16, .slice A16 n16 c16]) (t := 26) (by go_simp; try rfl) ?_; intro g17 wn hb Bl17 hg17; replace F := F.below hb; replace B7 := B7.below hb; replace hfr10 : ∀ k ∈ addrBlock A10, k < _ := (fun k hk => Nat.lt_of_lt_of_le (hfr10 k hk) hb.size); replace hfr12 : ∀ k ∈ addrBlock A12, k < _ := (fun k hk => Nat.lt_of_lt_of_le (hfr12 k hk) hb.size); replace hfr14 : ∀ k ∈ addrBlock A14, k < _ := (fun k hk => Nat.lt_of_lt_of_le (hfr14 k hk) hb.size); replace hfr16 : ∀ k ∈ addrBlock A16, k < _ := (fun k hk => Nat.lt_of_lt_of_le (hfr16 k hk) hb.size); replace hcur := bthen hcur hb
      refine hK.out _ _ hcur (fun hHeld => ?_)
      clear hK K hHeld
      (try simp only [Act.put, List.setIfInBounds_toArray, List.set_cons_zero, List.set_cons_succ])
      refine wpAnyH_ready (rs := [9]) (by kernel_rfl) (by simp) ?_
      refine AllReadyH.cons (o := _) rfl (fun K hK => ?_) AllReadyH.nil
      go_simp; (with_reducible refine (mulF F Bl17 (by repeat (first | exact List.mem_cons_self .. | apply List.mem_cons_of_mem)) (by repeat (first | exact List.mem_cons_self .. | apply List.mem_cons_of_mem)) (by omega)).mono ?_); rintro e wn ⟨vn, rfl, ⟨b18, A18, n18, c18, rfl, o, hf⟩, hb⟩; replace F := (F.below hb).cons o; have hne18_7 : ∀ k ∈ addrBlock A18, k ≠ g7 := (fun k hk e => by (have h1 := (hf k hk).1; have h2 := B7.lt; omega)); have hfr18 : ∀ k ∈ addrBlock A18, k < _ := (fun k hk => (hf k hk).2); clear hf; replace B7 := B7.below hb; replace Bl17 := Bl17.below hb; replace hfr10 : ∀ k ∈ addrBlock A10, k < _ := (fun k hk => Nat.lt_of_lt_of_le (hfr10 k hk) hb.size); replace hfr12 : ∀ k ∈ addrBlock A12, k < _ := (fun k hk => Nat.lt_of_lt_of_le (hfr12 k hk) hb.size); replace hfr14 : ∀ k ∈ addrBlock A14, k < _ := (fun k hk => Nat.lt_of_lt_of_le (hfr14 k hk) hb.size); replace hfr16 : ∀ k ∈ addrBlock A16, k < _ := (fun k hk => Nat.lt_of_lt_of_le (hfr16 k hk) hb.size); replace hcur := bthen hcur hb; go_wp2_with fail
      refine hK.out _ _ hcur (fun hHeld => ?_)
      clear hK K hHeld
      (try simp only [Act.put, List.setIfInBounds_toArray, List.set_cons_zero, List.set_cons_succ])
      refine wpAnyH_ready (rs := [11]) (by kernel_rfl) (by simp) ?_
      refine AllReadyH.cons (o := _) rfl (fun K hK => ?_) AllReadyH.nil
      refine st_store rfl rfl B7 (news := [.bool b18, .slice A18 n18 c18]) (by rfl) infoNum (by simp) (by simp [Value.oneCell']) ?_; intro wn hon Bx; simp only [List.take_zero, List.nil_append, List.length_cons, List.length_nil, List.drop_succ_cons, List.drop_zero, List.append_nil, List.cons_append] at Bx; replace B7 := Bx; clear Bx; have oo7 : NR.Ok _ _ := (F.out _ (show (⟨b18, A18, n18, c18, _, _, _⟩ : NR) ∈ _ from (by repeat (first | exact List.mem_cons_self .. | apply List.mem_cons_of_mem)))).only hon hne18_7; have F1 := F; clear F; have F := F0.below (hcur.trans (hon.below hg7)); clear F1; replace hcur := hcur.trans (hon.below hg7); clear hon
      refine hK.out _ _ hcur (fun hHeld => ?_)
      clear hK K hHeld
      (try simp only [Act.put, List.setIfInBounds_toArray, List.set_cons_zero, List.set_cons_succ])
      refine wpAnyH_done (by kernel_rfl) ?_ _
      refine NoPanic.normal ?_
      obtain ⟨rfl⟩ := hQ7
      (go_wp2_with fail)
      go_meet
      exact ⟨g7, _, _, _, _, rfl, hcur, B7, (Fs.nil _).cons oo7⟩
    exact AllReadyH.nil
  case rest =>
    obtain ⟨g7, b7x, A7x, n7x, c7x, rfl, hbx, B7, Fx⟩ := hcut
    replace F0 := (F0.below hbx).cons (Fx.out _ (List.mem_cons_self ..))
    replace B3 := B3.below hbx
    replace B4 := B4.below hbx
    replace B5 := B5.below hbx
    replace hbt := bthen hbt hbx
    clear hbx Fx
    (go_wp2_with fail)
    go_cut [8] (fun s8 wx => ∃ (g8 : Nat) (bx : Bool) (Ax : Option Addr) (nx cx : Nat), s8 = .pointer (some ⟨g8, 0, none⟩) ∧ Below wc.heap.size wc wx ∧ Blk wx g8 [.bool bx, .slice Ax nx cx] 26 ∧ Fs wx [⟨bx, Ax, nx, cx, z1 * z2 + z1 * z3, k1 + k2 + (k1 + k3) + 1, true⟩])
    case first =>
      have hcur := (Below.refl wc.heap.size wc).drew
      have F := F0.below hcur
      refine wp_gen2 (fun Q7 hQ7 => ?_)
      refine wp_region_held_drew (S := fun W => Below wc.heap.size wc W) (by kernel_rfl) hcur (fun hHeld => ?_)
      clear hHeld
      refine wpAnyH_take (i := 0) (oi := _) (v := .agg #[.bool n1, .slice A1 k1 c1]) rfl (by kernel_rfl) (by kernel_rfl) (by kernel_rfl) (fun _ _ _ h => h) (Or.inl ⟨by kernel_rfl, fun W hSw => by have Cb := (B3.below hSw).cells; ((try dsimp only at hSw); go_simp; try (with_reducible rfl))⟩) hcur ?_
      (try simp only [Act.put, List.setIfInBounds_toArray, List.set_cons_zero, List.set_cons_succ])
      refine wpAnyH_take (i := 2) (oi := _) (v := .agg #[.bool n2, .slice A2 k2 c2]) rfl (by kernel_rfl) (by kernel_rfl) (by kernel_rfl) (fun _ _ _ h => h) (Or.inl ⟨by kernel_rfl, fun W hSw => by have Cb := (B4.below hSw).cells; ((try dsimp only at hSw); go_simp; try (with_reducible rfl))⟩) hcur ?_
      (try simp only [Act.put, List.setIfInBounds_toArray, List.set_cons_zero, List.set_cons_succ])
      refine wpAnyH_take (i := 6) (oi := _) (v := .agg #[.bool n1, .slice A1 k1 c1]) rfl (by kernel_rfl) (by kernel_rfl) (by kernel_rfl) (fun _ _ _ h => h) (Or.inl ⟨by kernel_rfl, fun W hSw => by have Cb := (B3.below hSw).cells; ((try dsimp only at hSw); go_simp; try (with_reducible rfl))⟩) hcur ?_
      (try simp only [Act.put, List.setIfInBounds_toArray, List.set_cons_zero, List.set_cons_succ])
      refine wpAnyH_take (i := 8) (oi := _) (v := .agg #[.bool n3, .slice A3 k3 c3]) rfl (by kernel_rfl) (by kernel_rfl) (by kernel_rfl) (fun _ _ _ h => h) (Or.inl ⟨by kernel_rfl, fun W hSw => by have Cb := (B5.below hSw).cells; ((try dsimp only at hSw); go_simp; try (with_reducible rfl))⟩) hcur ?_
      (try simp only [Act.put, List.setIfInBounds_toArray, List.set_cons_zero, List.set_cons_succ])
      refine wpAnyH_ready (rs := [1, 14]) (by kernel_rfl) (by simp) ?_
      refine AllReadyH.cons (o := _) rfl (fun K hK => ?_) ?_
      · go_simp; (with_reducible refine (cF F (by repeat (first | exact List.mem_cons_self .. | apply List.mem_cons_of_mem))).mono ?_); rintro e wn ⟨vn, rfl, ⟨b20, A20, n20, c20, rfl, o, hf⟩, hb⟩; replace F := (F.below hb).cons o; have hfr20 : ∀ k ∈ addrBlock A20, k < _ := (fun k hk => (hf k hk).2); clear hf; replace hcur := bthen hcur hb; go_wp2_with fail
        refine hK.out _ _ hcur (fun hHeld => ?_)
        clear hK K hHeld
        (try simp only [Act.put, List.setIfInBounds_toArray, List.set_cons_zero, List.set_cons_succ])
        refine wpAnyH_ready (rs := [3, 14]) (by kernel_rfl) (by simp) ?_
        refine AllReadyH.cons (o := _) rfl (fun K hK => ?_) ?_
        · go_simp; (with_reducible refine (cF F (by repeat (first | exact List.mem_cons_self .. | apply List.mem_cons_of_mem))).mono ?_); rintro e wn ⟨vn, rfl, ⟨b22, A22, n22, c22, rfl, o, hf⟩, hb⟩; replace F := (F.below hb).cons o; have hfr22 : ∀ k ∈ addrBlock A22, k < _ := (fun k hk => (hf k hk).2); clear hf; replace hfr20 : ∀ k ∈ addrBlock A20, k < _ := (fun k hk => Nat.lt_of_lt_of_le (hfr20 k hk) hb.size); replace hcur := bthen hcur hb; go_wp2_with fail
          refine hK.out _ _ hcur (fun hHeld => ?_)
          clear hK K hHeld
          (try simp only [Act.put, List.setIfInBounds_toArray, List.set_cons_zero, List.set_cons_succ])
          refine wpAnyH_ready (rs := [4, 14]) (by kernel_rfl) (by simp) ?_
          refine AllReadyH.cons (o := _) rfl (fun K hK => ?_) ?_
          · refine st_lit (v := fun g => .slice (some ⟨g, 0, none⟩) 2 2) 23 rfl (cs := [.bool b20, .slice A20 n20 c20, .bool b22, .slice A22 n22 c22]) (t := 26) (by go_simp; try rfl) ?_; intro g23 wn hb Bl23 hg23; replace F := F.below hb; replace hfr20 : ∀ k ∈ addrBlock A20, k < _ := (fun k hk => Nat.lt_of_lt_of_le (hfr20 k hk) hb.size); replace hfr22 : ∀ k ∈ addrBlock A22, k < _ := (fun k hk => Nat.lt_of_lt_of_le (hfr22 k hk) hb.size); replace hcur := bthen hcur hb
            refine hK.out _ _ hcur (fun hHeld => ?_)
            clear hK K hHeld
            (try simp only [Act.put, List.setIfInBounds_toArray, List.set_cons_zero, List.set_cons_succ])
            refine wpAnyH_ready (rs := [5, 14]) (by kernel_rfl) (by simp) ?_
            refine AllReadyH.cons (o := _) rfl (fun K hK => ?_) ?_
            · go_simp; (with_reducible refine (mulF F Bl23 (by repeat (first | exact List.mem_cons_self .. | apply List.mem_cons_of_mem)) (by repeat (first | exact List.mem_cons_self .. | apply List.mem_cons_of_mem)) (by omega)).mono ?_); rintro e wn ⟨vn, rfl, ⟨b24, A24, n24, c24, rfl, o, hf⟩, hb⟩; replace F := (F.below hb).cons o; have hfr24 : ∀ k ∈ addrBlock A24, k < _ := (fun k hk => (hf k hk).2); clear hf; replace Bl23 := Bl23.below hb; replace hfr20 : ∀ k ∈ addrBlock A20, k < _ := (fun k hk => Nat.lt_of_lt_of_le (hfr20 k hk) hb.size); replace hfr22 : ∀ k ∈ addrBlock A22, k < _ := (fun k hk => Nat.lt_of_lt_of_le (hfr22 k hk) hb.size); replace hcur := bthen hcur hb; go_wp2_with fail
              refine hK.out _ _ hcur (fun hHeld => ?_)
              clear hK K hHeld
              (try simp only [Act.put, List.setIfInBounds_toArray, List.set_cons_zero, List.set_cons_succ])
              refine wpAnyH_ready (rs := [7, 14]) (by kernel_rfl) (by simp) ?_
              refine AllReadyH.cons (o := _) rfl (fun K hK => ?_) ?_
              · go_simp; (with_reducible refine (cF F (by repeat (first | exact List.mem_cons_self .. | apply List.mem_cons_of_mem))).mono ?_); rintro e wn ⟨vn, rfl, ⟨b26, A26, n26, c26, rfl, o, hf⟩, hb⟩; replace F := (F.below hb).cons o; have hfr26 : ∀ k ∈ addrBlock A26, k < _ := (fun k hk => (hf k hk).2); clear hf; replace hfr20 : ∀ k ∈ addrBlock A20, k < _ := (fun k hk => Nat.lt_of_lt_of_le (hfr20 k hk) hb.size); replace hfr22 : ∀ k ∈ addrBlock A22, k < _ := (fun k hk => Nat.lt_of_lt_of_le (hfr22 k hk) hb.size); replace hfr24 : ∀ k ∈ addrBlock A24, k < _ := (fun k hk => Nat.lt_of_lt_of_le (hfr24 k hk) hb.size); replace hcur := bthen hcur hb; go_wp2_with fail
                refine hK.out _ _ hcur (fun hHeld => ?_)
                clear hK K hHeld
                (try simp only [Act.put, List.setIfInBounds_toArray, List.set_cons_zero, List.set_cons_succ])
                refine wpAnyH_ready (rs := [9, 14]) (by kernel_rfl) (by simp) ?_
                refine AllReadyH.cons (o := _) rfl (fun K hK => ?_) ?_
                · go_simp; (with_reducible refine (cF F (by repeat (first | exact List.mem_cons_self .. | apply List.mem_cons_of_mem))).mono ?_); rintro e wn ⟨vn, rfl, ⟨b28, A28, n28, c28, rfl, o, hf⟩, hb⟩; replace F := (F.below hb).cons o; have hfr28 : ∀ k ∈ addrBlock A28, k < _ := (fun k hk => (hf k hk).2); clear hf; replace hfr20 : ∀ k ∈ addrBlock A20, k < _ := (fun k hk => Nat.lt_of_lt_of_le (hfr20 k hk) hb.size); replace hfr22 : ∀ k ∈ addrBlock A22, k < _ := (fun k hk => Nat.lt_of_lt_of_le (hfr22 k hk) hb.size); replace hfr24 : ∀ k ∈ addrBlock A24, k < _ := (fun k hk => Nat.lt_of_lt_of_le (hfr24 k hk) hb.size); replace hfr26 : ∀ k ∈ addrBlock A26, k < _ := (fun k hk => Nat.lt_of_lt_of_le (hfr26 k hk) hb.size); replace hcur := bthen hcur hb; go_wp2_with fail
                  refine hK.out _ _ hcur (fun hHeld => ?_)
                  clear hK K hHeld
                  (try simp only [Act.put, List.setIfInBounds_toArray, List.set_cons_zero, List.set_cons_succ])
                  refine wpAnyH_ready (rs := [10, 14]) (by kernel_rfl) (by simp) ?_
                  refine AllReadyH.cons (o := _) rfl (fun K hK => ?_) ?_
                  · refine st_lit (v := fun g => .slice (some ⟨g, 0, none⟩) 2 2) 29 rfl (cs := [.bool b26, .slice A26 n26 c26, .bool b28, .slice A28 n28 c28]) (t := 26) (by go_simp; try rfl) ?_; intro g29 wn hb Bl29 hg29; replace F := F.below hb; replace hfr20 : ∀ k ∈ addrBlock A20, k < _ := (fun k hk => Nat.lt_of_lt_of_le (hfr20 k hk) hb.size); replace hfr22 : ∀ k ∈ addrBlock A22, k < _ := (fun k hk => Nat.lt_of_lt_of_le (hfr22 k hk) hb.size); replace hfr24 : ∀ k ∈ addrBlock A24, k < _ := (fun k hk => Nat.lt_of_lt_of_le (hfr24 k hk) hb.size); replace hfr26 : ∀ k ∈ addrBlock A26, k < _ := (fun k hk => Nat.lt_of_lt_of_le (hfr26 k hk) hb.size); replace hfr28 : ∀ k ∈ addrBlock A28, k < _ := (fun k hk => Nat.lt_of_lt_of_le (hfr28 k hk) hb.size); replace hcur := bthen hcur hb
                    refine hK.out _ _ hcur (fun hHeld => ?_)
                    clear hK K hHeld
                    (try simp only [Act.put, List.setIfInBounds_toArray, List.set_cons_zero, List.set_cons_succ])
                    refine wpAnyH_ready (rs := [11, 14]) (by kernel_rfl) (by simp) ?_
                    refine AllReadyH.cons (o := _) rfl (fun K hK => ?_) ?_
                    · go_simp; (with_reducible refine (mulF F Bl29 (by repeat (first | exact List.mem_cons_self .. | apply List.mem_cons_of_mem)) (by repeat (first | exact List.mem_cons_self .. | apply List.mem_cons_of_mem)) (by omega)).mono ?_); rintro e wn ⟨vn, rfl, ⟨b30, A30, n30, c30, rfl, o, hf⟩, hb⟩; replace F := (F.below hb).cons o; have hfr30 : ∀ k ∈ addrBlock A30, k < _ := (fun k hk => (hf k hk).2); clear hf; replace Bl29 := Bl29.below hb; replace hfr20 : ∀ k ∈ addrBlock A20, k < _ := (fun k hk => Nat.lt_of_lt_of_le (hfr20 k hk) hb.size); replace hfr22 : ∀ k ∈ addrBlock A22, k < _ := (fun k hk => Nat.lt_of_lt_of_le (hfr22 k hk) hb.size); replace hfr24 : ∀ k ∈ addrBlock A24, k < _ := (fun k hk => Nat.lt_of_lt_of_le (hfr24 k hk) hb.size); replace hfr26 : ∀ k ∈ addrBlock A26, k < _ := (fun k hk => Nat.lt_of_lt_of_le (hfr26 k hk) hb.size); replace hfr28 : ∀ k ∈ addrBlock A28, k < _ := (fun k hk => Nat.lt_of_lt_of_le (hfr28 k hk) hb.size); replace hcur := bthen hcur hb; go_wp2_with fail
                      refine hK.out _ _ hcur (fun hHeld => ?_)
                      clear hK K hHeld
                      (try simp only [Act.put, List.setIfInBounds_toArray, List.set_cons_zero, List.set_cons_succ])
                      refine wpAnyH_ready (rs := [12, 14]) (by kernel_rfl) (by simp) ?_
                      refine AllReadyH.cons (o := _) rfl (fun K hK => ?_) ?_
                      · refine st_lit (v := fun g => .slice (some ⟨g, 0, none⟩) 2 2) 31 rfl (cs := [.bool b24, .slice A24 n24 c24, .bool b30, .slice A30 n30 c30]) (t := 26) (by go_simp; try rfl) ?_; intro g31 wn hb Bl31 hg31; replace F := F.below hb; replace hfr20 : ∀ k ∈ addrBlock A20, k < _ := (fun k hk => Nat.lt_of_lt_of_le (hfr20 k hk) hb.size); replace hfr22 : ∀ k ∈ addrBlock A22, k < _ := (fun k hk => Nat.lt_of_lt_of_le (hfr22 k hk) hb.size); replace hfr24 : ∀ k ∈ addrBlock A24, k < _ := (fun k hk => Nat.lt_of_lt_of_le (hfr24 k hk) hb.size); replace hfr26 : ∀ k ∈ addrBlock A26, k < _ := (fun k hk => Nat.lt_of_lt_of_le (hfr26 k hk) hb.size); replace hfr28 : ∀ k ∈ addrBlock A28, k < _ := (fun k hk => Nat.lt_of_lt_of_le (hfr28 k hk) hb.size); replace hfr30 : ∀ k ∈ addrBlock A30, k < _ := (fun k hk => Nat.lt_of_lt_of_le (hfr30 k hk) hb.size); replace hcur := bthen hcur hb
                        refine hK.out _ _ hcur (fun hHeld => ?_)
                        clear hK K hHeld
                        (try simp only [Act.put, List.setIfInBounds_toArray, List.set_cons_zero, List.set_cons_succ])
                        refine wpAnyH_ready (rs := [13, 14]) (by kernel_rfl) (by simp) ?_
                        refine AllReadyH.cons (o := _) rfl (fun K hK => ?_) ?_
                        · go_simp; (with_reducible refine (addF F Bl31 (by repeat (first | exact List.mem_cons_self .. | apply List.mem_cons_of_mem)) (by repeat (first | exact List.mem_cons_self .. | apply List.mem_cons_of_mem)) (by omega)).mono ?_); rintro e wn ⟨vn, rfl, ⟨b32, A32, n32, c32, rfl, o, hf⟩, hb⟩; replace F := (F.below hb).cons o; have hfr32 : ∀ k ∈ addrBlock A32, k < _ := (fun k hk => (hf k hk).2); clear hf; replace Bl31 := Bl31.below hb; replace hfr20 : ∀ k ∈ addrBlock A20, k < _ := (fun k hk => Nat.lt_of_lt_of_le (hfr20 k hk) hb.size); replace hfr22 : ∀ k ∈ addrBlock A22, k < _ := (fun k hk => Nat.lt_of_lt_of_le (hfr22 k hk) hb.size); replace hfr24 : ∀ k ∈ addrBlock A24, k < _ := (fun k hk => Nat.lt_of_lt_of_le (hfr24 k hk) hb.size); replace hfr26 : ∀ k ∈ addrBlock A26, k < _ := (fun k hk => Nat.lt_of_lt_of_le (hfr26 k hk) hb.size); replace hfr28 : ∀ k ∈ addrBlock A28, k < _ := (fun k hk => Nat.lt_of_lt_of_le (hfr28 k hk) hb.size); replace hfr30 : ∀ k ∈ addrBlock A30, k < _ := (fun k hk => Nat.lt_of_lt_of_le (hfr30 k hk) hb.size); replace hcur := bthen hcur hb; go_wp2_with fail
                          refine hK.out _ _ hcur (fun hHeld => ?_)
                          clear hK K hHeld
                          (try simp only [Act.put, List.setIfInBounds_toArray, List.set_cons_zero, List.set_cons_succ])
                          refine wpAnyH_ready (rs := [14]) (by kernel_rfl) (by simp) ?_
                          refine AllReadyH.cons (o := _) rfl (fun K hK => ?_) AllReadyH.nil
                          refine st_alloc 8 rfl infoNum (cs := [.bool false, .slice none 0 0]) rfl ?_; intro g8 wn hb B8 hgn; have hne20_8 : ∀ k ∈ addrBlock A20, k ≠ g8 := (fun k hk e => by (have h1 := hfr20 k hk; omega)); have hne22_8 : ∀ k ∈ addrBlock A22, k ≠ g8 := (fun k hk e => by (have h1 := hfr22 k hk; omega)); have hne24_8 : ∀ k ∈ addrBlock A24, k ≠ g8 := (fun k hk e => by (have h1 := hfr24 k hk; omega)); have hne26_8 : ∀ k ∈ addrBlock A26, k ≠ g8 := (fun k hk e => by (have h1 := hfr26 k hk; omega)); have hne28_8 : ∀ k ∈ addrBlock A28, k ≠ g8 := (fun k hk e => by (have h1 := hfr28 k hk; omega)); have hne30_8 : ∀ k ∈ addrBlock A30, k ≠ g8 := (fun k hk e => by (have h1 := hfr30 k hk; omega)); have hne32_8 : ∀ k ∈ addrBlock A32, k ≠ g8 := (fun k hk e => by (have h1 := hfr32 k hk; omega)); have hg8 := Nat.le_trans hcur.size hgn; replace F := F.below hb; replace hfr20 : ∀ k ∈ addrBlock A20, k < _ := (fun k hk => Nat.lt_of_lt_of_le (hfr20 k hk) hb.size); replace hfr22 : ∀ k ∈ addrBlock A22, k < _ := (fun k hk => Nat.lt_of_lt_of_le (hfr22 k hk) hb.size); replace hfr24 : ∀ k ∈ addrBlock A24, k < _ := (fun k hk => Nat.lt_of_lt_of_le (hfr24 k hk) hb.size); replace hfr26 : ∀ k ∈ addrBlock A26, k < _ := (fun k hk => Nat.lt_of_lt_of_le (hfr26 k hk) hb.size); replace hfr28 : ∀ k ∈ addrBlock A28, k < _ := (fun k hk => Nat.lt_of_lt_of_le (hfr28 k hk) hb.size); replace hfr30 : ∀ k ∈ addrBlock A30, k < _ := (fun k hk => Nat.lt_of_lt_of_le (hfr30 k hk) hb.size); replace hfr32 : ∀ k ∈ addrBlock A32, k < _ := (fun k hk => Nat.lt_of_lt_of_le (hfr32 k hk) hb.size); replace hcur := bthen hcur hb
                          refine hK.out _ _ hcur (fun hHeld => ?_)
                          clear hK K hHeld
                          (try simp only [Act.put, List.setIfInBounds_toArray, List.set_cons_zero, List.set_cons_succ])
                          refine wpAnyH_ready (rs := [15]) (by kernel_rfl) (by simp) ?_
                          refine AllReadyH.cons (o := _) rfl (fun K hK => ?_) AllReadyH.nil
                          refine st_store rfl rfl B8 (news := [.bool b32, .slice A32 n32 c32]) (by rfl) infoNum (by simp) (by simp [Value.oneCell']) ?_; intro wn hon Bx; simp only [List.take_zero, List.nil_append, List.length_cons, List.length_nil, List.drop_succ_cons, List.drop_zero, List.append_nil, List.cons_append] at Bx; replace B8 := Bx; clear Bx; have oo8 : NR.Ok _ _ := (F.out _ (show (⟨b32, A32, n32, c32, _, _, _⟩ : NR) ∈ _ from (by repeat (first | exact List.mem_cons_self .. | apply List.mem_cons_of_mem)))).only hon hne32_8; have F1 := F; clear F; have F := F0.below (hcur.trans (hon.below hg8)); clear F1; replace hcur := hcur.trans (hon.below hg8); clear hon
                          refine hK.out _ _ hcur (fun hHeld => ?_)
                          clear hK K hHeld
                          (try simp only [Act.put, List.setIfInBounds_toArray, List.set_cons_zero, List.set_cons_succ])
                          refine wpAnyH_done (by kernel_rfl) ?_ _
                          refine NoPanic.normal ?_
                          obtain ⟨rfl⟩ := hQ7
                          (go_wp2_with fail)
                          go_meet
                          exact ⟨g8, _, _, _, _, rfl, hcur, B8, (Fs.nil _).cons oo8⟩
                        refine AllReadyH.cons (o := _) rfl (fun K hK => ?_) ?_
                        · refine st_alloc 8 rfl infoNum (cs := [.bool false, .slice none 0 0]) rfl ?_; intro g8 wn hb B8 hgn; have hne20_8 : ∀ k ∈ addrBlock A20, k ≠ g8 := (fun k hk e => by (have h1 := hfr20 k hk; omega)); have hne22_8 : ∀ k ∈ addrBlock A22, k ≠ g8 := (fun k hk e => by (have h1 := hfr22 k hk; omega)); have hne24_8 : ∀ k ∈ addrBlock A24, k ≠ g8 := (fun k hk e => by (have h1 := hfr24 k hk; omega)); have hne26_8 : ∀ k ∈ addrBlock A26, k ≠ g8 := (fun k hk e => by (have h1 := hfr26 k hk; omega)); have hne28_8 : ∀ k ∈ addrBlock A28, k ≠ g8 := (fun k hk e => by (have h1 := hfr28 k hk; omega)); have hne30_8 : ∀ k ∈ addrBlock A30, k ≠ g8 := (fun k hk e => by (have h1 := hfr30 k hk; omega)); have hg8 := Nat.le_trans hcur.size hgn; replace F := F.below hb; replace Bl31 := Bl31.below hb; replace hfr20 : ∀ k ∈ addrBlock A20, k < _ := (fun k hk => Nat.lt_of_lt_of_le (hfr20 k hk) hb.size); replace hfr22 : ∀ k ∈ addrBlock A22, k < _ := (fun k hk => Nat.lt_of_lt_of_le (hfr22 k hk) hb.size); replace hfr24 : ∀ k ∈ addrBlock A24, k < _ := (fun k hk => Nat.lt_of_lt_of_le (hfr24 k hk) hb.size); replace hfr26 : ∀ k ∈ addrBlock A26, k < _ := (fun k hk => Nat.lt_of_lt_of_le (hfr26 k hk) hb.size); replace hfr28 : ∀ k ∈ addrBlock A28, k < _ := (fun k hk => Nat.lt_of_lt_of_le (hfr28 k hk) hb.size); replace hfr30 : ∀ k ∈ addrBlock A30, k < _ := (fun k hk => Nat.lt_of_lt_of_le (hfr30 k hk) hb.size); replace hcur := bthen hcur hb
                          refine hK.out _ _ hcur (fun hHeld => ?_)
                          clear hK K hHeld
                          (try simp only [Act.put, List.setIfInBounds_toArray, List.set_cons_zero, List.set_cons_succ])
                          refine wpAnyH_ready (rs := [13]) (by kernel_rfl) (by simp) ?_
                          refine AllReadyH.cons (o := _) rfl (fun K hK => ?_) AllReadyH.nil
                          go_simp; (with_reducible refine (addF F Bl31 (by repeat (first | exact List.mem_cons_self .. | apply List.mem_cons_of_mem)) (by repeat (first | exact List.mem_cons_self .. | apply List.mem_cons_of_mem)) (by omega)).mono ?_); rintro e wn ⟨vn, rfl, ⟨b32, A32, n32, c32, rfl, o, hf⟩, hb⟩; replace F := (F.below hb).cons o; have hne32_8 : ∀ k ∈ addrBlock A32, k ≠ g8 := (fun k hk e => by (have h1 := (hf k hk).1; have h2 := B8.lt; omega)); have hfr32 : ∀ k ∈ addrBlock A32, k < _ := (fun k hk => (hf k hk).2); clear hf; replace B8 := B8.below hb; replace Bl31 := Bl31.below hb; replace hfr20 : ∀ k ∈ addrBlock A20, k < _ := (fun k hk => Nat.lt_of_lt_of_le (hfr20 k hk) hb.size); replace hfr22 : ∀ k ∈ addrBlock A22, k < _ := (fun k hk => Nat.lt_of_lt_of_le (hfr22 k hk) hb.size); replace hfr24 : ∀ k ∈ addrBlock A24, k < _ := (fun k hk => Nat.lt_of_lt_of_le (hfr24 k hk) hb.size); replace hfr26 : ∀ k ∈ addrBlock A26, k < _ := (fun k hk => Nat.lt_of_lt_of_le (hfr26 k hk) hb.size); replace hfr28 : ∀ k ∈ addrBlock A28, k < _ := (fun k hk => Nat.lt_of_lt_of_le (hfr28 k hk) hb.size); replace hfr30 : ∀ k ∈ addrBlock A30, k < _ := (fun k hk => Nat.lt_of_lt_of_le (hfr30 k hk) hb.size); replace hcur := bthen hcur hb; go_wp2_with fail
                          refine hK.out _ _ hcur (fun hHeld => ?_)
                          clear hK K hHeld
                          (try simp only [Act.put, List.setIfInBounds_toArray, List.set_cons_zero, List.set_cons_succ])
                          refine wpAnyH_ready (rs := [15]) (by kernel_rfl) (by simp) ?_
                          refine AllReadyH.cons (o := _) rfl (fun K hK => ?_) AllReadyH.nil
                          refine st_store rfl rfl B8 (news := [.bool b32, .slice A32 n32 c32]) (by rfl) infoNum (by simp) (by simp [Value.oneCell']) ?_; intro wn hon Bx; simp only [List.take_zero, List.nil_append, List.length_cons, List.length_nil, List.drop_succ_cons, List.drop_zero, List.append_nil, List.cons_append] at Bx; replace B8 := Bx; clear Bx; have oo8 : NR.Ok _ _ := (F.out _ (show (⟨b32, A32, n32, c32, _, _, _⟩ : NR) ∈ _ from (by repeat (first | exact List.mem_cons_self .. | apply List.mem_cons_of_mem)))).only hon hne32_8; have F1 := F; clear F; have F := F0.below (hcur.trans (hon.below hg8)); clear F1; replace hcur := hcur.trans (hon.below hg8); clear hon
                          refine hK.out _ _ hcur (fun hHeld => ?_)
                          clear hK K hHeld
                          (try simp only [Act.put, List.setIfInBounds_toArray, List.set_cons_zero, List.set_cons_succ])
                          refine wpAnyH_done (by kernel_rfl) ?_ _
                          refine NoPanic.normal ?_
                          obtain ⟨rfl⟩ := hQ7
                          (go_wp2_with fail)
                          go_meet
                          exact ⟨g8, _, _, _, _, rfl, hcur, B8, (Fs.nil _).cons oo8⟩
                        exact AllReadyH.nil
                      refine AllReadyH.cons (o := _) rfl (fun K hK => ?_) ?_
                      · refine st_alloc 8 rfl infoNum (cs := [.bool false, .slice none 0 0]) rfl ?_; intro g8 wn hb B8 hgn; have hne20_8 : ∀ k ∈ addrBlock A20, k ≠ g8 := (fun k hk e => by (have h1 := hfr20 k hk; omega)); have hne22_8 : ∀ k ∈ addrBlock A22, k ≠ g8 := (fun k hk e => by (have h1 := hfr22 k hk; omega)); have hne24_8 : ∀ k ∈ addrBlock A24, k ≠ g8 := (fun k hk e => by (have h1 := hfr24 k hk; omega)); have hne26_8 : ∀ k ∈ addrBlock A26, k ≠ g8 := (fun k hk e => by (have h1 := hfr26 k hk; omega)); have hne28_8 : ∀ k ∈ addrBlock A28, k ≠ g8 := (fun k hk e => by (have h1 := hfr28 k hk; omega)); have hne30_8 : ∀ k ∈ addrBlock A30, k ≠ g8 := (fun k hk e => by (have h1 := hfr30 k hk; omega)); have hg8 := Nat.le_trans hcur.size hgn; replace F := F.below hb; replace hfr20 : ∀ k ∈ addrBlock A20, k < _ := (fun k hk => Nat.lt_of_lt_of_le (hfr20 k hk) hb.size); replace hfr22 : ∀ k ∈ addrBlock A22, k < _ := (fun k hk => Nat.lt_of_lt_of_le (hfr22 k hk) hb.size); replace hfr24 : ∀ k ∈ addrBlock A24, k < _ := (fun k hk => Nat.lt_of_lt_of_le (hfr24 k hk) hb.size); replace hfr26 : ∀ k ∈ addrBlock A26, k < _ := (fun k hk => Nat.lt_of_lt_of_le (hfr26 k hk) hb.size); replace hfr28 : ∀ k ∈ addrBlock A28, k < _ := (fun k hk => Nat.lt_of_lt_of_le (hfr28 k hk) hb.size); replace hfr30 : ∀ k ∈ addrBlock A30, k < _ := (fun k hk => Nat.lt_of_lt_of_le (hfr30 k hk) hb.size); replace hcur := bthen hcur hb
                        refine hK.out _ _ hcur (fun hHeld => ?_)
                        clear hK K hHeld
                        (try simp only [Act.put, List.setIfInBounds_toArray, List.set_cons_zero, List.set_cons_succ])
                        refine wpAnyH_ready (rs := [12]) (by kernel_rfl) (by simp) ?_
                        refine AllReadyH.cons (o := _) rfl (fun K hK => ?_) AllReadyH.nil
                        refine st_lit (v := fun g => .slice (some ⟨g, 0, none⟩) 2 2) 31 rfl (cs := [.bool b24, .slice A24 n24 c24, .bool b30, .slice A30 n30 c30]) (t := 26) (by go_simp; try rfl) ?_; intro g31 wn hb Bl31 hg31; replace F := F.below hb; replace B8 := B8.below hb; replace hfr20 : ∀ k ∈ addrBlock A20, k < _ := (fun k hk => Nat.lt_of_lt_of_le (hfr20 k hk) hb.size); replace hfr22 : ∀ k ∈ addrBlock A22, k < _ := (fun k hk => Nat.lt_of_lt_of_le (hfr22 k hk) hb.size); replace hfr24 : ∀ k ∈ addrBlock A24, k < _ := (fun k hk => Nat.lt_of_lt_of_le (hfr24 k hk) hb.size); replace hfr26 : ∀ k ∈ addrBlock A26, k < _ := (fun k hk => Nat.lt_of_lt_of_le (hfr26 k hk) hb.size); replace hfr28 : ∀ k ∈ addrBlock A28, k < _ := (fun k hk => Nat.lt_of_lt_of_le (hfr28 k hk) hb.size); replace hfr30 : ∀ k ∈ addrBlock A30, k < _ := (fun k hk => Nat.lt_of_lt_of_le (hfr30 k hk) hb.size); replace hcur := bthen hcur hb
                        refine hK.out _ _ hcur (fun hHeld => ?_)
                        clear hK K hHeld
                        (try simp only [Act.put, List.setIfInBounds_toArray, List.set_cons_zero, List.set_cons_succ])
                        refine wpAnyH_ready (rs := [13]) (by kernel_rfl) (by simp) ?_
                        refine AllReadyH.cons (o := _) rfl (fun K hK => ?_) AllReadyH.nil
                        go_simp; (with_reducible refine (addF F Bl31 (by repeat (first | exact List.mem_cons_self .. | apply List.mem_cons_of_mem)) (by repeat (first | exact List.mem_cons_self .. | apply List.mem_cons_of_mem)) (by omega)).mono ?_); rintro e wn ⟨vn, rfl, ⟨b32, A32, n32, c32, rfl, o, hf⟩, hb⟩; replace F := (F.below hb).cons o; have hne32_8 : ∀ k ∈ addrBlock A32, k ≠ g8 := (fun k hk e => by (have h1 := (hf k hk).1; have h2 := B8.lt; omega)); have hfr32 : ∀ k ∈ addrBlock A32, k < _ := (fun k hk => (hf k hk).2); clear hf; replace B8 := B8.below hb; replace Bl31 := Bl31.below hb; replace hfr20 : ∀ k ∈ addrBlock A20, k < _ := (fun k hk => Nat.lt_of_lt_of_le (hfr20 k hk) hb.size); replace hfr22 : ∀ k ∈ addrBlock A22, k < _ := (fun k hk => Nat.lt_of_lt_of_le (hfr22 k hk) hb.size); replace hfr24 : ∀ k ∈ addrBlock A24, k < _ := (fun k hk => Nat.lt_of_lt_of_le (hfr24 k hk) hb.size); replace hfr26 : ∀ k ∈ addrBlock A26, k < _ := (fun k hk => Nat.lt_of_lt_of_le (hfr26 k hk) hb.size); replace hfr28 : ∀ k ∈ addrBlock A28, k < _ := (fun k hk => Nat.lt_of_lt_of_le (hfr28 k hk) hb.size); replace hfr30 : ∀ k ∈ addrBlock A30, k < _ := (fun k hk => Nat.lt_of_lt_of_le (hfr30 k hk) hb.size); replace hcur := bthen hcur hb; go_wp2_with fail
                        refine hK.out _ _ hcur (fun hHeld => ?_)
                        clear hK K hHeld
                        (try simp only [Act.put, List.setIfInBounds_toArray, List.set_cons_zero, List.set_cons_succ])
                        refine wpAnyH_ready (rs := [15]) (by kernel_rfl) (by simp) ?_
                        refine AllReadyH.cons (o := _) rfl (fun K hK => ?_) AllReadyH.nil
                        refine st_store rfl rfl B8 (news := [.bool b32, .slice A32 n32 c32]) (by rfl) infoNum (by simp) (by simp [Value.oneCell']) ?_; intro wn hon Bx; simp only [List.take_zero, List.nil_append, List.length_cons, List.length_nil, List.drop_succ_cons, List.drop_zero, List.append_nil, List.cons_append] at Bx; replace B8 := Bx; clear Bx; have oo8 : NR.Ok _ _ := (F.out _ (show (⟨b32, A32, n32, c32, _, _, _⟩ : NR) ∈ _ from (by repeat (first | exact List.mem_cons_self .. | apply List.mem_cons_of_mem)))).only hon hne32_8; have F1 := F; clear F; have F := F0.below (hcur.trans (hon.below hg8)); clear F1; replace hcur := hcur.trans (hon.below hg8); clear hon
                        refine hK.out _ _ hcur (fun hHeld => ?_)
                        clear hK K hHeld
                        (try simp only [Act.put, List.setIfInBounds_toArray, List.set_cons_zero, List.set_cons_succ])
                        refine wpAnyH_done (by kernel_rfl) ?_ _
                        refine NoPanic.normal ?_
                        obtain ⟨rfl⟩ := hQ7
                        (go_wp2_with fail)
                        go_meet
                        exact ⟨g8, _, _, _, _, rfl, hcur, B8, (Fs.nil _).cons oo8⟩
                      exact AllReadyH.nil
                    refine AllReadyH.cons (o := _) rfl (fun K hK => ?_) ?_
                    · refine st_alloc 8 rfl infoNum (cs := [.bool false, .slice none 0 0]) rfl ?_; intro g8 wn hb B8 hgn; have hne20_8 : ∀ k ∈ addrBlock A20, k ≠ g8 := (fun k hk e => by (have h1 := hfr20 k hk; omega)); have hne22_8 : ∀ k ∈ addrBlock A22, k ≠ g8 := (fun k hk e => by (have h1 := hfr22 k hk; omega)); have hne24_8 : ∀ k ∈ addrBlock A24, k ≠ g8 := (fun k hk e => by (have h1 := hfr24 k hk; omega)); have hne26_8 : ∀ k ∈ addrBlock A26, k ≠ g8 := (fun k hk e => by (have h1 := hfr26 k hk; omega)); have hne28_8 : ∀ k ∈ addrBlock A28, k ≠ g8 := (fun k hk e => by (have h1 := hfr28 k hk; omega)); have hg8 := Nat.le_trans hcur.size hgn; replace F := F.below hb; replace Bl29 := Bl29.below hb; replace hfr20 : ∀ k ∈ addrBlock A20, k < _ := (fun k hk => Nat.lt_of_lt_of_le (hfr20 k hk) hb.size); replace hfr22 : ∀ k ∈ addrBlock A22, k < _ := (fun k hk => Nat.lt_of_lt_of_le (hfr22 k hk) hb.size); replace hfr24 : ∀ k ∈ addrBlock A24, k < _ := (fun k hk => Nat.lt_of_lt_of_le (hfr24 k hk) hb.size); replace hfr26 : ∀ k ∈ addrBlock A26, k < _ := (fun k hk => Nat.lt_of_lt_of_le (hfr26 k hk) hb.size); replace hfr28 : ∀ k ∈ addrBlock A28, k < _ := (fun k hk => Nat.lt_of_lt_of_le (hfr28 k hk) hb.size); replace hcur := bthen hcur hb
                      refine hK.out _ _ hcur (fun hHeld => ?_)
                      clear hK K hHeld
                      (try simp only [Act.put, List.setIfInBounds_toArray, List.set_cons_zero, List.set_cons_succ])
                      refine wpAnyH_ready (rs := [11]) (by kernel_rfl) (by simp) ?_
                      refine AllReadyH.cons (o := _) rfl (fun K hK => ?_) AllReadyH.nil
                      go_simp; (with_reducible refine (mulF F Bl29 (by repeat (first | exact List.mem_cons_self .. | apply List.mem_cons_of_mem)) (by repeat (first | exact List.mem_cons_self .. | apply List.mem_cons_of_mem)) (by omega)).mono ?_); rintro e wn ⟨vn, rfl, ⟨b30, A30, n30, c30, rfl, o, hf⟩, hb⟩; replace F := (F.below hb).cons o; have hne30_8 : ∀ k ∈ addrBlock A30, k ≠ g8 := (fun k hk e => by (have h1 := (hf k hk).1; have h2 := B8.lt; omega)); have hfr30 : ∀ k ∈ addrBlock A30, k < _ := (fun k hk => (hf k hk).2); clear hf; replace B8 := B8.below hb; replace Bl29 := Bl29.below hb; replace hfr20 : ∀ k ∈ addrBlock A20, k < _ := (fun k hk => Nat.lt_of_lt_of_le (hfr20 k hk) hb.size); replace hfr22 : ∀ k ∈ addrBlock A22, k < _ := (fun k hk => Nat.lt_of_lt_of_le (hfr22 k hk) hb.size); replace hfr24 : ∀ k ∈ addrBlock A24, k < _ := (fun k hk => Nat.lt_of_lt_of_le (hfr24 k hk) hb.size); replace hfr26 : ∀ k ∈ addrBlock A26, k < _ := (fun k hk => Nat.lt_of_lt_of_le (hfr26 k hk) hb.size); replace hfr28 : ∀ k ∈ addrBlock A28, k < _ := (fun k hk => Nat.lt_of_lt_of_le (hfr28 k hk) hb.size); replace hcur := bthen hcur hb; go_wp2_with fail
                      refine hK.out _ _ hcur (fun hHeld => ?_)
                      clear hK K hHeld
                      (try simp only [Act.put, List.setIfInBounds_toArray, List.set_cons_zero, List.set_cons_succ])
                      refine wpAnyH_ready (rs := [12]) (by kernel_rfl) (by simp) ?_
                      refine AllReadyH.cons (o := _) rfl (fun K hK => ?_) AllReadyH.nil
                      refine st_lit (v := fun g => .slice (some ⟨g, 0, none⟩) 2 2) 31 rfl (cs := [.bool b24, .slice A24 n24 c24, .bool b30, .slice A30 n30 c30]) (t := 26) (by go_simp; try rfl) ?_; intro g31 wn hb Bl31 hg31; replace F := F.below hb; replace B8 := B8.below hb; replace hfr20 : ∀ k ∈ addrBlock A20, k < _ := (fun k hk => Nat.lt_of_lt_of_le (hfr20 k hk) hb.size); replace hfr22 : ∀ k ∈ addrBlock A22, k < _ := (fun k hk => Nat.lt_of_lt_of_le (hfr22 k hk) hb.size); replace hfr24 : ∀ k ∈ addrBlock A24, k < _ := (fun k hk => Nat.lt_of_lt_of_le (hfr24 k hk) hb.size); replace hfr26 : ∀ k ∈ addrBlock A26, k < _ := (fun k hk => Nat.lt_of_lt_of_le (hfr26 k hk) hb.size); replace hfr28 : ∀ k ∈ addrBlock A28, k < _ := (fun k hk => Nat.lt_of_lt_of_le (hfr28 k hk) hb.size); replace hfr30 : ∀ k ∈ addrBlock A30, k < _ := (fun k hk => Nat.lt_of_lt_of_le (hfr30 k hk) hb.size); replace hcur := bthen hcur hb
                      refine hK.out _ _ hcur (fun hHeld => ?_)
                      clear hK K hHeld
                      (try simp only [Act.put, List.setIfInBounds_toArray, List.set_cons_zero, List.set_cons_succ])
                      refine wpAnyH_ready (rs := [13]) (by kernel_rfl) (by simp) ?_
                      refine AllReadyH.cons (o := _) rfl (fun K hK => ?_) AllReadyH.nil
                      go_simp; (with_reducible refine (addF F Bl31 (by repeat (first | exact List.mem_cons_self .. | apply List.mem_cons_of_mem)) (by repeat (first | exact List.mem_cons_self .. | apply List.mem_cons_of_mem)) (by omega)).mono ?_); rintro e wn ⟨vn, rfl, ⟨b32, A32, n32, c32, rfl, o, hf⟩, hb⟩; replace F := (F.below hb).cons o; have hne32_8 : ∀ k ∈ addrBlock A32, k ≠ g8 := (fun k hk e => by (have h1 := (hf k hk).1; have h2 := B8.lt; omega)); have hfr32 : ∀ k ∈ addrBlock A32, k < _ := (fun k hk => (hf k hk).2); clear hf; replace B8 := B8.below hb; replace Bl31 := Bl31.below hb; replace hfr20 : ∀ k ∈ addrBlock A20, k < _ := (fun k hk => Nat.lt_of_lt_of_le (hfr20 k hk) hb.size); replace hfr22 : ∀ k ∈ addrBlock A22, k < _ := (fun k hk => Nat.lt_of_lt_of_le (hfr22 k hk) hb.size); replace hfr24 : ∀ k ∈ addrBlock A24, k < _ := (fun k hk => Nat.lt_of_lt_of_le (hfr24 k hk) hb.size); replace hfr26 : ∀ k ∈ addrBlock A26, k < _ := (fun k hk => Nat.lt_of_lt_of_le (hfr26 k hk) hb.size); replace hfr28 : ∀ k ∈ addrBlock A28, k < _ := (fun k hk => Nat.lt_of_lt_of_le (hfr28 k hk) hb.size); replace hfr30 : ∀ k ∈ addrBlock A30, k < _ := (fun k hk => Nat.lt_of_lt_of_le (hfr30 k hk) hb.size); replace hcur := bthen hcur hb; go_wp2_with fail
                      refine hK.out _ _ hcur (fun hHeld => ?_)
                      clear hK K hHeld
                      (try simp only [Act.put, List.setIfInBounds_toArray, List.set_cons_zero, List.set_cons_succ])
                      refine wpAnyH_ready (rs := [15]) (by kernel_rfl) (by simp) ?_
                      refine AllReadyH.cons (o := _) rfl (fun K hK => ?_) AllReadyH.nil
                      refine st_store rfl rfl B8 (news := [.bool b32, .slice A32 n32 c32]) (by rfl) infoNum (by simp) (by simp [Value.oneCell']) ?_; intro wn hon Bx; simp only [List.take_zero, List.nil_append, List.length_cons, List.length_nil, List.drop_succ_cons, List.drop_zero, List.append_nil, List.cons_append] at Bx; replace B8 := Bx; clear Bx; have oo8 : NR.Ok _ _ := (F.out _ (show (⟨b32, A32, n32, c32, _, _, _⟩ : NR) ∈ _ from (by repeat (first | exact List.mem_cons_self .. | apply List.mem_cons_of_mem)))).only hon hne32_8; have F1 := F; clear F; have F := F0.below (hcur.trans (hon.below hg8)); clear F1; replace hcur := hcur.trans (hon.below hg8); clear hon
                      refine hK.out _ _ hcur (fun hHeld => ?_)
                      clear hK K hHeld
                      (try simp only [Act.put, List.setIfInBounds_toArray, List.set_cons_zero, List.set_cons_succ])
                      refine wpAnyH_done (by kernel_rfl) ?_ _
                      refine NoPanic.normal ?_
                      obtain ⟨rfl⟩ := hQ7
                      (go_wp2_with fail)
                      go_meet
                      exact ⟨g8, _, _, _, _, rfl, hcur, B8, (Fs.nil _).cons oo8⟩
                    exact AllReadyH.nil
                  refine AllReadyH.cons (o := _) rfl (fun K hK => ?_) ?_
                  · refine st_alloc 8 rfl infoNum (cs := [.bool false, .slice none 0 0]) rfl ?_; intro g8 wn hb B8 hgn; have hne20_8 : ∀ k ∈ addrBlock A20, k ≠ g8 := (fun k hk e => by (have h1 := hfr20 k hk; omega)); have hne22_8 : ∀ k ∈ addrBlock A22, k ≠ g8 := (fun k hk e => by (have h1 := hfr22 k hk; omega)); have hne24_8 : ∀ k ∈ addrBlock A24, k ≠ g8 := (fun k hk e => by (have h1 := hfr24 k hk; omega)); have hne26_8 : ∀ k ∈ addrBlock A26, k ≠ g8 := (fun k hk e => by (have h1 := hfr26 k hk; omega)); have hne28_8 : ∀ k ∈ addrBlock A28, k ≠ g8 := (fun k hk e => by (have h1 := hfr28 k hk; omega)); have hg8 := Nat.le_trans hcur.size hgn; replace F := F.below hb; replace hfr20 : ∀ k ∈ addrBlock A20, k < _ := (fun k hk => Nat.lt_of_lt_of_le (hfr20 k hk) hb.size); replace hfr22 : ∀ k ∈ addrBlock A22, k < _ := (fun k hk => Nat.lt_of_lt_of_le (hfr22 k hk) hb.size); replace hfr24 : ∀ k ∈ addrBlock A24, k < _ := (fun k hk => Nat.lt_of_lt_of_le (hfr24 k hk) hb.size); replace hfr26 : ∀ k ∈ addrBlock A26, k < _ := (fun k hk => Nat.lt_of_lt_of_le (hfr26 k hk) hb.size); replace hfr28 : ∀ k ∈ addrBlock A28, k < _ := (fun k hk => Nat.lt_of_lt_of_le (hfr28 k hk) hb.size); replace hcur := bthen hcur hb
                    refine hK.out _ _ hcur (fun hHeld => ?_)
                    clear hK K hHeld
                    (try simp only [Act.put, List.setIfInBounds_toArray, List.set_cons_zero, List.set_cons_succ])
                    refine wpAnyH_ready (rs := [10]) (by kernel_rfl) (by simp) ?_
                    refine AllReadyH.cons (o := _) rfl (fun K hK => ?_) AllReadyH.nil
                    refine st_lit (v := fun g => .slice (some ⟨g, 0, none⟩) 2 2) 29 rfl (cs := [.bool b26, .slice A26 n26 c26, .bool b28, .slice A28 n28 c28]) (t := 26) (by go_simp; try rfl) ?_; intro g29 wn hb Bl29 hg29; replace F := F.below hb; replace B8 := B8.below hb; replace hfr20 : ∀ k ∈ addrBlock A20, k < _ := (fun k hk => Nat.lt_of_lt_of_le (hfr20 k hk) hb.size); replace hfr22 : ∀ k ∈ addrBlock A22, k < _ := (fun k hk => Nat.lt_of_lt_of_le (hfr22 k hk) hb.size); replace hfr24 : ∀ k ∈ addrBlock A24, k < _ := (fun k hk => Nat.lt_of_lt_of_le (hfr24 k hk) hb.size); replace hfr26 : ∀ k ∈ addrBlock A26, k < _ := (fun k hk => Nat.lt_of_lt_of_le (hfr26 k hk) hb.size); replace hfr28 : ∀ k ∈ addrBlock A28, k < _ := (fun k hk => Nat.lt_of_lt_of_le (hfr28 k hk) hb.size); replace hcur := bthen hcur hb
                    refine hK.out _ _ hcur (fun hHeld => ?_)
                    clear hK K hHeld
                    (try simp only [Act.put, List.setIfInBounds_toArray, List.set_cons_zero, List.set_cons_succ])
                    refine wpAnyH_ready (rs := [11]) (by kernel_rfl) (by simp) ?_
                    refine AllReadyH.cons (o := _) rfl (fun K hK => ?_) AllReadyH.nil
                    go_simp; (with_reducible refine (mulF F Bl29 (by repeat (first | exact List.mem_cons_self .. | apply List.mem_cons_of_mem)) (by repeat (first | exact List.mem_cons_self .. | apply List.mem_cons_of_mem)) (by omega)).mono ?_); rintro e wn ⟨vn, rfl, ⟨b30, A30, n30, c30, rfl, o, hf⟩, hb⟩; replace F := (F.below hb).cons o; have hne30_8 : ∀ k ∈ addrBlock A30, k ≠ g8 := (fun k hk e => by (have h1 := (hf k hk).1; have h2 := B8.lt; omega)); have hfr30 : ∀ k ∈ addrBlock A30, k < _ := (fun k hk => (hf k hk).2); clear hf; replace B8 := B8.below hb; replace Bl29 := Bl29.below hb; replace hfr20 : ∀ k ∈ addrBlock A20, k < _ := (fun k hk => Nat.lt_of_lt_of_le (hfr20 k hk) hb.size); replace hfr22 : ∀ k ∈ addrBlock A22, k < _ := (fun k hk => Nat.lt_of_lt_of_le (hfr22 k hk) hb.size); replace hfr24 : ∀ k ∈ addrBlock A24, k < _ := (fun k hk => Nat.lt_of_lt_of_le (hfr24 k hk) hb.size); replace hfr26 : ∀ k ∈ addrBlock A26, k < _ := (fun k hk => Nat.lt_of_lt_of_le (hfr26 k hk) hb.size); replace hfr28 : ∀ k ∈ addrBlock A28, k < _ := (fun k hk => Nat.lt_of_lt_of_le (hfr28 k hk) hb.size); replace hcur := bthen hcur hb; go_wp2_with fail
                    refine hK.out _ _ hcur (fun hHeld => ?_)
                    clear hK K hHeld
                    (try simp only [Act.put, List.setIfInBounds_toArray, List.set_cons_zero, List.set_cons_succ])
                    refine wpAnyH_ready (rs := [12]) (by kernel_rfl) (by simp) ?_
                    refine AllReadyH.cons (o := _) rfl (fun K hK => ?_) AllReadyH.nil
                    refine st_lit (v := fun g => .slice (some ⟨g, 0, none⟩) 2 2) 31 rfl (cs := [.bool b24, .slice A24 n24 c24, .bool b30, .slice A30 n30 c30]) (t := 26) (by go_simp; try rfl) ?_; intro g31 wn hb Bl31 hg31; replace F := F.below hb; replace B8 := B8.below hb; replace hfr20 : ∀ k ∈ addrBlock A20, k < _ := (fun k hk => Nat.lt_of_lt_of_le (hfr20 k hk) hb.size); replace hfr22 : ∀ k ∈ addrBlock A22, k < _ := (fun k hk => Nat.lt_of_lt_of_le (hfr22 k hk) hb.size); replace hfr24 : ∀ k ∈ addrBlock A24, k < _ := (fun k hk => Nat.lt_of_lt_of_le (hfr24 k hk) hb.size); replace hfr26 : ∀ k ∈ addrBlock A26, k < _ := (fun k hk => Nat.lt_of_lt_of_le (hfr26 k hk) hb.size); replace hfr28 : ∀ k ∈ addrBlock A28, k < _ := (fun k hk => Nat.lt_of_lt_of_le (hfr28 k hk) hb.size); replace hfr30 : ∀ k ∈ addrBlock A30, k < _ := (fun k hk => Nat.lt_of_lt_of_le (hfr30 k hk) hb.size); replace hcur := bthen hcur hb
                    refine hK.out _ _ hcur (fun hHeld => ?_)
                    clear hK K hHeld
                    (try simp only [Act.put, List.setIfInBounds_toArray, List.set_cons_zero, List.set_cons_succ])
                    refine wpAnyH_ready (rs := [13]) (by kernel_rfl) (by simp) ?_
                    refine AllReadyH.cons (o := _) rfl (fun K hK => ?_) AllReadyH.nil
                    go_simp; (with_reducible refine (addF F Bl31 (by repeat (first | exact List.mem_cons_self .. | apply List.mem_cons_of_mem)) (by repeat (first | exact List.mem_cons_self .. | apply List.mem_cons_of_mem)) (by omega)).mono ?_); rintro e wn ⟨vn, rfl, ⟨b32, A32, n32, c32, rfl, o, hf⟩, hb⟩; replace F := (F.below hb).cons o; have hne32_8 : ∀ k ∈ addrBlock A32, k ≠ g8 := (fun k hk e => by (have h1 := (hf k hk).1; have h2 := B8.lt; omega)); have hfr32 : ∀ k ∈ addrBlock A32, k < _ := (fun k hk => (hf k hk).2); clear hf; replace B8 := B8.below hb; replace Bl31 := Bl31.below hb; replace hfr20 : ∀ k ∈ addrBlock A20, k < _ := (fun k hk => Nat.lt_of_lt_of_le (hfr20 k hk) hb.size); replace hfr22 : ∀ k ∈ addrBlock A22, k < _ := (fun k hk => Nat.lt_of_lt_of_le (hfr22 k hk) hb.size); replace hfr24 : ∀ k ∈ addrBlock A24, k < _ := (fun k hk => Nat.lt_of_lt_of_le (hfr24 k hk) hb.size); replace hfr26 : ∀ k ∈ addrBlock A26, k < _ := (fun k hk => Nat.lt_of_lt_of_le (hfr26 k hk) hb.size); replace hfr28 : ∀ k ∈ addrBlock A28, k < _ := (fun k hk => Nat.lt_of_lt_of_le (hfr28 k hk) hb.size); replace hfr30 : ∀ k ∈ addrBlock A30, k < _ := (fun k hk => Nat.lt_of_lt_of_le (hfr30 k hk) hb.size); replace hcur := bthen hcur hb; go_wp2_with fail
                    refine hK.out _ _ hcur (fun hHeld => ?_)
                    clear hK K hHeld
                    (try simp only [Act.put, List.setIfInBounds_toArray, List.set_cons_zero, List.set_cons_succ])
                    refine wpAnyH_ready (rs := [15]) (by kernel_rfl) (by simp) ?_
                    refine AllReadyH.cons (o := _) rfl (fun K hK => ?_) AllReadyH.nil
                    refine st_store rfl rfl B8 (news := [.bool b32, .slice A32 n32 c32]) (by rfl) infoNum (by simp) (by simp [Value.oneCell']) ?_; intro wn hon Bx; simp only [List.take_zero, List.nil_append, List.length_cons, List.length_nil, List.drop_succ_cons, List.drop_zero, List.append_nil, List.cons_append] at Bx; replace B8 := Bx; clear Bx; have oo8 : NR.Ok _ _ := (F.out _ (show (⟨b32, A32, n32, c32, _, _, _⟩ : NR) ∈ _ from (by repeat (first | exact List.mem_cons_self .. | apply List.mem_cons_of_mem)))).only hon hne32_8; have F1 := F; clear F; have F := F0.below (hcur.trans (hon.below hg8)); clear F1; replace hcur := hcur.trans (hon.below hg8); clear hon
                    refine hK.out _ _ hcur (fun hHeld => ?_)
                    clear hK K hHeld
                    (try simp only [Act.put, List.setIfInBounds_toArray, List.set_cons_zero, List.set_cons_succ])
                    refine wpAnyH_done (by kernel_rfl) ?_ _
                    refine NoPanic.normal ?_
                    obtain ⟨rfl⟩ := hQ7
                    (go_wp2_with fail)
                    go_meet
                    exact ⟨g8, _, _, _, _, rfl, hcur, B8, (Fs.nil _).cons oo8⟩
                  exact AllReadyH.nil
                refine AllReadyH.cons (o := _) rfl (fun K hK => ?_) ?_
                · refine st_alloc 8 rfl infoNum (cs := [.bool false, .slice none 0 0]) rfl ?_; intro g8 wn hb B8 hgn; have hne20_8 : ∀ k ∈ addrBlock A20, k ≠ g8 := (fun k hk e => by (have h1 := hfr20 k hk; omega)); have hne22_8 : ∀ k ∈ addrBlock A22, k ≠ g8 := (fun k hk e => by (have h1 := hfr22 k hk; omega)); have hne24_8 : ∀ k ∈ addrBlock A24, k ≠ g8 := (fun k hk e => by (have h1 := hfr24 k hk; omega)); have hne26_8 : ∀ k ∈ addrBlock A26, k ≠ g8 := (fun k hk e => by (have h1 := hfr26 k hk; omega)); have hg8 := Nat.le_trans hcur.size hgn; replace F := F.below hb; replace hfr20 : ∀ k ∈ addrBlock A20, k < _ := (fun k hk => Nat.lt_of_lt_of_le (hfr20 k hk) hb.size); replace hfr22 : ∀ k ∈ addrBlock A22, k < _ := (fun k hk => Nat.lt_of_lt_of_le (hfr22 k hk) hb.size); replace hfr24 : ∀ k ∈ addrBlock A24, k < _ := (fun k hk => Nat.lt_of_lt_of_le (hfr24 k hk) hb.size); replace hfr26 : ∀ k ∈ addrBlock A26, k < _ := (fun k hk => Nat.lt_of_lt_of_le (hfr26 k hk) hb.size); replace hcur := bthen hcur hb
                  refine hK.out _ _ hcur (fun hHeld => ?_)
                  clear hK K hHeld
                  (try simp only [Act.put, List.setIfInBounds_toArray, List.set_cons_zero, List.set_cons_succ])
                  refine wpAnyH_ready (rs := [9]) (by kernel_rfl) (by simp) ?_
                  refine AllReadyH.cons (o := _) rfl (fun K hK => ?_) AllReadyH.nil
                  go_simp; (with_reducible refine (cF F (by repeat (first | exact List.mem_cons_self .. | apply List.mem_cons_of_mem))).mono ?_); rintro e wn ⟨vn, rfl, ⟨b28, A28, n28, c28, rfl, o, hf⟩, hb⟩; replace F := (F.below hb).cons o; have hne28_8 : ∀ k ∈ addrBlock A28, k ≠ g8 := (fun k hk e => by (have h1 := (hf k hk).1; have h2 := B8.lt; omega)); have hfr28 : ∀ k ∈ addrBlock A28, k < _ := (fun k hk => (hf k hk).2); clear hf; replace B8 := B8.below hb; replace hfr20 : ∀ k ∈ addrBlock A20, k < _ := (fun k hk => Nat.lt_of_lt_of_le (hfr20 k hk) hb.size); replace hfr22 : ∀ k ∈ addrBlock A22, k < _ := (fun k hk => Nat.lt_of_lt_of_le (hfr22 k hk) hb.size); replace hfr24 : ∀ k ∈ addrBlock A24, k < _ := (fun k hk => Nat.lt_of_lt_of_le (hfr24 k hk) hb.size); replace hfr26 : ∀ k ∈ addrBlock A26, k < _ := (fun k hk => Nat.lt_of_lt_of_le (hfr26 k hk) hb.size); replace hcur := bthen hcur hb; go_wp2_with fail
                  refine hK.out _ _ hcur (fun hHeld => ?_)
                  clear hK K hHeld
                  (try simp only [Act.put, List.setIfInBounds_toArray, List.set_cons_zero, List.set_cons_succ])
                  refine wpAnyH_ready (rs := [10]) (by kernel_rfl) (by simp) ?_
                  refine AllReadyH.cons (o := _) rfl (fun K hK => ?_) AllReadyH.nil
                  refine st_lit (v := fun g => .slice (some ⟨g, 0, none⟩) 2 2) 29 rfl (cs := [.bool b26, .slice A26 n26 c26, .bool b28, .slice A28 n28 c28]) (t := 26) (by go_simp; try rfl) ?_; intro g29 wn hb Bl29 hg29; replace F := F.below hb; replace B8 := B8.below hb; replace hfr20 : ∀ k ∈ addrBlock A20, k < _ := (fun k hk => Nat.lt_of_lt_of_le (hfr20 k hk) hb.size); replace hfr22 : ∀ k ∈ addrBlock A22, k < _ := (fun k hk => Nat.lt_of_lt_of_le (hfr22 k hk) hb.size); replace hfr24 : ∀ k ∈ addrBlock A24, k < _ := (fun k hk => Nat.lt_of_lt_of_le (hfr24 k hk) hb.size); replace hfr26 : ∀ k ∈ addrBlock A26, k < _ := (fun k hk => Nat.lt_of_lt_of_le (hfr26 k hk) hb.size); replace hfr28 : ∀ k ∈ addrBlock A28, k < _ := (fun k hk => Nat.lt_of_lt_of_le (hfr28 k hk) hb.size); replace hcur := bthen hcur hb
                  refine hK.out _ _ hcur (fun hHeld => ?_)
                  clear hK K hHeld
                  (try simp only [Act.put, List.setIfInBounds_toArray, List.set_cons_zero, List.set_cons_succ])
                  refine wpAnyH_ready (rs := [11]) (by kernel_rfl) (by simp) ?_
                  refine AllReadyH.cons (o := _) rfl (fun K hK => ?_) AllReadyH.nil
                  go_simp; (with_reducible refine (mulF F Bl29 (by repeat (first | exact List.mem_cons_self .. | apply List.mem_cons_of_mem)) (by repeat (first | exact List.mem_cons_self .. | apply List.mem_cons_of_mem)) (by omega)).mono ?_); rintro e wn ⟨vn, rfl, ⟨b30, A30, n30, c30, rfl, o, hf⟩, hb⟩; replace F := (F.below hb).cons o; have hne30_8 : ∀ k ∈ addrBlock A30, k ≠ g8 := (fun k hk e => by (have h1 := (hf k hk).1; have h2 := B8.lt; omega)); have hfr30 : ∀ k ∈ addrBlock A30, k < _ := (fun k hk => (hf k hk).2); clear hf; replace B8 := B8.below hb; replace Bl29 := Bl29.below hb; replace hfr20 : ∀ k ∈ addrBlock A20, k < _ := (fun k hk => Nat.lt_of_lt_of_le (hfr20 k hk) hb.size); replace hfr22 : ∀ k ∈ addrBlock A22, k < _ := (fun k hk => Nat.lt_of_lt_of_le (hfr22 k hk) hb.size); replace hfr24 : ∀ k ∈ addrBlock A24, k < _ := (fun k hk => Nat.lt_of_lt_of_le (hfr24 k hk) hb.size); replace hfr26 : ∀ k ∈ addrBlock A26, k < _ := (fun k hk => Nat.lt_of_lt_of_le (hfr26 k hk) hb.size); replace hfr28 : ∀ k ∈ addrBlock A28, k < _ := (fun k hk => Nat.lt_of_lt_of_le (hfr28 k hk) hb.size); replace hcur := bthen hcur hb; go_wp2_with fail
                  refine hK.out _ _ hcur (fun hHeld => ?_)
                  clear hK K hHeld
                  (try simp only [Act.put, List.setIfInBounds_toArray, List.set_cons_zero, List.set_cons_succ])
                  refine wpAnyH_ready (rs := [12]) (by kernel_rfl) (by simp) ?_
                  refine AllReadyH.cons (o := _) rfl (fun K hK => ?_) AllReadyH.nil
                  refine st_lit (v := fun g => .slice (some ⟨g, 0, none⟩) 2 2) 31 rfl (cs := [.bool b24, .slice A24 n24 c24, .bool b30, .slice A30 n30 c30]) (t := 26) (by go_simp; try rfl) ?_; intro g31 wn hb Bl31 hg31; replace F := F.below hb; replace B8 := B8.below hb; replace hfr20 : ∀ k ∈ addrBlock A20, k < _ := (fun k hk => Nat.lt_of_lt_of_le (hfr20 k hk) hb.size); replace hfr22 : ∀ k ∈ addrBlock A22, k < _ := (fun k hk => Nat.lt_of_lt_of_le (hfr22 k hk) hb.size); replace hfr24 : ∀ k ∈ addrBlock A24, k < _ := (fun k hk => Nat.lt_of_lt_of_le (hfr24 k hk) hb.size); replace hfr26 : ∀ k ∈ addrBlock A26, k < _ := (fun k hk => Nat.lt_of_lt_of_le (hfr26 k hk) hb.size); replace hfr28 : ∀ k ∈ addrBlock A28, k < _ := (fun k hk => Nat.lt_of_lt_of_le (hfr28 k hk) hb.size); replace hfr30 : ∀ k ∈ addrBlock A30, k < _ := (fun k hk => Nat.lt_of_lt_of_le (hfr30 k hk) hb.size); replace hcur := bthen hcur hb
                  refine hK.out _ _ hcur (fun hHeld => ?_)
                  clear hK K hHeld
                  (try simp only [Act.put, List.setIfInBounds_toArray, List.set_cons_zero, List.set_cons_succ])
                  refine wpAnyH_ready (rs := [13]) (by kernel_rfl) (by simp) ?_
                  refine AllReadyH.cons (o := _) rfl (fun K hK => ?_) AllReadyH.nil
                  go_simp; (with_reducible refine (addF F Bl31 (by repeat (first | exact List.mem_cons_self .. | apply List.mem_cons_of_mem)) (by repeat (first | exact List.mem_cons_self .. | apply List.mem_cons_of_mem)) (by omega)).mono ?_); rintro e wn ⟨vn, rfl, ⟨b32, A32, n32, c32, rfl, o, hf⟩, hb⟩; replace F := (F.below hb).cons o; have hne32_8 : ∀ k ∈ addrBlock A32, k ≠ g8 := (fun k hk e => by (have h1 := (hf k hk).1; have h2 := B8.lt; omega)); have hfr32 : ∀ k ∈ addrBlock A32, k < _ := (fun k hk => (hf k hk).2); clear hf; replace B8 := B8.below hb; replace Bl31 := Bl31.below hb; replace hfr20 : ∀ k ∈ addrBlock A20, k < _ := (fun k hk => Nat.lt_of_lt_of_le (hfr20 k hk) hb.size); replace hfr22 : ∀ k ∈ addrBlock A22, k < _ := (fun k hk => Nat.lt_of_lt_of_le (hfr22 k hk) hb.size); replace hfr24 : ∀ k ∈ addrBlock A24, k < _ := (fun k hk => Nat.lt_of_lt_of_le (hfr24 k hk) hb.size); replace hfr26 : ∀ k ∈ addrBlock A26, k < _ := (fun k hk => Nat.lt_of_lt_of_le (hfr26 k hk) hb.size); replace hfr28 : ∀ k ∈ addrBlock A28, k < _ := (fun k hk => Nat.lt_of_lt_of_le (hfr28 k hk) hb.size); replace hfr30 : ∀ k ∈ addrBlock A30, k < _ := (fun k hk => Nat.lt_of_lt_of_le (hfr30 k hk) hb.size); replace hcur := bthen hcur hb; go_wp2_with fail
                  refine hK.out _ _ hcur (fun hHeld => ?_)
                  clear hK K hHeld
                  (try simp only [Act.put, List.setIfInBounds_toArray, List.set_cons_zero, List.set_cons_succ])
                  refine wpAnyH_ready (rs := [15]) (by kernel_rfl) (by simp) ?_
                  refine AllReadyH.cons (o := _) rfl (fun K hK => ?_) AllReadyH.nil
                  refine st_store rfl rfl B8 (news := [.bool b32, .slice A32 n32 c32]) (by rfl) infoNum (by simp) (by simp [Value.oneCell']) ?_; intro wn hon Bx; simp only [List.take_zero, List.nil_append, List.length_cons, List.length_nil, List.drop_succ_cons, List.drop_zero, List.append_nil, List.cons_append] at Bx; replace B8 := Bx; clear Bx; have oo8 : NR.Ok _ _ := (F.out _ (show (⟨b32, A32, n32, c32, _, _, _⟩ : NR) ∈ _ from (by repeat (first | exact List.mem_cons_self .. | apply List.mem_cons_of_mem)))).only hon hne32_8; have F1 := F; clear F; have F := F0.below (hcur.trans (hon.below hg8)); clear F1; replace hcur := hcur.trans (hon.below hg8); clear hon
                  refine hK.out _ _ hcur (fun hHeld => ?_)
                  clear hK K hHeld
                  (try simp only [Act.put, List.setIfInBounds_toArray, List.set_cons_zero, List.set_cons_succ])
                  refine wpAnyH_done (by kernel_rfl) ?_ _
                  refine NoPanic.normal ?_
                  obtain ⟨rfl⟩ := hQ7
                  (go_wp2_with fail)
                  go_meet
                  exact ⟨g8, _, _, _, _, rfl, hcur, B8, (Fs.nil _).cons oo8⟩
                exact AllReadyH.nil
              refine AllReadyH.cons (o := _) rfl (fun K hK => ?_) ?_
              · refine st_alloc 8 rfl infoNum (cs := [.bool false, .slice none 0 0]) rfl ?_; intro g8 wn hb B8 hgn; have hne20_8 : ∀ k ∈ addrBlock A20, k ≠ g8 := (fun k hk e => by (have h1 := hfr20 k hk; omega)); have hne22_8 : ∀ k ∈ addrBlock A22, k ≠ g8 := (fun k hk e => by (have h1 := hfr22 k hk; omega)); have hne24_8 : ∀ k ∈ addrBlock A24, k ≠ g8 := (fun k hk e => by (have h1 := hfr24 k hk; omega)); have hg8 := Nat.le_trans hcur.size hgn; replace F := F.below hb; replace hfr20 : ∀ k ∈ addrBlock A20, k < _ := (fun k hk => Nat.lt_of_lt_of_le (hfr20 k hk) hb.size); replace hfr22 : ∀ k ∈ addrBlock A22, k < _ := (fun k hk => Nat.lt_of_lt_of_le (hfr22 k hk) hb.size); replace hfr24 : ∀ k ∈ addrBlock A24, k < _ := (fun k hk => Nat.lt_of_lt_of_le (hfr24 k hk) hb.size); replace hcur := bthen hcur hb
                refine hK.out _ _ hcur (fun hHeld => ?_)
                clear hK K hHeld
                (try simp only [Act.put, List.setIfInBounds_toArray, List.set_cons_zero, List.set_cons_succ])
                refine wpAnyH_ready (rs := [7]) (by kernel_rfl) (by simp) ?_
                refine AllReadyH.cons (o := _) rfl (fun K hK => ?_) AllReadyH.nil
                go_simp; (with_reducible refine (cF F (by repeat (first | exact List.mem_cons_self .. | apply List.mem_cons_of_mem))).mono ?_); rintro e wn ⟨vn, rfl, ⟨b26, A26, n26, c26, rfl, o, hf⟩, hb⟩; replace F := (F.below hb).cons o; have hne26_8 : ∀ k ∈ addrBlock A26, k ≠ g8 := (fun k hk e => by (have h1 := (hf k hk).1; have h2 := B8.lt; omega)); have hfr26 : ∀ k ∈ addrBlock A26, k < _ := (fun k hk => (hf k hk).2); clear hf; replace B8 := B8.below hb; replace hfr20 : ∀ k ∈ addrBlock A20, k < _ := (fun k hk => Nat.lt_of_lt_of_le (hfr20 k hk) hb.size); replace hfr22 : ∀ k ∈ addrBlock A22, k < _ := (fun k hk => Nat.lt_of_lt_of_le (hfr22 k hk) hb.size); replace hfr24 : ∀ k ∈ addrBlock A24, k < _ := (fun k hk => Nat.lt_of_lt_of_le (hfr24 k hk) hb.size); replace hcur := bthen hcur hb; go_wp2_with fail
                refine hK.out _ _ hcur (fun hHeld => ?_)
                clear hK K hHeld
                (try simp only [Act.put, List.setIfInBounds_toArray, List.set_cons_zero, List.set_cons_succ])
                refine wpAnyH_ready (rs := [9]) (by kernel_rfl) (by simp) ?_
                refine AllReadyH.cons (o := _) rfl (fun K hK => ?_) AllReadyH.nil
                go_simp; (with_reducible refine (cF F (by repeat (first | exact List.mem_cons_self .. | apply List.mem_cons_of_mem))).mono ?_); rintro e wn ⟨vn, rfl, ⟨b28, A28, n28, c28, rfl, o, hf⟩, hb⟩; replace F := (F.below hb).cons o; have hne28_8 : ∀ k ∈ addrBlock A28, k ≠ g8 := (fun k hk e => by (have h1 := (hf k hk).1; have h2 := B8.lt; omega)); have hfr28 : ∀ k ∈ addrBlock A28, k < _ := (fun k hk => (hf k hk).2); clear hf; replace B8 := B8.below hb; replace hfr20 : ∀ k ∈ addrBlock A20, k < _ := (fun k hk => Nat.lt_of_lt_of_le (hfr20 k hk) hb.size); replace hfr22 : ∀ k ∈ addrBlock A22, k < _ := (fun k hk => Nat.lt_of_lt_of_le (hfr22 k hk) hb.size); replace hfr24 : ∀ k ∈ addrBlock A24, k < _ := (fun k hk => Nat.lt_of_lt_of_le (hfr24 k hk) hb.size); replace hfr26 : ∀ k ∈ addrBlock A26, k < _ := (fun k hk => Nat.lt_of_lt_of_le (hfr26 k hk) hb.size); replace hcur := bthen hcur hb; go_wp2_with fail
                refine hK.out _ _ hcur (fun hHeld => ?_)
                clear hK K hHeld
                (try simp only [Act.put, List.setIfInBounds_toArray, List.set_cons_zero, List.set_cons_succ])
                refine wpAnyH_ready (rs := [10]) (by kernel_rfl) (by simp) ?_
                refine AllReadyH.cons (o := _) rfl (fun K hK => ?_) AllReadyH.nil
                refine st_lit (v := fun g => .slice (some ⟨g, 0, none⟩) 2 2) 29 rfl (cs := [.bool b26, .slice A26 n26 c26, .bool b28, .slice A28 n28 c28]) (t := 26) (by go_simp; try rfl) ?_; intro g29 wn hb Bl29 hg29; replace F := F.below hb; replace B8 := B8.below hb; replace hfr20 : ∀ k ∈ addrBlock A20, k < _ := (fun k hk => Nat.lt_of_lt_of_le (hfr20 k hk) hb.size); replace hfr22 : ∀ k ∈ addrBlock A22, k < _ := (fun k hk => Nat.lt_of_lt_of_le (hfr22 k hk) hb.size); replace hfr24 : ∀ k ∈ addrBlock A24, k < _ := (fun k hk => Nat.lt_of_lt_of_le (hfr24 k hk) hb.size); replace hfr26 : ∀ k ∈ addrBlock A26, k < _ := (fun k hk => Nat.lt_of_lt_of_le (hfr26 k hk) hb.size); replace hfr28 : ∀ k ∈ addrBlock A28, k < _ := (fun k hk => Nat.lt_of_lt_of_le (hfr28 k hk) hb.size); replace hcur := bthen hcur hb
                refine hK.out _ _ hcur (fun hHeld => ?_)
                clear hK K hHeld
                (try simp only [Act.put, List.setIfInBounds_toArray, List.set_cons_zero, List.set_cons_succ])
                refine wpAnyH_ready (rs := [11]) (by kernel_rfl) (by simp) ?_
                refine AllReadyH.cons (o := _) rfl (fun K hK => ?_) AllReadyH.nil
                go_simp; (with_reducible refine (mulF F Bl29 (by repeat (first | exact List.mem_cons_self .. | apply List.mem_cons_of_mem)) (by repeat (first | exact List.mem_cons_self .. | apply List.mem_cons_of_mem)) (by omega)).mono ?_); rintro e wn ⟨vn, rfl, ⟨b30, A30, n30, c30, rfl, o, hf⟩, hb⟩; replace F := (F.below hb).cons o; have hne30_8 : ∀ k ∈ addrBlock A30, k ≠ g8 := (fun k hk e => by (have h1 := (hf k hk).1; have h2 := B8.lt; omega)); have hfr30 : ∀ k ∈ addrBlock A30, k < _ := (fun k hk => (hf k hk).2); clear hf; replace B8 := B8.below hb; replace Bl29 := Bl29.below hb; replace hfr20 : ∀ k ∈ addrBlock A20, k < _ := (fun k hk => Nat.lt_of_lt_of_le (hfr20 k hk) hb.size); replace hfr22 : ∀ k ∈ addrBlock A22, k < _ := (fun k hk => Nat.lt_of_lt_of_le (hfr22 k hk) hb.size); replace hfr24 : ∀ k ∈ addrBlock A24, k < _ := (fun k hk => Nat.lt_of_lt_of_le (hfr24 k hk) hb.size); replace hfr26 : ∀ k ∈ addrBlock A26, k < _ := (fun k hk => Nat.lt_of_lt_of_le (hfr26 k hk) hb.size); replace hfr28 : ∀ k ∈ addrBlock A28, k < _ := (fun k hk => Nat.lt_of_lt_of_le (hfr28 k hk) hb.size); replace hcur := bthen hcur hb; go_wp2_with fail
                refine hK.out _ _ hcur (fun hHeld => ?_)
                clear hK K hHeld
                (try simp only [Act.put, List.setIfInBounds_toArray, List.set_cons_zero, List.set_cons_succ])
                refine wpAnyH_ready (rs := [12]) (by kernel_rfl) (by simp) ?_
                refine AllReadyH.cons (o := _) rfl (fun K hK => ?_) AllReadyH.nil
                refine st_lit (v := fun g => .slice (some ⟨g, 0, none⟩) 2 2) 31 rfl (cs := [.bool b24, .slice A24 n24 c24, .bool b30, .slice A30 n30 c30]) (t := 26) (by go_simp; try rfl) ?_; intro g31 wn hb Bl31 hg31; replace F := F.below hb; replace B8 := B8.below hb; replace hfr20 : ∀ k ∈ addrBlock A20, k < _ := (fun k hk => Nat.lt_of_lt_of_le (hfr20 k hk) hb.size); replace hfr22 : ∀ k ∈ addrBlock A22, k < _ := (fun k hk => Nat.lt_of_lt_of_le (hfr22 k hk) hb.size); replace hfr24 : ∀ k ∈ addrBlock A24, k < _ := (fun k hk => Nat.lt_of_lt_of_le (hfr24 k hk) hb.size); replace hfr26 : ∀ k ∈ addrBlock A26, k < _ := (fun k hk => Nat.lt_of_lt_of_le (hfr26 k hk) hb.size); replace hfr28 : ∀ k ∈ addrBlock A28, k < _ := (fun k hk => Nat.lt_of_lt_of_le (hfr28 k hk) hb.size); replace hfr30 : ∀ k ∈ addrBlock A30, k < _ := (fun k hk => Nat.lt_of_lt_of_le (hfr30 k hk) hb.size); replace hcur := bthen hcur hb
                refine hK.out _ _ hcur (fun hHeld => ?_)
                clear hK K hHeld
                (try simp only [Act.put, List.setIfInBounds_toArray, List.set_cons_zero, List.set_cons_succ])
                refine wpAnyH_ready (rs := [13]) (by kernel_rfl) (by simp) ?_
                refine AllReadyH.cons (o := _) rfl (fun K hK => ?_) AllReadyH.nil
                go_simp; (with_reducible refine (addF F Bl31 (by repeat (first | exact List.mem_cons_self .. | apply List.mem_cons_of_mem)) (by repeat (first | exact List.mem_cons_self .. | apply List.mem_cons_of_mem)) (by omega)).mono ?_); rintro e wn ⟨vn, rfl, ⟨b32, A32, n32, c32, rfl, o, hf⟩, hb⟩; replace F := (F.below hb).cons o; have hne32_8 : ∀ k ∈ addrBlock A32, k ≠ g8 := (fun k hk e => by (have h1 := (hf k hk).1; have h2 := B8.lt; omega)); have hfr32 : ∀ k ∈ addrBlock A32, k < _ := (fun k hk => (hf k hk).2); clear hf; replace B8 := B8.below hb; replace Bl31 := Bl31.below hb; replace hfr20 : ∀ k ∈ addrBlock A20, k < _ := (fun k hk => Nat.lt_of_lt_of_le (hfr20 k hk) hb.size); replace hfr22 : ∀ k ∈ addrBlock A22, k < _ := (fun k hk => Nat.lt_of_lt_of_le (hfr22 k hk) hb.size); replace hfr24 : ∀ k ∈ addrBlock A24, k < _ := (fun k hk => Nat.lt_of_lt_of_le (hfr24 k hk) hb.size); replace hfr26 : ∀ k ∈ addrBlock A26, k < _ := (fun k hk => Nat.lt_of_lt_of_le (hfr26 k hk) hb.size); replace hfr28 : ∀ k ∈ addrBlock A28, k < _ := (fun k hk => Nat.lt_of_lt_of_le (hfr28 k hk) hb.size); replace hfr30 : ∀ k ∈ addrBlock A30, k < _ := (fun k hk => Nat.lt_of_lt_of_le (hfr30 k hk) hb.size); replace hcur := bthen hcur hb; go_wp2_with fail
                refine hK.out _ _ hcur (fun hHeld => ?_)
                clear hK K hHeld
                (try simp only [Act.put, List.setIfInBounds_toArray, List.set_cons_zero, List.set_cons_succ])
                refine wpAnyH_ready (rs := [15]) (by kernel_rfl) (by simp) ?_
                refine AllReadyH.cons (o := _) rfl (fun K hK => ?_) AllReadyH.nil
                refine st_store rfl rfl B8 (news := [.bool b32, .slice A32 n32 c32]) (by rfl) infoNum (by simp) (by simp [Value.oneCell']) ?_; intro wn hon Bx; simp only [List.take_zero, List.nil_append, List.length_cons, List.length_nil, List.drop_succ_cons, List.drop_zero, List.append_nil, List.cons_append] at Bx; replace B8 := Bx; clear Bx; have oo8 : NR.Ok _ _ := (F.out _ (show (⟨b32, A32, n32, c32, _, _, _⟩ : NR) ∈ _ from (by repeat (first | exact List.mem_cons_self .. | apply List.mem_cons_of_mem)))).only hon hne32_8; have F1 := F; clear F; have F := F0.below (hcur.trans (hon.below hg8)); clear F1; replace hcur := hcur.trans (hon.below hg8); clear hon
                refine hK.out _ _ hcur (fun hHeld => ?_)
                clear hK K hHeld
                (try simp only [Act.put, List.setIfInBounds_toArray, List.set_cons_zero, List.set_cons_succ])
                refine wpAnyH_done (by kernel_rfl) ?_ _
                refine NoPanic.normal ?_
                obtain ⟨rfl⟩ := hQ7
                (go_wp2_with fail)
                go_meet
                exact ⟨g8, _, _, _, _, rfl, hcur, B8, (Fs.nil _).cons oo8⟩
              exact AllReadyH.nil
            refine AllReadyH.cons (o := _) rfl (fun K hK => ?_) ?_
            · refine st_alloc 8 rfl infoNum (cs := [.bool false, .slice none 0 0]) rfl ?_; intro g8 wn hb B8 hgn; have hne20_8 : ∀ k ∈ addrBlock A20, k ≠ g8 := (fun k hk e => by (have h1 := hfr20 k hk; omega)); have hne22_8 : ∀ k ∈ addrBlock A22, k ≠ g8 := (fun k hk e => by (have h1 := hfr22 k hk; omega)); have hg8 := Nat.le_trans hcur.size hgn; replace F := F.below hb; replace Bl23 := Bl23.below hb; replace hfr20 : ∀ k ∈ addrBlock A20, k < _ := (fun k hk => Nat.lt_of_lt_of_le (hfr20 k hk) hb.size); replace hfr22 : ∀ k ∈ addrBlock A22, k < _ := (fun k hk => Nat.lt_of_lt_of_le (hfr22 k hk) hb.size); replace hcur := bthen hcur hb
              refine hK.out _ _ hcur (fun hHeld => ?_)
              clear hK K hHeld
              (try simp only [Act.put, List.setIfInBounds_toArray, List.set_cons_zero, List.set_cons_succ])
              refine wpAnyH_ready (rs := [5]) (by kernel_rfl) (by simp) ?_
              refine AllReadyH.cons (o := _) rfl (fun K hK => ?_) AllReadyH.nil
              go_simp; (with_reducible refine (mulF F Bl23 (by repeat (first | exact List.mem_cons_self .. | apply List.mem_cons_of_mem)) (by repeat (first | exact List.mem_cons_self .. | apply List.mem_cons_of_mem)) (by omega)).mono ?_); rintro e wn ⟨vn, rfl, ⟨b24, A24, n24, c24, rfl, o, hf⟩, hb⟩; replace F := (F.below hb).cons o; have hne24_8 : ∀ k ∈ addrBlock A24, k ≠ g8 := (fun k hk e => by (have h1 := (hf k hk).1; have h2 := B8.lt; omega)); have hfr24 : ∀ k ∈ addrBlock A24, k < _ := (fun k hk => (hf k hk).2); clear hf; replace B8 := B8.below hb; replace Bl23 := Bl23.below hb; replace hfr20 : ∀ k ∈ addrBlock A20, k < _ := (fun k hk => Nat.lt_of_lt_of_le (hfr20 k hk) hb.size); replace hfr22 : ∀ k ∈ addrBlock A22, k < _ := (fun k hk => Nat.lt_of_lt_of_le (hfr22 k hk) hb.size); replace hcur := bthen hcur hb; go_wp2_with fail
              refine hK.out _ _ hcur (fun hHeld => ?_)
              clear hK K hHeld
              (try simp only [Act.put, List.setIfInBounds_toArray, List.set_cons_zero, List.set_cons_succ])
              refine wpAnyH_ready (rs := [7]) (by kernel_rfl) (by simp) ?_
              refine AllReadyH.cons (o := _) rfl (fun K hK => ?_) AllReadyH.nil
              go_simp; (with_reducible refine (cF F (by repeat (first | exact List.mem_cons_self .. | apply List.mem_cons_of_mem))).mono ?_); rintro e wn ⟨vn, rfl, ⟨b26, A26, n26, c26, rfl, o, hf⟩, hb⟩; replace F := (F.below hb).cons o; have hne26_8 : ∀ k ∈ addrBlock A26, k ≠ g8 := (fun k hk e => by (have h1 := (hf k hk).1; have h2 := B8.lt; omega)); have hfr26 : ∀ k ∈ addrBlock A26, k < _ := (fun k hk => (hf k hk).2); clear hf; replace B8 := B8.below hb; replace hfr20 : ∀ k ∈ addrBlock A20, k < _ := (fun k hk => Nat.lt_of_lt_of_le (hfr20 k hk) hb.size); replace hfr22 : ∀ k ∈ addrBlock A22, k < _ := (fun k hk => Nat.lt_of_lt_of_le (hfr22 k hk) hb.size); replace hfr24 : ∀ k ∈ addrBlock A24, k < _ := (fun k hk => Nat.lt_of_lt_of_le (hfr24 k hk) hb.size); replace hcur := bthen hcur hb; go_wp2_with fail
              refine hK.out _ _ hcur (fun hHeld => ?_)
              clear hK K hHeld
              (try simp only [Act.put, List.setIfInBounds_toArray, List.set_cons_zero, List.set_cons_succ])
              refine wpAnyH_ready (rs := [9]) (by kernel_rfl) (by simp) ?_
              refine AllReadyH.cons (o := _) rfl (fun K hK => ?_) AllReadyH.nil
              go_simp; (with_reducible refine (cF F (by repeat (first | exact List.mem_cons_self .. | apply List.mem_cons_of_mem))).mono ?_); rintro e wn ⟨vn, rfl, ⟨b28, A28, n28, c28, rfl, o, hf⟩, hb⟩; replace F := (F.below hb).cons o; have hne28_8 : ∀ k ∈ addrBlock A28, k ≠ g8 := (fun k hk e => by (have h1 := (hf k hk).1; have h2 := B8.lt; omega)); have hfr28 : ∀ k ∈ addrBlock A28, k < _ := (fun k hk => (hf k hk).2); clear hf; replace B8 := B8.below hb; replace hfr20 : ∀ k ∈ addrBlock A20, k < _ := (fun k hk => Nat.lt_of_lt_of_le (hfr20 k hk) hb.size); replace hfr22 : ∀ k ∈ addrBlock A22, k < _ := (fun k hk => Nat.lt_of_lt_of_le (hfr22 k hk) hb.size); replace hfr24 : ∀ k ∈ addrBlock A24, k < _ := (fun k hk => Nat.lt_of_lt_of_le (hfr24 k hk) hb.size); replace hfr26 : ∀ k ∈ addrBlock A26, k < _ := (fun k hk => Nat.lt_of_lt_of_le (hfr26 k hk) hb.size); replace hcur := bthen hcur hb; go_wp2_with fail
              refine hK.out _ _ hcur (fun hHeld => ?_)
              clear hK K hHeld
              (try simp only [Act.put, List.setIfInBounds_toArray, List.set_cons_zero, List.set_cons_succ])
              refine wpAnyH_ready (rs := [10]) (by kernel_rfl) (by simp) ?_
              refine AllReadyH.cons (o := _) rfl (fun K hK => ?_) AllReadyH.nil
              refine st_lit (v := fun g => .slice (some ⟨g, 0, none⟩) 2 2) 29 rfl (cs := [.bool b26, .slice A26 n26 c26, .bool b28, .slice A28 n28 c28]) (t := 26) (by go_simp; try rfl) ?_; intro g29 wn hb Bl29 hg29; replace F := F.below hb; replace B8 := B8.below hb; replace hfr20 : ∀ k ∈ addrBlock A20, k < _ := (fun k hk => Nat.lt_of_lt_of_le (hfr20 k hk) hb.size); replace hfr22 : ∀ k ∈ addrBlock A22, k < _ := (fun k hk => Nat.lt_of_lt_of_le (hfr22 k hk) hb.size); replace hfr24 : ∀ k ∈ addrBlock A24, k < _ := (fun k hk => Nat.lt_of_lt_of_le (hfr24 k hk) hb.size); replace hfr26 : ∀ k ∈ addrBlock A26, k < _ := (fun k hk => Nat.lt_of_lt_of_le (hfr26 k hk) hb.size); replace hfr28 : ∀ k ∈ addrBlock A28, k < _ := (fun k hk => Nat.lt_of_lt_of_le (hfr28 k hk) hb.size); replace hcur := bthen hcur hb
              refine hK.out _ _ hcur (fun hHeld => ?_)
              clear hK K hHeld
              (try simp only [Act.put, List.setIfInBounds_toArray, List.set_cons_zero, List.set_cons_succ])
              refine wpAnyH_ready (rs := [11]) (by kernel_rfl) (by simp) ?_
              refine AllReadyH.cons (o := _) rfl (fun K hK => ?_) AllReadyH.nil
              go_simp; (with_reducible refine (mulF F Bl29 (by repeat (first | exact List.mem_cons_self .. | apply List.mem_cons_of_mem)) (by repeat (first | exact List.mem_cons_self .. | apply List.mem_cons_of_mem)) (by omega)).mono ?_); rintro e wn ⟨vn, rfl, ⟨b30, A30, n30, c30, rfl, o, hf⟩, hb⟩; replace F := (F.below hb).cons o; have hne30_8 : ∀ k ∈ addrBlock A30, k ≠ g8 := (fun k hk e => by (have h1 := (hf k hk).1; have h2 := B8.lt; omega)); have hfr30 : ∀ k ∈ addrBlock A30, k < _ := (fun k hk => (hf k hk).2); clear hf; replace B8 := B8.below hb; replace Bl29 := Bl29.below hb; replace hfr20 : ∀ k ∈ addrBlock A20, k < _ := (fun k hk => Nat.lt_of_lt_of_le (hfr20 k hk) hb.size); replace hfr22 : ∀ k ∈ addrBlock A22, k < _ := (fun k hk => Nat.lt_of_lt_of_le (hfr22 k hk) hb.size); replace hfr24 : ∀ k ∈ addrBlock A24, k < _ := (fun k hk => Nat.lt_of_lt_of_le (hfr24 k hk) hb.size); replace hfr26 : ∀ k ∈ addrBlock A26, k < _ := (fun k hk => Nat.lt_of_lt_of_le (hfr26 k hk) hb.size); replace hfr28 : ∀ k ∈ addrBlock A28, k < _ := (fun k hk => Nat.lt_of_lt_of_le (hfr28 k hk) hb.size); replace hcur := bthen hcur hb; go_wp2_with fail
              refine hK.out _ _ hcur (fun hHeld => ?_)
              clear hK K hHeld
              (try simp only [Act.put, List.setIfInBounds_toArray, List.set_cons_zero, List.set_cons_succ])
              refine wpAnyH_ready (rs := [12]) (by kernel_rfl) (by simp) ?_
              refine AllReadyH.cons (o := _) rfl (fun K hK => ?_) AllReadyH.nil
              refine st_lit (v := fun g => .slice (some ⟨g, 0, none⟩) 2 2) 31 rfl (cs := [.bool b24, .slice A24 n24 c24, .bool b30, .slice A30 n30 c30]) (t := 26) (by go_simp; try rfl) ?_; intro g31 wn hb Bl31 hg31; replace F := F.below hb; replace B8 := B8.below hb; replace hfr20 : ∀ k ∈ addrBlock A20, k < _ := (fun k hk => Nat.lt_of_lt_of_le (hfr20 k hk) hb.size); replace hfr22 : ∀ k ∈ addrBlock A22, k < _ := (fun k hk => Nat.lt_of_lt_of_le (hfr22 k hk) hb.size); replace hfr24 : ∀ k ∈ addrBlock A24, k < _ := (fun k hk => Nat.lt_of_lt_of_le (hfr24 k hk) hb.size); replace hfr26 : ∀ k ∈ addrBlock A26, k < _ := (fun k hk => Nat.lt_of_lt_of_le (hfr26 k hk) hb.size); replace hfr28 : ∀ k ∈ addrBlock A28, k < _ := (fun k hk => Nat.lt_of_lt_of_le (hfr28 k hk) hb.size); replace hfr30 : ∀ k ∈ addrBlock A30, k < _ := (fun k hk => Nat.lt_of_lt_of_le (hfr30 k hk) hb.size); replace hcur := bthen hcur hb
              refine hK.out _ _ hcur (fun hHeld => ?_)
              clear hK K hHeld
              (try simp only [Act.put, List.setIfInBounds_toArray, List.set_cons_zero, List.set_cons_succ])
              refine wpAnyH_ready (rs := [13]) (by kernel_rfl) (by simp) ?_
              refine AllReadyH.cons (o := _) rfl (fun K hK => ?_) AllReadyH.nil
              go_simp; (with_reducible refine (addF F Bl31 (by repeat (first | exact List.mem_cons_self .. | apply List.mem_cons_of_mem)) (by repeat (first | exact List.mem_cons_self .. | apply List.mem_cons_of_mem)) (by omega)).mono ?_); rintro e wn ⟨vn, rfl, ⟨b32, A32, n32, c32, rfl, o, hf⟩, hb⟩; replace F := (F.below hb).cons o; have hne32_8 : ∀ k ∈ addrBlock A32, k ≠ g8 := (fun k hk e => by (have h1 := (hf k hk).1; have h2 := B8.lt; omega)); have hfr32 : ∀ k ∈ addrBlock A32, k < _ := (fun k hk => (hf k hk).2); clear hf; replace B8 := B8.below hb; replace Bl31 := Bl31.below hb; replace hfr20 : ∀ k ∈ addrBlock A20, k < _ := (fun k hk => Nat.lt_of_lt_of_le (hfr20 k hk) hb.size); replace hfr22 : ∀ k ∈ addrBlock A22, k < _ := (fun k hk => Nat.lt_of_lt_of_le (hfr22 k hk) hb.size); replace hfr24 : ∀ k ∈ addrBlock A24, k < _ := (fun k hk => Nat.lt_of_lt_of_le (hfr24 k hk) hb.size); replace hfr26 : ∀ k ∈ addrBlock A26, k < _ := (fun k hk => Nat.lt_of_lt_of_le (hfr26 k hk) hb.size); replace hfr28 : ∀ k ∈ addrBlock A28, k < _ := (fun k hk => Nat.lt_of_lt_of_le (hfr28 k hk) hb.size); replace hfr30 : ∀ k ∈ addrBlock A30, k < _ := (fun k hk => Nat.lt_of_lt_of_le (hfr30 k hk) hb.size); replace hcur := bthen hcur hb; go_wp2_with fail
              refine hK.out _ _ hcur (fun hHeld => ?_)
              clear hK K hHeld
              (try simp only [Act.put, List.setIfInBounds_toArray, List.set_cons_zero, List.set_cons_succ])
              refine wpAnyH_ready (rs := [15]) (by kernel_rfl) (by simp) ?_
              refine AllReadyH.cons (o := _) rfl (fun K hK => ?_) AllReadyH.nil
              refine st_store rfl rfl B8 (news := [.bool b32, .slice A32 n32 c32]) (by rfl) infoNum (by simp) (by simp [Value.oneCell']) ?_; intro wn hon Bx; simp only [List.take_zero, List.nil_append, List.length_cons, List.length_nil, List.drop_succ_cons, List.drop_zero, List.append_nil, List.cons_append] at Bx; replace B8 := Bx; clear Bx; have oo8 : NR.Ok _ _ := (F.out _ (show (⟨b32, A32, n32, c32, _, _, _⟩ : NR) ∈ _ from (by repeat (first | exact List.mem_cons_self .. | apply List.mem_cons_of_mem)))).only hon hne32_8; have F1 := F; clear F; have F := F0.below (hcur.trans (hon.below hg8)); clear F1; replace hcur := hcur.trans (hon.below hg8); clear hon
              refine hK.out _ _ hcur (fun hHeld => ?_)
              clear hK K hHeld
              (try simp only [Act.put, List.setIfInBounds_toArray, List.set_cons_zero, List.set_cons_succ])
              refine wpAnyH_done (by kernel_rfl) ?_ _
              refine NoPanic.normal ?_
              obtain ⟨rfl⟩ := hQ7
              (go_wp2_with fail)
              go_meet
              exact ⟨g8, _, _, _, _, rfl, hcur, B8, (Fs.nil _).cons oo8⟩
            exact AllReadyH.nil
          refine AllReadyH.cons (o := _) rfl (fun K hK => ?_) ?_
          · refine st_alloc 8 rfl infoNum (cs := [.bool false, .slice none 0 0]) rfl ?_; intro g8 wn hb B8 hgn; have hne20_8 : ∀ k ∈ addrBlock A20, k ≠ g8 := (fun k hk e => by (have h1 := hfr20 k hk; omega)); have hne22_8 : ∀ k ∈ addrBlock A22, k ≠ g8 := (fun k hk e => by (have h1 := hfr22 k hk; omega)); have hg8 := Nat.le_trans hcur.size hgn; replace F := F.below hb; replace hfr20 : ∀ k ∈ addrBlock A20, k < _ := (fun k hk => Nat.lt_of_lt_of_le (hfr20 k hk) hb.size); replace hfr22 : ∀ k ∈ addrBlock A22, k < _ := (fun k hk => Nat.lt_of_lt_of_le (hfr22 k hk) hb.size); replace hcur := bthen hcur hb
            refine hK.out _ _ hcur (fun hHeld => ?_)
            clear hK K hHeld
            (try simp only [Act.put, List.setIfInBounds_toArray, List.set_cons_zero, List.set_cons_succ])
            refine wpAnyH_ready (rs := [4]) (by kernel_rfl) (by simp) ?_
            refine AllReadyH.cons (o := _) rfl (fun K hK => ?_) AllReadyH.nil
            refine st_lit (v := fun g => .slice (some ⟨g, 0, none⟩) 2 2) 23 rfl (cs := [.bool b20, .slice A20 n20 c20, .bool b22, .slice A22 n22 c22]) (t := 26) (by go_simp; try rfl) ?_; intro g23 wn hb Bl23 hg23; replace F := F.below hb; replace B8 := B8.below hb; replace hfr20 : ∀ k ∈ addrBlock A20, k < _ := (fun k hk => Nat.lt_of_lt_of_le (hfr20 k hk) hb.size); replace hfr22 : ∀ k ∈ addrBlock A22, k < _ := (fun k hk => Nat.lt_of_lt_of_le (hfr22 k hk) hb.size); replace hcur := bthen hcur hb
            refine hK.out _ _ hcur (fun hHeld => ?_)
            clear hK K hHeld
            (try simp only [Act.put, List.setIfInBounds_toArray, List.set_cons_zero, List.set_cons_succ])
            refine wpAnyH_ready (rs := [5]) (by kernel_rfl) (by simp) ?_
            refine AllReadyH.cons (o := _) rfl (fun K hK => ?_) AllReadyH.nil
            go_simp; (with_reducible refine (mulF F Bl23 (by repeat (first | exact List.mem_cons_self .. | apply List.mem_cons_of_mem)) (by repeat (first | exact List.mem_cons_self .. | apply List.mem_cons_of_mem)) (by omega)).mono ?_); rintro e wn ⟨vn, rfl, ⟨b24, A24, n24, c24, rfl, o, hf⟩, hb⟩; replace F := (F.below hb).cons o; have hne24_8 : ∀ k ∈ addrBlock A24, k ≠ g8 := (fun k hk e => by (have h1 := (hf k hk).1; have h2 := B8.lt; omega)); have hfr24 : ∀ k ∈ addrBlock A24, k < _ := (fun k hk => (hf k hk).2); clear hf; replace B8 := B8.below hb; replace Bl23 := Bl23.below hb; replace hfr20 : ∀ k ∈ addrBlock A20, k < _ := (fun k hk => Nat.lt_of_lt_of_le (hfr20 k hk) hb.size); replace hfr22 : ∀ k ∈ addrBlock A22, k < _ := (fun k hk => Nat.lt_of_lt_of_le (hfr22 k hk) hb.size); replace hcur := bthen hcur hb; go_wp2_with fail
            refine hK.out _ _ hcur (fun hHeld => ?_)
            clear hK K hHeld
            (try simp only [Act.put, List.setIfInBounds_toArray, List.set_cons_zero, List.set_cons_succ])
            refine wpAnyH_ready (rs := [7]) (by kernel_rfl) (by simp) ?_
            refine AllReadyH.cons (o := _) rfl (fun K hK => ?_) AllReadyH.nil
            go_simp; (with_reducible refine (cF F (by repeat (first | exact List.mem_cons_self .. | apply List.mem_cons_of_mem))).mono ?_); rintro e wn ⟨vn, rfl, ⟨b26, A26, n26, c26, rfl, o, hf⟩, hb⟩; replace F := (F.below hb).cons o; have hne26_8 : ∀ k ∈ addrBlock A26, k ≠ g8 := (fun k hk e => by (have h1 := (hf k hk).1; have h2 := B8.lt; omega)); have hfr26 : ∀ k ∈ addrBlock A26, k < _ := (fun k hk => (hf k hk).2); clear hf; replace B8 := B8.below hb; replace hfr20 : ∀ k ∈ addrBlock A20, k < _ := (fun k hk => Nat.lt_of_lt_of_le (hfr20 k hk) hb.size); replace hfr22 : ∀ k ∈ addrBlock A22, k < _ := (fun k hk => Nat.lt_of_lt_of_le (hfr22 k hk) hb.size); replace hfr24 : ∀ k ∈ addrBlock A24, k < _ := (fun k hk => Nat.lt_of_lt_of_le (hfr24 k hk) hb.size); replace hcur := bthen hcur hb; go_wp2_with fail
            refine hK.out _ _ hcur (fun hHeld => ?_)
            clear hK K hHeld
            (try simp only [Act.put, List.setIfInBounds_toArray, List.set_cons_zero, List.set_cons_succ])
            refine wpAnyH_ready (rs := [9]) (by kernel_rfl) (by simp) ?_
            refine AllReadyH.cons (o := _) rfl (fun K hK => ?_) AllReadyH.nil
            go_simp; (with_reducible refine (cF F (by repeat (first | exact List.mem_cons_self .. | apply List.mem_cons_of_mem))).mono ?_); rintro e wn ⟨vn, rfl, ⟨b28, A28, n28, c28, rfl, o, hf⟩, hb⟩; replace F := (F.below hb).cons o; have hne28_8 : ∀ k ∈ addrBlock A28, k ≠ g8 := (fun k hk e => by (have h1 := (hf k hk).1; have h2 := B8.lt; omega)); have hfr28 : ∀ k ∈ addrBlock A28, k < _ := (fun k hk => (hf k hk).2); clear hf; replace B8 := B8.below hb; replace hfr20 : ∀ k ∈ addrBlock A20, k < _ := (fun k hk => Nat.lt_of_lt_of_le (hfr20 k hk) hb.size); replace hfr22 : ∀ k ∈ addrBlock A22, k < _ := (fun k hk => Nat.lt_of_lt_of_le (hfr22 k hk) hb.size); replace hfr24 : ∀ k ∈ addrBlock A24, k < _ := (fun k hk => Nat.lt_of_lt_of_le (hfr24 k hk) hb.size); replace hfr26 : ∀ k ∈ addrBlock A26, k < _ := (fun k hk => Nat.lt_of_lt_of_le (hfr26 k hk) hb.size); replace hcur := bthen hcur hb; go_wp2_with fail
            refine hK.out _ _ hcur (fun hHeld => ?_)
            clear hK K hHeld
            (try simp only [Act.put, List.setIfInBounds_toArray, List.set_cons_zero, List.set_cons_succ])
            refine wpAnyH_ready (rs := [10]) (by kernel_rfl) (by simp) ?_
            refine AllReadyH.cons (o := _) rfl (fun K hK => ?_) AllReadyH.nil
            refine st_lit (v := fun g => .slice (some ⟨g, 0, none⟩) 2 2) 29 rfl (cs := [.bool b26, .slice A26 n26 c26, .bool b28, .slice A28 n28 c28]) (t := 26) (by go_simp; try rfl) ?_; intro g29 wn hb Bl29 hg29; replace F := F.below hb; replace B8 := B8.below hb; replace hfr20 : ∀ k ∈ addrBlock A20, k < _ := (fun k hk => Nat.lt_of_lt_of_le (hfr20 k hk) hb.size); replace hfr22 : ∀ k ∈ addrBlock A22, k < _ := (fun k hk => Nat.lt_of_lt_of_le (hfr22 k hk) hb.size); replace hfr24 : ∀ k ∈ addrBlock A24, k < _ := (fun k hk => Nat.lt_of_lt_of_le (hfr24 k hk) hb.size); replace hfr26 : ∀ k ∈ addrBlock A26, k < _ := (fun k hk => Nat.lt_of_lt_of_le (hfr26 k hk) hb.size); replace hfr28 : ∀ k ∈ addrBlock A28, k < _ := (fun k hk => Nat.lt_of_lt_of_le (hfr28 k hk) hb.size); replace hcur := bthen hcur hb
            refine hK.out _ _ hcur (fun hHeld => ?_)
            clear hK K hHeld
            (try simp only [Act.put, List.setIfInBounds_toArray, List.set_cons_zero, List.set_cons_succ])
            refine wpAnyH_ready (rs := [11]) (by kernel_rfl) (by simp) ?_
            refine AllReadyH.cons (o := _) rfl (fun K hK => ?_) AllReadyH.nil
            go_simp; (with_reducible refine (mulF F Bl29 (by repeat (first | exact List.mem_cons_self .. | apply List.mem_cons_of_mem)) (by repeat (first | exact List.mem_cons_self .. | apply List.mem_cons_of_mem)) (by omega)).mono ?_); rintro e wn ⟨vn, rfl, ⟨b30, A30, n30, c30, rfl, o, hf⟩, hb⟩; replace F := (F.below hb).cons o; have hne30_8 : ∀ k ∈ addrBlock A30, k ≠ g8 := (fun k hk e => by (have h1 := (hf k hk).1; have h2 := B8.lt; omega)); have hfr30 : ∀ k ∈ addrBlock A30, k < _ := (fun k hk => (hf k hk).2); clear hf; replace B8 := B8.below hb; replace Bl29 := Bl29.below hb; replace hfr20 : ∀ k ∈ addrBlock A20, k < _ := (fun k hk => Nat.lt_of_lt_of_le (hfr20 k hk) hb.size); replace hfr22 : ∀ k ∈ addrBlock A22, k < _ := (fun k hk => Nat.lt_of_lt_of_le (hfr22 k hk) hb.size); replace hfr24 : ∀ k ∈ addrBlock A24, k < _ := (fun k hk => Nat.lt_of_lt_of_le (hfr24 k hk) hb.size); replace hfr26 : ∀ k ∈ addrBlock A26, k < _ := (fun k hk => Nat.lt_of_lt_of_le (hfr26 k hk) hb.size); replace hfr28 : ∀ k ∈ addrBlock A28, k < _ := (fun k hk => Nat.lt_of_lt_of_le (hfr28 k hk) hb.size); replace hcur := bthen hcur hb; go_wp2_with fail
            refine hK.out _ _ hcur (fun hHeld => ?_)
            clear hK K hHeld
            (try simp only [Act.put, List.setIfInBounds_toArray, List.set_cons_zero, List.set_cons_succ])
            refine wpAnyH_ready (rs := [12]) (by kernel_rfl) (by simp) ?_
            refine AllReadyH.cons (o := _) rfl (fun K hK => ?_) AllReadyH.nil
            refine st_lit (v := fun g => .slice (some ⟨g, 0, none⟩) 2 2) 31 rfl (cs := [.bool b24, .slice A24 n24 c24, .bool b30, .slice A30 n30 c30]) (t := 26) (by go_simp; try rfl) ?_; intro g31 wn hb Bl31 hg31; replace F := F.below hb; replace B8 := B8.below hb; replace hfr20 : ∀ k ∈ addrBlock A20, k < _ := (fun k hk => Nat.lt_of_lt_of_le (hfr20 k hk) hb.size); replace hfr22 : ∀ k ∈ addrBlock A22, k < _ := (fun k hk => Nat.lt_of_lt_of_le (hfr22 k hk) hb.size); replace hfr24 : ∀ k ∈ addrBlock A24, k < _ := (fun k hk => Nat.lt_of_lt_of_le (hfr24 k hk) hb.size); replace hfr26 : ∀ k ∈ addrBlock A26, k < _ := (fun k hk => Nat.lt_of_lt_of_le (hfr26 k hk) hb.size); replace hfr28 : ∀ k ∈ addrBlock A28, k < _ := (fun k hk => Nat.lt_of_lt_of_le (hfr28 k hk) hb.size); replace hfr30 : ∀ k ∈ addrBlock A30, k < _ := (fun k hk => Nat.lt_of_lt_of_le (hfr30 k hk) hb.size); replace hcur := bthen hcur hb
            refine hK.out _ _ hcur (fun hHeld => ?_)
            clear hK K hHeld
            (try simp only [Act.put, List.setIfInBounds_toArray, List.set_cons_zero, List.set_cons_succ])
            refine wpAnyH_ready (rs := [13]) (by kernel_rfl) (by simp) ?_
            refine AllReadyH.cons (o := _) rfl (fun K hK => ?_) AllReadyH.nil
            go_simp; (with_reducible refine (addF F Bl31 (by repeat (first | exact List.mem_cons_self .. | apply List.mem_cons_of_mem)) (by repeat (first | exact List.mem_cons_self .. | apply List.mem_cons_of_mem)) (by omega)).mono ?_); rintro e wn ⟨vn, rfl, ⟨b32, A32, n32, c32, rfl, o, hf⟩, hb⟩; replace F := (F.below hb).cons o; have hne32_8 : ∀ k ∈ addrBlock A32, k ≠ g8 := (fun k hk e => by (have h1 := (hf k hk).1; have h2 := B8.lt; omega)); have hfr32 : ∀ k ∈ addrBlock A32, k < _ := (fun k hk => (hf k hk).2); clear hf; replace B8 := B8.below hb; replace Bl31 := Bl31.below hb; replace hfr20 : ∀ k ∈ addrBlock A20, k < _ := (fun k hk => Nat.lt_of_lt_of_le (hfr20 k hk) hb.size); replace hfr22 : ∀ k ∈ addrBlock A22, k < _ := (fun k hk => Nat.lt_of_lt_of_le (hfr22 k hk) hb.size); replace hfr24 : ∀ k ∈ addrBlock A24, k < _ := (fun k hk => Nat.lt_of_lt_of_le (hfr24 k hk) hb.size); replace hfr26 : ∀ k ∈ addrBlock A26, k < _ := (fun k hk => Nat.lt_of_lt_of_le (hfr26 k hk) hb.size); replace hfr28 : ∀ k ∈ addrBlock A28, k < _ := (fun k hk => Nat.lt_of_lt_of_le (hfr28 k hk) hb.size); replace hfr30 : ∀ k ∈ addrBlock A30, k < _ := (fun k hk => Nat.lt_of_lt_of_le (hfr30 k hk) hb.size); replace hcur := bthen hcur hb; go_wp2_with fail
            refine hK.out _ _ hcur (fun hHeld => ?_)
            clear hK K hHeld
            (try simp only [Act.put, List.setIfInBounds_toArray, List.set_cons_zero, List.set_cons_succ])
            refine wpAnyH_ready (rs := [15]) (by kernel_rfl) (by simp) ?_
            refine AllReadyH.cons (o := _) rfl (fun K hK => ?_) AllReadyH.nil
            refine st_store rfl rfl B8 (news := [.bool b32, .slice A32 n32 c32]) (by rfl) infoNum (by simp) (by simp [Value.oneCell']) ?_; intro wn hon Bx; simp only [List.take_zero, List.nil_append, List.length_cons, List.length_nil, List.drop_succ_cons, List.drop_zero, List.append_nil, List.cons_append] at Bx; replace B8 := Bx; clear Bx; have oo8 : NR.Ok _ _ := (F.out _ (show (⟨b32, A32, n32, c32, _, _, _⟩ : NR) ∈ _ from (by repeat (first | exact List.mem_cons_self .. | apply List.mem_cons_of_mem)))).only hon hne32_8; have F1 := F; clear F; have F := F0.below (hcur.trans (hon.below hg8)); clear F1; replace hcur := hcur.trans (hon.below hg8); clear hon
            refine hK.out _ _ hcur (fun hHeld => ?_)
            clear hK K hHeld
            (try simp only [Act.put, List.setIfInBounds_toArray, List.set_cons_zero, List.set_cons_succ])
            refine wpAnyH_done (by kernel_rfl) ?_ _
            refine NoPanic.normal ?_
            obtain ⟨rfl⟩ := hQ7
            (go_wp2_with fail)
            go_meet
            exact ⟨g8, _, _, _, _, rfl, hcur, B8, (Fs.nil _).cons oo8⟩
          exact AllReadyH.nil
        refine AllReadyH.cons (o := _) rfl (fun K hK => ?_) ?_
        · refine st_alloc 8 rfl infoNum (cs := [.bool false, .slice none 0 0]) rfl ?_; intro g8 wn hb B8 hgn; have hne20_8 : ∀ k ∈ addrBlock A20, k ≠ g8 := (fun k hk e => by (have h1 := hfr20 k hk; omega)); have hg8 := Nat.le_trans hcur.size hgn; replace F := F.below hb; replace hfr20 : ∀ k ∈ addrBlock A20, k < _ := (fun k hk => Nat.lt_of_lt_of_le (hfr20 k hk) hb.size); replace hcur := bthen hcur hb
          refine hK.out _ _ hcur (fun hHeld => ?_)
          clear hK K hHeld
          (try simp only [Act.put, List.setIfInBounds_toArray, List.set_cons_zero, List.set_cons_succ])
          refine wpAnyH_ready (rs := [3]) (by kernel_rfl) (by simp) ?_
          refine AllReadyH.cons (o := _) rfl (fun K hK => ?_) AllReadyH.nil
          go_simp; (with_reducible refine (cF F (by repeat (first | exact List.mem_cons_self .. | apply List.mem_cons_of_mem))).mono ?_); rintro e wn ⟨vn, rfl, ⟨b22, A22, n22, c22, rfl, o, hf⟩, hb⟩; replace F := (F.below hb).cons o; have hne22_8 : ∀ k ∈ addrBlock A22, k ≠ g8 := (fun k hk e => by (have h1 := (hf k hk).1; have h2 := B8.lt; omega)); have hfr22 : ∀ k ∈ addrBlock A22, k < _ := (fun k hk => (hf k hk).2); clear hf; replace B8 := B8.below hb; replace hfr20 : ∀ k ∈ addrBlock A20, k < _ := (fun k hk => Nat.lt_of_lt_of_le (hfr20 k hk) hb.size); replace hcur := bthen hcur hb; go_wp2_with fail
          refine hK.out _ _ hcur (fun hHeld => ?_)
          clear hK K hHeld
          (try simp only [Act.put, List.setIfInBounds_toArray, List.set_cons_zero, List.set_cons_succ])
          refine wpAnyH_ready (rs := [4]) (by kernel_rfl) (by simp) ?_
          refine AllReadyH.cons (o := _) rfl (fun K hK => ?_) AllReadyH.nil
          refine st_lit (v := fun g => .slice (some ⟨g, 0, none⟩) 2 2) 23 rfl (cs := [.bool b20, .slice A20 n20 c20, .bool b22, .slice A22 n22 c22]) (t := 26) (by go_simp; try rfl) ?_; intro g23 wn hb Bl23 hg23; replace F := F.below hb; replace B8 := B8.below hb; replace hfr20 : ∀ k ∈ addrBlock A20, k < _ := (fun k hk => Nat.lt_of_lt_of_le (hfr20 k hk) hb.size); replace hfr22 : ∀ k ∈ addrBlock A22, k < _ := (fun k hk => Nat.lt_of_lt_of_le (hfr22 k hk) hb.size); replace hcur := bthen hcur hb
          refine hK.out _ _ hcur (fun hHeld => ?_)
          clear hK K hHeld
          (try simp only [Act.put, List.setIfInBounds_toArray, List.set_cons_zero, List.set_cons_succ])
          refine wpAnyH_ready (rs := [5]) (by kernel_rfl) (by simp) ?_
          refine AllReadyH.cons (o := _) rfl (fun K hK => ?_) AllReadyH.nil
          go_simp; (with_reducible refine (mulF F Bl23 (by repeat (first | exact List.mem_cons_self .. | apply List.mem_cons_of_mem)) (by repeat (first | exact List.mem_cons_self .. | apply List.mem_cons_of_mem)) (by omega)).mono ?_); rintro e wn ⟨vn, rfl, ⟨b24, A24, n24, c24, rfl, o, hf⟩, hb⟩; replace F := (F.below hb).cons o; have hne24_8 : ∀ k ∈ addrBlock A24, k ≠ g8 := (fun k hk e => by (have h1 := (hf k hk).1; have h2 := B8.lt; omega)); have hfr24 : ∀ k ∈ addrBlock A24, k < _ := (fun k hk => (hf k hk).2); clear hf; replace B8 := B8.below hb; replace Bl23 := Bl23.below hb; replace hfr20 : ∀ k ∈ addrBlock A20, k < _ := (fun k hk => Nat.lt_of_lt_of_le (hfr20 k hk) hb.size); replace hfr22 : ∀ k ∈ addrBlock A22, k < _ := (fun k hk => Nat.lt_of_lt_of_le (hfr22 k hk) hb.size); replace hcur := bthen hcur hb; go_wp2_with fail
          refine hK.out _ _ hcur (fun hHeld => ?_)
          clear hK K hHeld
          (try simp only [Act.put, List.setIfInBounds_toArray, List.set_cons_zero, List.set_cons_succ])
          refine wpAnyH_ready (rs := [7]) (by kernel_rfl) (by simp) ?_
          refine AllReadyH.cons (o := _) rfl (fun K hK => ?_) AllReadyH.nil
          go_simp; (with_reducible refine (cF F (by repeat (first | exact List.mem_cons_self .. | apply List.mem_cons_of_mem))).mono ?_); rintro e wn ⟨vn, rfl, ⟨b26, A26, n26, c26, rfl, o, hf⟩, hb⟩; replace F := (F.below hb).cons o; have hne26_8 : ∀ k ∈ addrBlock A26, k ≠ g8 := (fun k hk e => by (have h1 := (hf k hk).1; have h2 := B8.lt; omega)); have hfr26 : ∀ k ∈ addrBlock A26, k < _ := (fun k hk => (hf k hk).2); clear hf; replace B8 := B8.below hb; replace hfr20 : ∀ k ∈ addrBlock A20, k < _ := (fun k hk => Nat.lt_of_lt_of_le (hfr20 k hk) hb.size); replace hfr22 : ∀ k ∈ addrBlock A22, k < _ := (fun k hk => Nat.lt_of_lt_of_le (hfr22 k hk) hb.size); replace hfr24 : ∀ k ∈ addrBlock A24, k < _ := (fun k hk => Nat.lt_of_lt_of_le (hfr24 k hk) hb.size); replace hcur := bthen hcur hb; go_wp2_with fail
          refine hK.out _ _ hcur (fun hHeld => ?_)
          clear hK K hHeld
          (try simp only [Act.put, List.setIfInBounds_toArray, List.set_cons_zero, List.set_cons_succ])
          refine wpAnyH_ready (rs := [9]) (by kernel_rfl) (by simp) ?_
          refine AllReadyH.cons (o := _) rfl (fun K hK => ?_) AllReadyH.nil
          go_simp; (with_reducible refine (cF F (by repeat (first | exact List.mem_cons_self .. | apply List.mem_cons_of_mem))).mono ?_); rintro e wn ⟨vn, rfl, ⟨b28, A28, n28, c28, rfl, o, hf⟩, hb⟩; replace F := (F.below hb).cons o; have hne28_8 : ∀ k ∈ addrBlock A28, k ≠ g8 := (fun k hk e => by (have h1 := (hf k hk).1; have h2 := B8.lt; omega)); have hfr28 : ∀ k ∈ addrBlock A28, k < _ := (fun k hk => (hf k hk).2); clear hf; replace B8 := B8.below hb; replace hfr20 : ∀ k ∈ addrBlock A20, k < _ := (fun k hk => Nat.lt_of_lt_of_le (hfr20 k hk) hb.size); replace hfr22 : ∀ k ∈ addrBlock A22, k < _ := (fun k hk => Nat.lt_of_lt_of_le (hfr22 k hk) hb.size); replace hfr24 : ∀ k ∈ addrBlock A24, k < _ := (fun k hk => Nat.lt_of_lt_of_le (hfr24 k hk) hb.size); replace hfr26 : ∀ k ∈ addrBlock A26, k < _ := (fun k hk => Nat.lt_of_lt_of_le (hfr26 k hk) hb.size); replace hcur := bthen hcur hb; go_wp2_with fail
          refine hK.out _ _ hcur (fun hHeld => ?_)
          clear hK K hHeld
          (try simp only [Act.put, List.setIfInBounds_toArray, List.set_cons_zero, List.set_cons_succ])
          refine wpAnyH_ready (rs := [10]) (by kernel_rfl) (by simp) ?_
          refine AllReadyH.cons (o := _) rfl (fun K hK => ?_) AllReadyH.nil
          refine st_lit (v := fun g => .slice (some ⟨g, 0, none⟩) 2 2) 29 rfl (cs := [.bool b26, .slice A26 n26 c26, .bool b28, .slice A28 n28 c28]) (t := 26) (by go_simp; try rfl) ?_; intro g29 wn hb Bl29 hg29; replace F := F.below hb; replace B8 := B8.below hb; replace hfr20 : ∀ k ∈ addrBlock A20, k < _ := (fun k hk => Nat.lt_of_lt_of_le (hfr20 k hk) hb.size); replace hfr22 : ∀ k ∈ addrBlock A22, k < _ := (fun k hk => Nat.lt_of_lt_of_le (hfr22 k hk) hb.size); replace hfr24 : ∀ k ∈ addrBlock A24, k < _ := (fun k hk => Nat.lt_of_lt_of_le (hfr24 k hk) hb.size); replace hfr26 : ∀ k ∈ addrBlock A26, k < _ := (fun k hk => Nat.lt_of_lt_of_le (hfr26 k hk) hb.size); replace hfr28 : ∀ k ∈ addrBlock A28, k < _ := (fun k hk => Nat.lt_of_lt_of_le (hfr28 k hk) hb.size); replace hcur := bthen hcur hb
          refine hK.out _ _ hcur (fun hHeld => ?_)
          clear hK K hHeld
          (try simp only [Act.put, List.setIfInBounds_toArray, List.set_cons_zero, List.set_cons_succ])
          refine wpAnyH_ready (rs := [11]) (by kernel_rfl) (by simp) ?_
          refine AllReadyH.cons (o := _) rfl (fun K hK => ?_) AllReadyH.nil
          go_simp; (with_reducible refine (mulF F Bl29 (by repeat (first | exact List.mem_cons_self .. | apply List.mem_cons_of_mem)) (by repeat (first | exact List.mem_cons_self .. | apply List.mem_cons_of_mem)) (by omega)).mono ?_); rintro e wn ⟨vn, rfl, ⟨b30, A30, n30, c30, rfl, o, hf⟩, hb⟩; replace F := (F.below hb).cons o; have hne30_8 : ∀ k ∈ addrBlock A30, k ≠ g8 := (fun k hk e => by (have h1 := (hf k hk).1; have h2 := B8.lt; omega)); have hfr30 : ∀ k ∈ addrBlock A30, k < _ := (fun k hk => (hf k hk).2); clear hf; replace B8 := B8.below hb; replace Bl29 := Bl29.below hb; replace hfr20 : ∀ k ∈ addrBlock A20, k < _ := (fun k hk => Nat.lt_of_lt_of_le (hfr20 k hk) hb.size); replace hfr22 : ∀ k ∈ addrBlock A22, k < _ := (fun k hk => Nat.lt_of_lt_of_le (hfr22 k hk) hb.size); replace hfr24 : ∀ k ∈ addrBlock A24, k < _ := (fun k hk => Nat.lt_of_lt_of_le (hfr24 k hk) hb.size); replace hfr26 : ∀ k ∈ addrBlock A26, k < _ := (fun k hk => Nat.lt_of_lt_of_le (hfr26 k hk) hb.size); replace hfr28 : ∀ k ∈ addrBlock A28, k < _ := (fun k hk => Nat.lt_of_lt_of_le (hfr28 k hk) hb.size); replace hcur := bthen hcur hb; go_wp2_with fail
          refine hK.out _ _ hcur (fun hHeld => ?_)
          clear hK K hHeld
          (try simp only [Act.put, List.setIfInBounds_toArray, List.set_cons_zero, List.set_cons_succ])
          refine wpAnyH_ready (rs := [12]) (by kernel_rfl) (by simp) ?_
          refine AllReadyH.cons (o := _) rfl (fun K hK => ?_) AllReadyH.nil
          refine st_lit (v := fun g => .slice (some ⟨g, 0, none⟩) 2 2) 31 rfl (cs := [.bool b24, .slice A24 n24 c24, .bool b30, .slice A30 n30 c30]) (t := 26) (by go_simp; try rfl) ?_; intro g31 wn hb Bl31 hg31; replace F := F.below hb; replace B8 := B8.below hb; replace hfr20 : ∀ k ∈ addrBlock A20, k < _ := (fun k hk => Nat.lt_of_lt_of_le (hfr20 k hk) hb.size); replace hfr22 : ∀ k ∈ addrBlock A22, k < _ := (fun k hk => Nat.lt_of_lt_of_le (hfr22 k hk) hb.size); replace hfr24 : ∀ k ∈ addrBlock A24, k < _ := (fun k hk => Nat.lt_of_lt_of_le (hfr24 k hk) hb.size); replace hfr26 : ∀ k ∈ addrBlock A26, k < _ := (fun k hk => Nat.lt_of_lt_of_le (hfr26 k hk) hb.size); replace hfr28 : ∀ k ∈ addrBlock A28, k < _ := (fun k hk => Nat.lt_of_lt_of_le (hfr28 k hk) hb.size); replace hfr30 : ∀ k ∈ addrBlock A30, k < _ := (fun k hk => Nat.lt_of_lt_of_le (hfr30 k hk) hb.size); replace hcur := bthen hcur hb
          refine hK.out _ _ hcur (fun hHeld => ?_)
          clear hK K hHeld
          (try simp only [Act.put, List.setIfInBounds_toArray, List.set_cons_zero, List.set_cons_succ])
          refine wpAnyH_ready (rs := [13]) (by kernel_rfl) (by simp) ?_
          refine AllReadyH.cons (o := _) rfl (fun K hK => ?_) AllReadyH.nil
          go_simp; (with_reducible refine (addF F Bl31 (by repeat (first | exact List.mem_cons_self .. | apply List.mem_cons_of_mem)) (by repeat (first | exact List.mem_cons_self .. | apply List.mem_cons_of_mem)) (by omega)).mono ?_); rintro e wn ⟨vn, rfl, ⟨b32, A32, n32, c32, rfl, o, hf⟩, hb⟩; replace F := (F.below hb).cons o; have hne32_8 : ∀ k ∈ addrBlock A32, k ≠ g8 := (fun k hk e => by (have h1 := (hf k hk).1; have h2 := B8.lt; omega)); have hfr32 : ∀ k ∈ addrBlock A32, k < _ := (fun k hk => (hf k hk).2); clear hf; replace B8 := B8.below hb; replace Bl31 := Bl31.below hb; replace hfr20 : ∀ k ∈ addrBlock A20, k < _ := (fun k hk => Nat.lt_of_lt_of_le (hfr20 k hk) hb.size); replace hfr22 : ∀ k ∈ addrBlock A22, k < _ := (fun k hk => Nat.lt_of_lt_of_le (hfr22 k hk) hb.size); replace hfr24 : ∀ k ∈ addrBlock A24, k < _ := (fun k hk => Nat.lt_of_lt_of_le (hfr24 k hk) hb.size); replace hfr26 : ∀ k ∈ addrBlock A26, k < _ := (fun k hk => Nat.lt_of_lt_of_le (hfr26 k hk) hb.size); replace hfr28 : ∀ k ∈ addrBlock A28, k < _ := (fun k hk => Nat.lt_of_lt_of_le (hfr28 k hk) hb.size); replace hfr30 : ∀ k ∈ addrBlock A30, k < _ := (fun k hk => Nat.lt_of_lt_of_le (hfr30 k hk) hb.size); replace hcur := bthen hcur hb; go_wp2_with fail
          refine hK.out _ _ hcur (fun hHeld => ?_)
          clear hK K hHeld
          (try simp only [Act.put, List.setIfInBounds_toArray, List.set_cons_zero, List.set_cons_succ])
          refine wpAnyH_ready (rs := [15]) (by kernel_rfl) (by simp) ?_
          refine AllReadyH.cons (o := _) rfl (fun K hK => ?_) AllReadyH.nil
          refine st_store rfl rfl B8 (news := [.bool b32, .slice A32 n32 c32]) (by rfl) infoNum (by simp) (by simp [Value.oneCell']) ?_; intro wn hon Bx; simp only [List.take_zero, List.nil_append, List.length_cons, List.length_nil, List.drop_succ_cons, List.drop_zero, List.append_nil, List.cons_append] at Bx; replace B8 := Bx; clear Bx; have oo8 : NR.Ok _ _ := (F.out _ (show (⟨b32, A32, n32, c32, _, _, _⟩ : NR) ∈ _ from (by repeat (first | exact List.mem_cons_self .. | apply List.mem_cons_of_mem)))).only hon hne32_8; have F1 := F; clear F; have F := F0.below (hcur.trans (hon.below hg8)); clear F1; replace hcur := hcur.trans (hon.below hg8); clear hon
          refine hK.out _ _ hcur (fun hHeld => ?_)
          clear hK K hHeld
          (try simp only [Act.put, List.setIfInBounds_toArray, List.set_cons_zero, List.set_cons_succ])
          refine wpAnyH_done (by kernel_rfl) ?_ _
          refine NoPanic.normal ?_
          obtain ⟨rfl⟩ := hQ7
          (go_wp2_with fail)
          go_meet
          exact ⟨g8, _, _, _, _, rfl, hcur, B8, (Fs.nil _).cons oo8⟩
        exact AllReadyH.nil
      refine AllReadyH.cons (o := _) rfl (fun K hK => ?_) ?_
      · refine st_alloc 8 rfl infoNum (cs := [.bool false, .slice none 0 0]) rfl ?_; intro g8 wn hb B8 hgn; have hg8 := Nat.le_trans hcur.size hgn; replace F := F.below hb; replace hcur := bthen hcur hb
        refine hK.out _ _ hcur (fun hHeld => ?_)
        clear hK K hHeld
        (try simp only [Act.put, List.setIfInBounds_toArray, List.set_cons_zero, List.set_cons_succ])
        refine wpAnyH_ready (rs := [1]) (by kernel_rfl) (by simp) ?_
        refine AllReadyH.cons (o := _) rfl (fun K hK => ?_) AllReadyH.nil
        go_simp; (with_reducible refine (cF F (by repeat (first | exact List.mem_cons_self .. | apply List.mem_cons_of_mem))).mono ?_); rintro e wn ⟨vn, rfl, ⟨b20, A20, n20, c20, rfl, o, hf⟩, hb⟩; replace F := (F.below hb).cons o; have hne20_8 : ∀ k ∈ addrBlock A20, k ≠ g8 := (fun k hk e => by (have h1 := (hf k hk).1; have h2 := B8.lt; omega)); have hfr20 : ∀ k ∈ addrBlock A20, k < _ := (fun k hk => (hf k hk).2); clear hf; replace B8 := B8.below hb; replace hcur := bthen hcur hb; go_wp2_with fail
        refine hK.out _ _ hcur (fun hHeld => ?_)
        clear hK K hHeld
        (try simp only [Act.put, List.setIfInBounds_toArray, List.set_cons_zero, List.set_cons_succ])
        refine wpAnyH_ready (rs := [3]) (by kernel_rfl) (by simp) ?_
        refine AllReadyH.cons (o := _) rfl (fun K hK => ?_) AllReadyH.nil
        go_simp; (with_reducible refine (cF F (by repeat (first | exact List.mem_cons_self .. | apply List.mem_cons_of_mem))).mono ?_); rintro e wn ⟨vn, rfl, ⟨b22, A22, n22, c22, rfl, o, hf⟩, hb⟩; replace F := (F.below hb).cons o; have hne22_8 : ∀ k ∈ addrBlock A22, k ≠ g8 := (fun k hk e => by (have h1 := (hf k hk).1; have h2 := B8.lt; omega)); have hfr22 : ∀ k ∈ addrBlock A22, k < _ := (fun k hk => (hf k hk).2); clear hf; replace B8 := B8.below hb; replace hfr20 : ∀ k ∈ addrBlock A20, k < _ := (fun k hk => Nat.lt_of_lt_of_le (hfr20 k hk) hb.size); replace hcur := bthen hcur hb; go_wp2_with fail
        refine hK.out _ _ hcur (fun hHeld => ?_)
        clear hK K hHeld
        (try simp only [Act.put, List.setIfInBounds_toArray, List.set_cons_zero, List.set_cons_succ])
        refine wpAnyH_ready (rs := [4]) (by kernel_rfl) (by simp) ?_
        refine AllReadyH.cons (o := _) rfl (fun K hK => ?_) AllReadyH.nil
        refine st_lit (v := fun g => .slice (some ⟨g, 0, none⟩) 2 2) 23 rfl (cs := [.bool b20, .slice A20 n20 c20, .bool b22, .slice A22 n22 c22]) (t := 26) (by go_simp; try rfl) ?_; intro g23 wn hb Bl23 hg23; replace F := F.below hb; replace B8 := B8.below hb; replace hfr20 : ∀ k ∈ addrBlock A20, k < _ := (fun k hk => Nat.lt_of_lt_of_le (hfr20 k hk) hb.size); replace hfr22 : ∀ k ∈ addrBlock A22, k < _ := (fun k hk => Nat.lt_of_lt_of_le (hfr22 k hk) hb.size); replace hcur := bthen hcur hb
        refine hK.out _ _ hcur (fun hHeld => ?_)
        clear hK K hHeld
        (try simp only [Act.put, List.setIfInBounds_toArray, List.set_cons_zero, List.set_cons_succ])
        refine wpAnyH_ready (rs := [5]) (by kernel_rfl) (by simp) ?_
        refine AllReadyH.cons (o := _) rfl (fun K hK => ?_) AllReadyH.nil
        go_simp; (with_reducible refine (mulF F Bl23 (by repeat (first | exact List.mem_cons_self .. | apply List.mem_cons_of_mem)) (by repeat (first | exact List.mem_cons_self .. | apply List.mem_cons_of_mem)) (by omega)).mono ?_); rintro e wn ⟨vn, rfl, ⟨b24, A24, n24, c24, rfl, o, hf⟩, hb⟩; replace F := (F.below hb).cons o; have hne24_8 : ∀ k ∈ addrBlock A24, k ≠ g8 := (fun k hk e => by (have h1 := (hf k hk).1; have h2 := B8.lt; omega)); have hfr24 : ∀ k ∈ addrBlock A24, k < _ := (fun k hk => (hf k hk).2); clear hf; replace B8 := B8.below hb; replace Bl23 := Bl23.below hb; replace hfr20 : ∀ k ∈ addrBlock A20, k < _ := (fun k hk => Nat.lt_of_lt_of_le (hfr20 k hk) hb.size); replace hfr22 : ∀ k ∈ addrBlock A22, k < _ := (fun k hk => Nat.lt_of_lt_of_le (hfr22 k hk) hb.size); replace hcur := bthen hcur hb; go_wp2_with fail
        refine hK.out _ _ hcur (fun hHeld => ?_)
        clear hK K hHeld
        (try simp only [Act.put, List.setIfInBounds_toArray, List.set_cons_zero, List.set_cons_succ])
        refine wpAnyH_ready (rs := [7]) (by kernel_rfl) (by simp) ?_
        refine AllReadyH.cons (o := _) rfl (fun K hK => ?_) AllReadyH.nil
        go_simp; (with_reducible refine (cF F (by repeat (first | exact List.mem_cons_self .. | apply List.mem_cons_of_mem))).mono ?_); rintro e wn ⟨vn, rfl, ⟨b26, A26, n26, c26, rfl, o, hf⟩, hb⟩; replace F := (F.below hb).cons o; have hne26_8 : ∀ k ∈ addrBlock A26, k ≠ g8 := (fun k hk e => by (have h1 := (hf k hk).1; have h2 := B8.lt; omega)); have hfr26 : ∀ k ∈ addrBlock A26, k < _ := (fun k hk => (hf k hk).2); clear hf; replace B8 := B8.below hb; replace hfr20 : ∀ k ∈ addrBlock A20, k < _ := (fun k hk => Nat.lt_of_lt_of_le (hfr20 k hk) hb.size); replace hfr22 : ∀ k ∈ addrBlock A22, k < _ := (fun k hk => Nat.lt_of_lt_of_le (hfr22 k hk) hb.size); replace hfr24 : ∀ k ∈ addrBlock A24, k < _ := (fun k hk => Nat.lt_of_lt_of_le (hfr24 k hk) hb.size); replace hcur := bthen hcur hb; go_wp2_with fail
        refine hK.out _ _ hcur (fun hHeld => ?_)
        clear hK K hHeld
        (try simp only [Act.put, List.setIfInBounds_toArray, List.set_cons_zero, List.set_cons_succ])
        refine wpAnyH_ready (rs := [9]) (by kernel_rfl) (by simp) ?_
        refine AllReadyH.cons (o := _) rfl (fun K hK => ?_) AllReadyH.nil
        go_simp; (with_reducible refine (cF F (by repeat (first | exact List.mem_cons_self .. | apply List.mem_cons_of_mem))).mono ?_); rintro e wn ⟨vn, rfl, ⟨b28, A28, n28, c28, rfl, o, hf⟩, hb⟩; replace F := (F.below hb).cons o; have hne28_8 : ∀ k ∈ addrBlock A28, k ≠ g8 := (fun k hk e => by (have h1 := (hf k hk).1; have h2 := B8.lt; omega)); have hfr28 : ∀ k ∈ addrBlock A28, k < _ := (fun k hk => (hf k hk).2); clear hf; replace B8 := B8.below hb; replace hfr20 : ∀ k ∈ addrBlock A20, k < _ := (fun k hk => Nat.lt_of_lt_of_le (hfr20 k hk) hb.size); replace hfr22 : ∀ k ∈ addrBlock A22, k < _ := (fun k hk => Nat.lt_of_lt_of_le (hfr22 k hk) hb.size); replace hfr24 : ∀ k ∈ addrBlock A24, k < _ := (fun k hk => Nat.lt_of_lt_of_le (hfr24 k hk) hb.size); replace hfr26 : ∀ k ∈ addrBlock A26, k < _ := (fun k hk => Nat.lt_of_lt_of_le (hfr26 k hk) hb.size); replace hcur := bthen hcur hb; go_wp2_with fail
        refine hK.out _ _ hcur (fun hHeld => ?_)
        clear hK K hHeld
        (try simp only [Act.put, List.setIfInBounds_toArray, List.set_cons_zero, List.set_cons_succ])
        refine wpAnyH_ready (rs := [10]) (by kernel_rfl) (by simp) ?_
        refine AllReadyH.cons (o := _) rfl (fun K hK => ?_) AllReadyH.nil
        refine st_lit (v := fun g => .slice (some ⟨g, 0, none⟩) 2 2) 29 rfl (cs := [.bool b26, .slice A26 n26 c26, .bool b28, .slice A28 n28 c28]) (t := 26) (by go_simp; try rfl) ?_; intro g29 wn hb Bl29 hg29; replace F := F.below hb; replace B8 := B8.below hb; replace hfr20 : ∀ k ∈ addrBlock A20, k < _ := (fun k hk => Nat.lt_of_lt_of_le (hfr20 k hk) hb.size); replace hfr22 : ∀ k ∈ addrBlock A22, k < _ := (fun k hk => Nat.lt_of_lt_of_le (hfr22 k hk) hb.size); replace hfr24 : ∀ k ∈ addrBlock A24, k < _ := (fun k hk => Nat.lt_of_lt_of_le (hfr24 k hk) hb.size); replace hfr26 : ∀ k ∈ addrBlock A26, k < _ := (fun k hk => Nat.lt_of_lt_of_le (hfr26 k hk) hb.size); replace hfr28 : ∀ k ∈ addrBlock A28, k < _ := (fun k hk => Nat.lt_of_lt_of_le (hfr28 k hk) hb.size); replace hcur := bthen hcur hb
        refine hK.out _ _ hcur (fun hHeld => ?_)
        clear hK K hHeld
        (try simp only [Act.put, List.setIfInBounds_toArray, List.set_cons_zero, List.set_cons_succ])
        refine wpAnyH_ready (rs := [11]) (by kernel_rfl) (by simp) ?_
        refine AllReadyH.cons (o := _) rfl (fun K hK => ?_) AllReadyH.nil
        go_simp; (with_reducible refine (mulF F Bl29 (by repeat (first | exact List.mem_cons_self .. | apply List.mem_cons_of_mem)) (by repeat (first | exact List.mem_cons_self .. | apply List.mem_cons_of_mem)) (by omega)).mono ?_); rintro e wn ⟨vn, rfl, ⟨b30, A30, n30, c30, rfl, o, hf⟩, hb⟩; replace F := (F.below hb).cons o; have hne30_8 : ∀ k ∈ addrBlock A30, k ≠ g8 := (fun k hk e => by (have h1 := (hf k hk).1; have h2 := B8.lt; omega)); have hfr30 : ∀ k ∈ addrBlock A30, k < _ := (fun k hk => (hf k hk).2); clear hf; replace B8 := B8.below hb; replace Bl29 := Bl29.below hb; replace hfr20 : ∀ k ∈ addrBlock A20, k < _ := (fun k hk => Nat.lt_of_lt_of_le (hfr20 k hk) hb.size); replace hfr22 : ∀ k ∈ addrBlock A22, k < _ := (fun k hk => Nat.lt_of_lt_of_le (hfr22 k hk) hb.size); replace hfr24 : ∀ k ∈ addrBlock A24, k < _ := (fun k hk => Nat.lt_of_lt_of_le (hfr24 k hk) hb.size); replace hfr26 : ∀ k ∈ addrBlock A26, k < _ := (fun k hk => Nat.lt_of_lt_of_le (hfr26 k hk) hb.size); replace hfr28 : ∀ k ∈ addrBlock A28, k < _ := (fun k hk => Nat.lt_of_lt_of_le (hfr28 k hk) hb.size); replace hcur := bthen hcur hb; go_wp2_with fail
        refine hK.out _ _ hcur (fun hHeld => ?_)
        clear hK K hHeld
        (try simp only [Act.put, List.setIfInBounds_toArray, List.set_cons_zero, List.set_cons_succ])
        refine wpAnyH_ready (rs := [12]) (by kernel_rfl) (by simp) ?_
        refine AllReadyH.cons (o := _) rfl (fun K hK => ?_) AllReadyH.nil
        refine st_lit (v := fun g => .slice (some ⟨g, 0, none⟩) 2 2) 31 rfl (cs := [.bool b24, .slice A24 n24 c24, .bool b30, .slice A30 n30 c30]) (t := 26) (by go_simp; try rfl) ?_; intro g31 wn hb Bl31 hg31; replace F := F.below hb; replace B8 := B8.below hb; replace hfr20 : ∀ k ∈ addrBlock A20, k < _ := (fun k hk => Nat.lt_of_lt_of_le (hfr20 k hk) hb.size); replace hfr22 : ∀ k ∈ addrBlock A22, k < _ := (fun k hk => Nat.lt_of_lt_of_le (hfr22 k hk) hb.size); replace hfr24 : ∀ k ∈ addrBlock A24, k < _ := (fun k hk => Nat.lt_of_lt_of_le (hfr24 k hk) hb.size); replace hfr26 : ∀ k ∈ addrBlock A26, k < _ := (fun k hk => Nat.lt_of_lt_of_le (hfr26 k hk) hb.size); replace hfr28 : ∀ k ∈ addrBlock A28, k < _ := (fun k hk => Nat.lt_of_lt_of_le (hfr28 k hk) hb.size); replace hfr30 : ∀ k ∈ addrBlock A30, k < _ := (fun k hk => Nat.lt_of_lt_of_le (hfr30 k hk) hb.size); replace hcur := bthen hcur hb
        refine hK.out _ _ hcur (fun hHeld => ?_)
        clear hK K hHeld
        (try simp only [Act.put, List.setIfInBounds_toArray, List.set_cons_zero, List.set_cons_succ])
        refine wpAnyH_ready (rs := [13]) (by kernel_rfl) (by simp) ?_
        refine AllReadyH.cons (o := _) rfl (fun K hK => ?_) AllReadyH.nil
        go_simp; (with_reducible refine (addF F Bl31 (by repeat (first | exact List.mem_cons_self .. | apply List.mem_cons_of_mem)) (by repeat (first | exact List.mem_cons_self .. | apply List.mem_cons_of_mem)) (by omega)).mono ?_); rintro e wn ⟨vn, rfl, ⟨b32, A32, n32, c32, rfl, o, hf⟩, hb⟩; replace F := (F.below hb).cons o; have hne32_8 : ∀ k ∈ addrBlock A32, k ≠ g8 := (fun k hk e => by (have h1 := (hf k hk).1; have h2 := B8.lt; omega)); have hfr32 : ∀ k ∈ addrBlock A32, k < _ := (fun k hk => (hf k hk).2); clear hf; replace B8 := B8.below hb; replace Bl31 := Bl31.below hb; replace hfr20 : ∀ k ∈ addrBlock A20, k < _ := (fun k hk => Nat.lt_of_lt_of_le (hfr20 k hk) hb.size); replace hfr22 : ∀ k ∈ addrBlock A22, k < _ := (fun k hk => Nat.lt_of_lt_of_le (hfr22 k hk) hb.size); replace hfr24 : ∀ k ∈ addrBlock A24, k < _ := (fun k hk => Nat.lt_of_lt_of_le (hfr24 k hk) hb.size); replace hfr26 : ∀ k ∈ addrBlock A26, k < _ := (fun k hk => Nat.lt_of_lt_of_le (hfr26 k hk) hb.size); replace hfr28 : ∀ k ∈ addrBlock A28, k < _ := (fun k hk => Nat.lt_of_lt_of_le (hfr28 k hk) hb.size); replace hfr30 : ∀ k ∈ addrBlock A30, k < _ := (fun k hk => Nat.lt_of_lt_of_le (hfr30 k hk) hb.size); replace hcur := bthen hcur hb; go_wp2_with fail
        refine hK.out _ _ hcur (fun hHeld => ?_)
        clear hK K hHeld
        (try simp only [Act.put, List.setIfInBounds_toArray, List.set_cons_zero, List.set_cons_succ])
        refine wpAnyH_ready (rs := [15]) (by kernel_rfl) (by simp) ?_
        refine AllReadyH.cons (o := _) rfl (fun K hK => ?_) AllReadyH.nil
        refine st_store rfl rfl B8 (news := [.bool b32, .slice A32 n32 c32]) (by rfl) infoNum (by simp) (by simp [Value.oneCell']) ?_; intro wn hon Bx; simp only [List.take_zero, List.nil_append, List.length_cons, List.length_nil, List.drop_succ_cons, List.drop_zero, List.append_nil, List.cons_append] at Bx; replace B8 := Bx; clear Bx; have oo8 : NR.Ok _ _ := (F.out _ (show (⟨b32, A32, n32, c32, _, _, _⟩ : NR) ∈ _ from (by repeat (first | exact List.mem_cons_self .. | apply List.mem_cons_of_mem)))).only hon hne32_8; have F1 := F; clear F; have F := F0.below (hcur.trans (hon.below hg8)); clear F1; replace hcur := hcur.trans (hon.below hg8); clear hon
        refine hK.out _ _ hcur (fun hHeld => ?_)
        clear hK K hHeld
        (try simp only [Act.put, List.setIfInBounds_toArray, List.set_cons_zero, List.set_cons_succ])
        refine wpAnyH_done (by kernel_rfl) ?_ _
        refine NoPanic.normal ?_
        obtain ⟨rfl⟩ := hQ7
        (go_wp2_with fail)
        go_meet
        exact ⟨g8, _, _, _, _, rfl, hcur, B8, (Fs.nil _).cons oo8⟩
      exact AllReadyH.nil
    case rest =>
      obtain ⟨g8, b8x, A8x, n8x, c8x, rfl, hbx, B8, Fx⟩ := hcut
      replace F0 := (F0.below hbx).cons (Fx.out _ (List.mem_cons_self ..))
      replace B3 := B3.below hbx
      replace B4 := B4.below hbx
      replace B5 := B5.below hbx
      replace B7 := B7.below hbx
      replace hbt := bthen hbt hbx
      clear hbx Fx
      (go_wp2_with fail)
      have H1 : As (z1 * (z2 + z3) = z1 * z2 + z1 * z3) := ⟨Int.mul_add ..⟩
      have H2 : As (- -z1 = z1) := ⟨Int.neg_neg _⟩
      have H3 : As (z1 - z2 = z1 + -z2) := ⟨Int.sub_eq_add_neg⟩
      have hcur := (Below.refl wc.heap.size wc).drew
      have F := F0.below hcur
      refine wp_gen2 (fun Q7 hQ7 => ?_)
      refine wp_region_held_drew (S := fun W => Below wc.heap.size wc W) (by kernel_rfl) hcur (fun hHeld => ?_)
      clear hHeld
      refine wpAnyH_take (i := 0) (oi := _) (v := .agg #[.bool b7x, .slice A7x n7x c7x]) rfl (by kernel_rfl) (by kernel_rfl) (by kernel_rfl) (fun _ _ _ h => h) (Or.inl ⟨by kernel_rfl, fun W hSw => by have Cb := (B7.below hSw).cells; ((try dsimp only at hSw); go_simp; try (with_reducible rfl))⟩) hcur ?_
      (try simp only [Act.put, List.setIfInBounds_toArray, List.set_cons_zero, List.set_cons_succ])
      refine wpAnyH_take (i := 1) (oi := _) (v := .agg #[.bool b8x, .slice A8x n8x c8x]) rfl (by kernel_rfl) (by kernel_rfl) (by kernel_rfl) (fun _ _ _ h => h) (Or.inl ⟨by kernel_rfl, fun W hSw => by have Cb := (B8.below hSw).cells; ((try dsimp only at hSw); go_simp; try (with_reducible rfl))⟩) hcur ?_
      (try simp only [Act.put, List.setIfInBounds_toArray, List.set_cons_zero, List.set_cons_succ])
      refine wpAnyH_ready (rs := [2]) (by kernel_rfl) (by simp) ?_
      refine AllReadyH.cons (o := _) rfl (fun K hK => ?_) AllReadyH.nil
      go_simp; (with_reducible refine (sameF F (by repeat (first | exact List.mem_cons_self .. | apply List.mem_cons_of_mem)) (by repeat (first | exact List.mem_cons_self .. | apply List.mem_cons_of_mem)) (by first | with_reducible rfl | with_reducible exact H1.out)).mono ?_); rintro e wn ⟨vn, rfl, rfl, hb⟩; replace F := F.below hb; replace hcur := bthen hcur hb; go_wp2_with fail
      refine hK.out _ _ hcur (fun hHeld => ?_)
      clear hK K hHeld
      (try simp only [Act.put, List.setIfInBounds_toArray, List.set_cons_zero, List.set_cons_succ])
      refine wpAnyH_take (i := 3) (oi := _) (v := .bool true) rfl (by kernel_rfl) (by kernel_rfl) (by kernel_rfl) (fun _ _ _ h => h) (Or.inl ⟨by kernel_rfl, fun W hSw => by ((try dsimp only at hSw); go_simp; try (with_reducible rfl))⟩) hcur ?_
      (try simp only [Act.put, List.setIfInBounds_toArray, List.set_cons_zero, List.set_cons_succ])
      refine wpAnyH_take (i := 4) (oi := _) (v := .agg #[.bool n1, .slice A1 k1 c1]) rfl (by kernel_rfl) (by kernel_rfl) (by kernel_rfl) (fun _ _ _ h => h) (Or.inl ⟨by kernel_rfl, fun W hSw => by have Cb := (B3.below hSw).cells; ((try dsimp only at hSw); go_simp; try (with_reducible rfl))⟩) hcur ?_
      (try simp only [Act.put, List.setIfInBounds_toArray, List.set_cons_zero, List.set_cons_succ])
      refine wpAnyH_take (i := 8) (oi := _) (v := .agg #[.bool n1, .slice A1 k1 c1]) rfl (by kernel_rfl) (by kernel_rfl) (by kernel_rfl) (fun _ _ _ h => h) (Or.inl ⟨by kernel_rfl, fun W hSw => by have Cb := (B3.below hSw).cells; ((try dsimp only at hSw); go_simp; try (with_reducible rfl))⟩) hcur ?_
      (try simp only [Act.put, List.setIfInBounds_toArray, List.set_cons_zero, List.set_cons_succ])
      refine wpAnyH_ready (rs := [5]) (by kernel_rfl) (by simp) ?_
      refine AllReadyH.cons (o := _) rfl (fun K hK => ?_) AllReadyH.nil
      go_simp; (with_reducible refine (cF F (by repeat (first | exact List.mem_cons_self .. | apply List.mem_cons_of_mem))).mono ?_); rintro e wn ⟨vn, rfl, ⟨b38, A38, n38, c38, rfl, o, hf⟩, hb⟩; replace F := (F.below hb).cons o; have hfr38 : ∀ k ∈ addrBlock A38, k < _ := (fun k hk => (hf k hk).2); clear hf; replace hcur := bthen hcur hb; go_wp2_with fail
      refine hK.out _ _ hcur (fun hHeld => ?_)
      clear hK K hHeld
      (try simp only [Act.put, List.setIfInBounds_toArray, List.set_cons_zero, List.set_cons_succ])
      refine wpAnyH_ready (rs := [6]) (by kernel_rfl) (by simp) ?_
      refine AllReadyH.cons (o := _) rfl (fun K hK => ?_) AllReadyH.nil
      go_simp; (with_reducible refine (negF F (by repeat (first | exact List.mem_cons_self .. | apply List.mem_cons_of_mem)) (by omega)).mono ?_); rintro e wn ⟨vn, rfl, ⟨b39, A39, n39, c39, rfl, o, hf⟩, hb⟩; replace F := (F.below hb).cons o; have hfr39 : ∀ k ∈ addrBlock A39, k < _ := (fun k hk => (hf k hk).2); clear hf; replace hfr38 : ∀ k ∈ addrBlock A38, k < _ := (fun k hk => Nat.lt_of_lt_of_le (hfr38 k hk) hb.size); replace hcur := bthen hcur hb; go_wp2_with fail
      refine hK.out _ _ hcur (fun hHeld => ?_)
      clear hK K hHeld
      (try simp only [Act.put, List.setIfInBounds_toArray, List.set_cons_zero, List.set_cons_succ])
      refine wpAnyH_ready (rs := [7]) (by kernel_rfl) (by simp) ?_
      refine AllReadyH.cons (o := _) rfl (fun K hK => ?_) AllReadyH.nil
      go_simp; (with_reducible refine (negF F (by repeat (first | exact List.mem_cons_self .. | apply List.mem_cons_of_mem)) (by omega)).mono ?_); rintro e wn ⟨vn, rfl, ⟨b40, A40, n40, c40, rfl, o, hf⟩, hb⟩; replace F := (F.below hb).cons o; have hfr40 : ∀ k ∈ addrBlock A40, k < _ := (fun k hk => (hf k hk).2); clear hf; replace hfr38 : ∀ k ∈ addrBlock A38, k < _ := (fun k hk => Nat.lt_of_lt_of_le (hfr38 k hk) hb.size); replace hfr39 : ∀ k ∈ addrBlock A39, k < _ := (fun k hk => Nat.lt_of_lt_of_le (hfr39 k hk) hb.size); replace hcur := bthen hcur hb; go_wp2_with fail
      refine hK.out _ _ hcur (fun hHeld => ?_)
      clear hK K hHeld
      (try simp only [Act.put, List.setIfInBounds_toArray, List.set_cons_zero, List.set_cons_succ])
      refine wpAnyH_ready (rs := [9]) (by kernel_rfl) (by simp) ?_
      refine AllReadyH.cons (o := _) rfl (fun K hK => ?_) AllReadyH.nil
      go_simp; (with_reducible refine (cF F (by repeat (first | exact List.mem_cons_self .. | apply List.mem_cons_of_mem))).mono ?_); rintro e wn ⟨vn, rfl, ⟨b42, A42, n42, c42, rfl, o, hf⟩, hb⟩; replace F := (F.below hb).cons o; have hfr42 : ∀ k ∈ addrBlock A42, k < _ := (fun k hk => (hf k hk).2); clear hf; replace hfr38 : ∀ k ∈ addrBlock A38, k < _ := (fun k hk => Nat.lt_of_lt_of_le (hfr38 k hk) hb.size); replace hfr39 : ∀ k ∈ addrBlock A39, k < _ := (fun k hk => Nat.lt_of_lt_of_le (hfr39 k hk) hb.size); replace hfr40 : ∀ k ∈ addrBlock A40, k < _ := (fun k hk => Nat.lt_of_lt_of_le (hfr40 k hk) hb.size); replace hcur := bthen hcur hb; go_wp2_with fail
      refine hK.out _ _ hcur (fun hHeld => ?_)
      clear hK K hHeld
      (try simp only [Act.put, List.setIfInBounds_toArray, List.set_cons_zero, List.set_cons_succ])
      refine wpAnyH_ready (rs := [10]) (by kernel_rfl) (by simp) ?_
      refine AllReadyH.cons (o := _) rfl (fun K hK => ?_) AllReadyH.nil
      refine st_lit (v := fun g => .slice (some ⟨g, 0, none⟩) 1 1) 43 rfl (cs := [.bool b42, .slice A42 n42 c42]) (t := 26) (by go_simp; try rfl) ?_; intro g43 wn hb Bl43 hg43; replace F := F.below hb; replace hfr38 : ∀ k ∈ addrBlock A38, k < _ := (fun k hk => Nat.lt_of_lt_of_le (hfr38 k hk) hb.size); replace hfr39 : ∀ k ∈ addrBlock A39, k < _ := (fun k hk => Nat.lt_of_lt_of_le (hfr39 k hk) hb.size); replace hfr40 : ∀ k ∈ addrBlock A40, k < _ := (fun k hk => Nat.lt_of_lt_of_le (hfr40 k hk) hb.size); replace hfr42 : ∀ k ∈ addrBlock A42, k < _ := (fun k hk => Nat.lt_of_lt_of_le (hfr42 k hk) hb.size); replace hcur := bthen hcur hb
      refine hK.out _ _ hcur (fun hHeld => ?_)
      clear hK K hHeld
      (try simp only [Act.put, List.setIfInBounds_toArray, List.set_cons_zero, List.set_cons_succ])
      refine wpAnyH_ready (rs := [11]) (by kernel_rfl) (by simp) ?_
      refine AllReadyH.cons (o := _) rfl (fun K hK => ?_) AllReadyH.nil
      go_simp; (with_reducible refine (addF1 F Bl43 (by repeat (first | exact List.mem_cons_self .. | apply List.mem_cons_of_mem)) (by omega)).mono ?_); rintro e wn ⟨vn, rfl, ⟨b44, A44, n44, c44, rfl, o, hf⟩, hb⟩; replace F := (F.below hb).cons o; have hfr44 : ∀ k ∈ addrBlock A44, k < _ := (fun k hk => (hf k hk).2); clear hf; replace Bl43 := Bl43.below hb; replace hfr38 : ∀ k ∈ addrBlock A38, k < _ := (fun k hk => Nat.lt_of_lt_of_le (hfr38 k hk) hb.size); replace hfr39 : ∀ k ∈ addrBlock A39, k < _ := (fun k hk => Nat.lt_of_lt_of_le (hfr39 k hk) hb.size); replace hfr40 : ∀ k ∈ addrBlock A40, k < _ := (fun k hk => Nat.lt_of_lt_of_le (hfr40 k hk) hb.size); replace hfr42 : ∀ k ∈ addrBlock A42, k < _ := (fun k hk => Nat.lt_of_lt_of_le (hfr42 k hk) hb.size); replace hcur := bthen hcur hb; go_wp2_with fail
      refine hK.out _ _ hcur (fun hHeld => ?_)
      clear hK K hHeld
      (try simp only [Act.put, List.setIfInBounds_toArray, List.set_cons_zero, List.set_cons_succ])
      refine wpAnyH_ready (rs := [12]) (by kernel_rfl) (by simp) ?_
      refine AllReadyH.cons (o := _) rfl (fun K hK => ?_) AllReadyH.nil
      go_simp; (with_reducible refine (sameF F (by repeat (first | exact List.mem_cons_self .. | apply List.mem_cons_of_mem)) (by repeat (first | exact List.mem_cons_self .. | apply List.mem_cons_of_mem)) (by first | with_reducible rfl | with_reducible exact H2.out)).mono ?_); rintro e wn ⟨vn, rfl, rfl, hb⟩; replace F := F.below hb; replace hfr38 : ∀ k ∈ addrBlock A38, k < _ := (fun k hk => Nat.lt_of_lt_of_le (hfr38 k hk) hb.size); replace hfr39 : ∀ k ∈ addrBlock A39, k < _ := (fun k hk => Nat.lt_of_lt_of_le (hfr39 k hk) hb.size); replace hfr40 : ∀ k ∈ addrBlock A40, k < _ := (fun k hk => Nat.lt_of_lt_of_le (hfr40 k hk) hb.size); replace hfr42 : ∀ k ∈ addrBlock A42, k < _ := (fun k hk => Nat.lt_of_lt_of_le (hfr42 k hk) hb.size); replace hfr44 : ∀ k ∈ addrBlock A44, k < _ := (fun k hk => Nat.lt_of_lt_of_le (hfr44 k hk) hb.size); replace hcur := bthen hcur hb; go_wp2_with fail
      refine hK.out _ _ hcur (fun hHeld => ?_)
      clear hK K hHeld
      (try simp only [Act.put, List.setIfInBounds_toArray, List.set_cons_zero, List.set_cons_succ])
      refine wpAnyH_take (i := 13) (oi := _) (v := .bool true) rfl (by kernel_rfl) (by kernel_rfl) (by kernel_rfl) (fun _ _ _ h => h) (Or.inl ⟨by kernel_rfl, fun W hSw => by ((try dsimp only at hSw); go_simp; try (with_reducible rfl))⟩) hcur ?_
      (try simp only [Act.put, List.setIfInBounds_toArray, List.set_cons_zero, List.set_cons_succ])
      refine wpAnyH_take (i := 14) (oi := _) (v := .bool true) rfl (by kernel_rfl) (by kernel_rfl) (by kernel_rfl) (fun _ _ _ h => h) (Or.inl ⟨by kernel_rfl, fun W hSw => by ((try dsimp only at hSw); go_simp; try (with_reducible rfl))⟩) hcur ?_
      (try simp only [Act.put, List.setIfInBounds_toArray, List.set_cons_zero, List.set_cons_succ])
      refine wpAnyH_take (i := 15) (oi := _) (v := .agg #[.bool n1, .slice A1 k1 c1]) rfl (by kernel_rfl) (by kernel_rfl) (by kernel_rfl) (fun _ _ _ h => h) (Or.inl ⟨by kernel_rfl, fun W hSw => by have Cb := (B3.below hSw).cells; ((try dsimp only at hSw); go_simp; try (with_reducible rfl))⟩) hcur ?_
      (try simp only [Act.put, List.setIfInBounds_toArray, List.set_cons_zero, List.set_cons_succ])
      refine wpAnyH_take (i := 17) (oi := _) (v := .agg #[.bool n2, .slice A2 k2 c2]) rfl (by kernel_rfl) (by kernel_rfl) (by kernel_rfl) (fun _ _ _ h => h) (Or.inl ⟨by kernel_rfl, fun W hSw => by have Cb := (B4.below hSw).cells; ((try dsimp only at hSw); go_simp; try (with_reducible rfl))⟩) hcur ?_
      (try simp only [Act.put, List.setIfInBounds_toArray, List.set_cons_zero, List.set_cons_succ])
      refine wpAnyH_take (i := 20) (oi := _) (v := .agg #[.bool n1, .slice A1 k1 c1]) rfl (by kernel_rfl) (by kernel_rfl) (by kernel_rfl) (fun _ _ _ h => h) (Or.inl ⟨by kernel_rfl, fun W hSw => by have Cb := (B3.below hSw).cells; ((try dsimp only at hSw); go_simp; try (with_reducible rfl))⟩) hcur ?_
      (try simp only [Act.put, List.setIfInBounds_toArray, List.set_cons_zero, List.set_cons_succ])
      refine wpAnyH_take (i := 22) (oi := _) (v := .agg #[.bool n2, .slice A2 k2 c2]) rfl (by kernel_rfl) (by kernel_rfl) (by kernel_rfl) (fun _ _ _ h => h) (Or.inl ⟨by kernel_rfl, fun W hSw => by have Cb := (B4.below hSw).cells; ((try dsimp only at hSw); go_simp; try (with_reducible rfl))⟩) hcur ?_
      (try simp only [Act.put, List.setIfInBounds_toArray, List.set_cons_zero, List.set_cons_succ])
      refine wpAnyH_ready (rs := [16]) (by kernel_rfl) (by simp) ?_
      refine AllReadyH.cons (o := _) rfl (fun K hK => ?_) AllReadyH.nil
      go_simp; (with_reducible refine (cF F (by repeat (first | exact List.mem_cons_self .. | apply List.mem_cons_of_mem))).mono ?_); rintro e wn ⟨vn, rfl, ⟨b49, A49, n49, c49, rfl, o, hf⟩, hb⟩; replace F := (F.below hb).cons o; have hfr49 : ∀ k ∈ addrBlock A49, k < _ := (fun k hk => (hf k hk).2); clear hf; replace hfr38 : ∀ k ∈ addrBlock A38, k < _ := (fun k hk => Nat.lt_of_lt_of_le (hfr38 k hk) hb.size); replace hfr39 : ∀ k ∈ addrBlock A39, k < _ := (fun k hk => Nat.lt_of_lt_of_le (hfr39 k hk) hb.size); replace hfr40 : ∀ k ∈ addrBlock A40, k < _ := (fun k hk => Nat.lt_of_lt_of_le (hfr40 k hk) hb.size); replace hfr42 : ∀ k ∈ addrBlock A42, k < _ := (fun k hk => Nat.lt_of_lt_of_le (hfr42 k hk) hb.size); replace hfr44 : ∀ k ∈ addrBlock A44, k < _ := (fun k hk => Nat.lt_of_lt_of_le (hfr44 k hk) hb.size); replace hcur := bthen hcur hb; go_wp2_with fail
      refine hK.out _ _ hcur (fun hHeld => ?_)
      clear hK K hHeld
      (try simp only [Act.put, List.setIfInBounds_toArray, List.set_cons_zero, List.set_cons_succ])
      refine wpAnyH_ready (rs := [18]) (by kernel_rfl) (by simp) ?_
      refine AllReadyH.cons (o := _) rfl (fun K hK => ?_) AllReadyH.nil
      go_simp; (with_reducible refine (cF F (by repeat (first | exact List.mem_cons_self .. | apply List.mem_cons_of_mem))).mono ?_); rintro e wn ⟨vn, rfl, ⟨b51, A51, n51, c51, rfl, o, hf⟩, hb⟩; replace F := (F.below hb).cons o; have hfr51 : ∀ k ∈ addrBlock A51, k < _ := (fun k hk => (hf k hk).2); clear hf; replace hfr38 : ∀ k ∈ addrBlock A38, k < _ := (fun k hk => Nat.lt_of_lt_of_le (hfr38 k hk) hb.size); replace hfr39 : ∀ k ∈ addrBlock A39, k < _ := (fun k hk => Nat.lt_of_lt_of_le (hfr39 k hk) hb.size); replace hfr40 : ∀ k ∈ addrBlock A40, k < _ := (fun k hk => Nat.lt_of_lt_of_le (hfr40 k hk) hb.size); replace hfr42 : ∀ k ∈ addrBlock A42, k < _ := (fun k hk => Nat.lt_of_lt_of_le (hfr42 k hk) hb.size); replace hfr44 : ∀ k ∈ addrBlock A44, k < _ := (fun k hk => Nat.lt_of_lt_of_le (hfr44 k hk) hb.size); replace hfr49 : ∀ k ∈ addrBlock A49, k < _ := (fun k hk => Nat.lt_of_lt_of_le (hfr49 k hk) hb.size); replace hcur := bthen hcur hb; go_wp2_with fail
      refine hK.out _ _ hcur (fun hHeld => ?_)
      clear hK K hHeld
      (try simp only [Act.put, List.setIfInBounds_toArray, List.set_cons_zero, List.set_cons_succ])
      refine wpAnyH_ready (rs := [19]) (by kernel_rfl) (by simp) ?_
      refine AllReadyH.cons (o := _) rfl (fun K hK => ?_) AllReadyH.nil
      go_simp; (with_reducible refine (subF F (by repeat (first | exact List.mem_cons_self .. | apply List.mem_cons_of_mem)) (by repeat (first | exact List.mem_cons_self .. | apply List.mem_cons_of_mem)) (by omega)).mono ?_); rintro e wn ⟨vn, rfl, ⟨b52, A52, n52, c52, rfl, o, hf⟩, hb⟩; replace F := (F.below hb).cons o; have hfr52 : ∀ k ∈ addrBlock A52, k < _ := (fun k hk => (hf k hk).2); clear hf; replace hfr38 : ∀ k ∈ addrBlock A38, k < _ := (fun k hk => Nat.lt_of_lt_of_le (hfr38 k hk) hb.size); replace hfr39 : ∀ k ∈ addrBlock A39, k < _ := (fun k hk => Nat.lt_of_lt_of_le (hfr39 k hk) hb.size); replace hfr40 : ∀ k ∈ addrBlock A40, k < _ := (fun k hk => Nat.lt_of_lt_of_le (hfr40 k hk) hb.size); replace hfr42 : ∀ k ∈ addrBlock A42, k < _ := (fun k hk => Nat.lt_of_lt_of_le (hfr42 k hk) hb.size); replace hfr44 : ∀ k ∈ addrBlock A44, k < _ := (fun k hk => Nat.lt_of_lt_of_le (hfr44 k hk) hb.size); replace hfr49 : ∀ k ∈ addrBlock A49, k < _ := (fun k hk => Nat.lt_of_lt_of_le (hfr49 k hk) hb.size); replace hfr51 : ∀ k ∈ addrBlock A51, k < _ := (fun k hk => Nat.lt_of_lt_of_le (hfr51 k hk) hb.size); replace hcur := bthen hcur hb; go_wp2_with fail
      refine hK.out _ _ hcur (fun hHeld => ?_)
      clear hK K hHeld
      (try simp only [Act.put, List.setIfInBounds_toArray, List.set_cons_zero, List.set_cons_succ])
      refine wpAnyH_ready (rs := [21]) (by kernel_rfl) (by simp) ?_
      refine AllReadyH.cons (o := _) rfl (fun K hK => ?_) AllReadyH.nil
      go_simp; (with_reducible refine (cF F (by repeat (first | exact List.mem_cons_self .. | apply List.mem_cons_of_mem))).mono ?_); rintro e wn ⟨vn, rfl, ⟨b54, A54, n54, c54, rfl, o, hf⟩, hb⟩; replace F := (F.below hb).cons o; have hfr54 : ∀ k ∈ addrBlock A54, k < _ := (fun k hk => (hf k hk).2); clear hf; replace hfr38 : ∀ k ∈ addrBlock A38, k < _ := (fun k hk => Nat.lt_of_lt_of_le (hfr38 k hk) hb.size); replace hfr39 : ∀ k ∈ addrBlock A39, k < _ := (fun k hk => Nat.lt_of_lt_of_le (hfr39 k hk) hb.size); replace hfr40 : ∀ k ∈ addrBlock A40, k < _ := (fun k hk => Nat.lt_of_lt_of_le (hfr40 k hk) hb.size); replace hfr42 : ∀ k ∈ addrBlock A42, k < _ := (fun k hk => Nat.lt_of_lt_of_le (hfr42 k hk) hb.size); replace hfr44 : ∀ k ∈ addrBlock A44, k < _ := (fun k hk => Nat.lt_of_lt_of_le (hfr44 k hk) hb.size); replace hfr49 : ∀ k ∈ addrBlock A49, k < _ := (fun k hk => Nat.lt_of_lt_of_le (hfr49 k hk) hb.size); replace hfr51 : ∀ k ∈ addrBlock A51, k < _ := (fun k hk => Nat.lt_of_lt_of_le (hfr51 k hk) hb.size); replace hfr52 : ∀ k ∈ addrBlock A52, k < _ := (fun k hk => Nat.lt_of_lt_of_le (hfr52 k hk) hb.size); replace hcur := bthen hcur hb; go_wp2_with fail
      refine hK.out _ _ hcur (fun hHeld => ?_)
      clear hK K hHeld
      (try simp only [Act.put, List.setIfInBounds_toArray, List.set_cons_zero, List.set_cons_succ])
      refine wpAnyH_ready (rs := [23]) (by kernel_rfl) (by simp) ?_
      refine AllReadyH.cons (o := _) rfl (fun K hK => ?_) AllReadyH.nil
      go_simp; (with_reducible refine (cF F (by repeat (first | exact List.mem_cons_self .. | apply List.mem_cons_of_mem))).mono ?_); rintro e wn ⟨vn, rfl, ⟨b56, A56, n56, c56, rfl, o, hf⟩, hb⟩; replace F := (F.below hb).cons o; have hfr56 : ∀ k ∈ addrBlock A56, k < _ := (fun k hk => (hf k hk).2); clear hf; replace hfr38 : ∀ k ∈ addrBlock A38, k < _ := (fun k hk => Nat.lt_of_lt_of_le (hfr38 k hk) hb.size); replace hfr39 : ∀ k ∈ addrBlock A39, k < _ := (fun k hk => Nat.lt_of_lt_of_le (hfr39 k hk) hb.size); replace hfr40 : ∀ k ∈ addrBlock A40, k < _ := (fun k hk => Nat.lt_of_lt_of_le (hfr40 k hk) hb.size); replace hfr42 : ∀ k ∈ addrBlock A42, k < _ := (fun k hk => Nat.lt_of_lt_of_le (hfr42 k hk) hb.size); replace hfr44 : ∀ k ∈ addrBlock A44, k < _ := (fun k hk => Nat.lt_of_lt_of_le (hfr44 k hk) hb.size); replace hfr49 : ∀ k ∈ addrBlock A49, k < _ := (fun k hk => Nat.lt_of_lt_of_le (hfr49 k hk) hb.size); replace hfr51 : ∀ k ∈ addrBlock A51, k < _ := (fun k hk => Nat.lt_of_lt_of_le (hfr51 k hk) hb.size); replace hfr52 : ∀ k ∈ addrBlock A52, k < _ := (fun k hk => Nat.lt_of_lt_of_le (hfr52 k hk) hb.size); replace hfr54 : ∀ k ∈ addrBlock A54, k < _ := (fun k hk => Nat.lt_of_lt_of_le (hfr54 k hk) hb.size); replace hcur := bthen hcur hb; go_wp2_with fail
      refine hK.out _ _ hcur (fun hHeld => ?_)
      clear hK K hHeld
      (try simp only [Act.put, List.setIfInBounds_toArray, List.set_cons_zero, List.set_cons_succ])
      refine wpAnyH_ready (rs := [24]) (by kernel_rfl) (by simp) ?_
      refine AllReadyH.cons (o := _) rfl (fun K hK => ?_) AllReadyH.nil
      go_simp; (with_reducible refine (negF F (by repeat (first | exact List.mem_cons_self .. | apply List.mem_cons_of_mem)) (by omega)).mono ?_); rintro e wn ⟨vn, rfl, ⟨b57, A57, n57, c57, rfl, o, hf⟩, hb⟩; replace F := (F.below hb).cons o; have hfr57 : ∀ k ∈ addrBlock A57, k < _ := (fun k hk => (hf k hk).2); clear hf; replace hfr38 : ∀ k ∈ addrBlock A38, k < _ := (fun k hk => Nat.lt_of_lt_of_le (hfr38 k hk) hb.size); replace hfr39 : ∀ k ∈ addrBlock A39, k < _ := (fun k hk => Nat.lt_of_lt_of_le (hfr39 k hk) hb.size); replace hfr40 : ∀ k ∈ addrBlock A40, k < _ := (fun k hk => Nat.lt_of_lt_of_le (hfr40 k hk) hb.size); replace hfr42 : ∀ k ∈ addrBlock A42, k < _ := (fun k hk => Nat.lt_of_lt_of_le (hfr42 k hk) hb.size); replace hfr44 : ∀ k ∈ addrBlock A44, k < _ := (fun k hk => Nat.lt_of_lt_of_le (hfr44 k hk) hb.size); replace hfr49 : ∀ k ∈ addrBlock A49, k < _ := (fun k hk => Nat.lt_of_lt_of_le (hfr49 k hk) hb.size); replace hfr51 : ∀ k ∈ addrBlock A51, k < _ := (fun k hk => Nat.lt_of_lt_of_le (hfr51 k hk) hb.size); replace hfr52 : ∀ k ∈ addrBlock A52, k < _ := (fun k hk => Nat.lt_of_lt_of_le (hfr52 k hk) hb.size); replace hfr54 : ∀ k ∈ addrBlock A54, k < _ := (fun k hk => Nat.lt_of_lt_of_le (hfr54 k hk) hb.size); replace hfr56 : ∀ k ∈ addrBlock A56, k < _ := (fun k hk => Nat.lt_of_lt_of_le (hfr56 k hk) hb.size); replace hcur := bthen hcur hb; go_wp2_with fail
      refine hK.out _ _ hcur (fun hHeld => ?_)
      clear hK K hHeld
      (try simp only [Act.put, List.setIfInBounds_toArray, List.set_cons_zero, List.set_cons_succ])
      refine wpAnyH_ready (rs := [25]) (by kernel_rfl) (by simp) ?_
      refine AllReadyH.cons (o := _) rfl (fun K hK => ?_) AllReadyH.nil
      refine st_lit (v := fun g => .slice (some ⟨g, 0, none⟩) 2 2) 58 rfl (cs := [.bool b54, .slice A54 n54 c54, .bool b57, .slice A57 n57 c57]) (t := 26) (by go_simp; try rfl) ?_; intro g58 wn hb Bl58 hg58; replace F := F.below hb; replace hfr38 : ∀ k ∈ addrBlock A38, k < _ := (fun k hk => Nat.lt_of_lt_of_le (hfr38 k hk) hb.size); replace hfr39 : ∀ k ∈ addrBlock A39, k < _ := (fun k hk => Nat.lt_of_lt_of_le (hfr39 k hk) hb.size); replace hfr40 : ∀ k ∈ addrBlock A40, k < _ := (fun k hk => Nat.lt_of_lt_of_le (hfr40 k hk) hb.size); replace hfr42 : ∀ k ∈ addrBlock A42, k < _ := (fun k hk => Nat.lt_of_lt_of_le (hfr42 k hk) hb.size); replace hfr44 : ∀ k ∈ addrBlock A44, k < _ := (fun k hk => Nat.lt_of_lt_of_le (hfr44 k hk) hb.size); replace hfr49 : ∀ k ∈ addrBlock A49, k < _ := (fun k hk => Nat.lt_of_lt_of_le (hfr49 k hk) hb.size); replace hfr51 : ∀ k ∈ addrBlock A51, k < _ := (fun k hk => Nat.lt_of_lt_of_le (hfr51 k hk) hb.size); replace hfr52 : ∀ k ∈ addrBlock A52, k < _ := (fun k hk => Nat.lt_of_lt_of_le (hfr52 k hk) hb.size); replace hfr54 : ∀ k ∈ addrBlock A54, k < _ := (fun k hk => Nat.lt_of_lt_of_le (hfr54 k hk) hb.size); replace hfr56 : ∀ k ∈ addrBlock A56, k < _ := (fun k hk => Nat.lt_of_lt_of_le (hfr56 k hk) hb.size); replace hfr57 : ∀ k ∈ addrBlock A57, k < _ := (fun k hk => Nat.lt_of_lt_of_le (hfr57 k hk) hb.size); replace hcur := bthen hcur hb
      refine hK.out _ _ hcur (fun hHeld => ?_)
      clear hK K hHeld
      (try simp only [Act.put, List.setIfInBounds_toArray, List.set_cons_zero, List.set_cons_succ])
      refine wpAnyH_ready (rs := [26]) (by kernel_rfl) (by simp) ?_
      refine AllReadyH.cons (o := _) rfl (fun K hK => ?_) AllReadyH.nil
      go_simp; (with_reducible refine (addF F Bl58 (by repeat (first | exact List.mem_cons_self .. | apply List.mem_cons_of_mem)) (by repeat (first | exact List.mem_cons_self .. | apply List.mem_cons_of_mem)) (by omega)).mono ?_); rintro e wn ⟨vn, rfl, ⟨b59, A59, n59, c59, rfl, o, hf⟩, hb⟩; replace F := (F.below hb).cons o; have hfr59 : ∀ k ∈ addrBlock A59, k < _ := (fun k hk => (hf k hk).2); clear hf; replace Bl58 := Bl58.below hb; replace hfr38 : ∀ k ∈ addrBlock A38, k < _ := (fun k hk => Nat.lt_of_lt_of_le (hfr38 k hk) hb.size); replace hfr39 : ∀ k ∈ addrBlock A39, k < _ := (fun k hk => Nat.lt_of_lt_of_le (hfr39 k hk) hb.size); replace hfr40 : ∀ k ∈ addrBlock A40, k < _ := (fun k hk => Nat.lt_of_lt_of_le (hfr40 k hk) hb.size); replace hfr42 : ∀ k ∈ addrBlock A42, k < _ := (fun k hk => Nat.lt_of_lt_of_le (hfr42 k hk) hb.size); replace hfr44 : ∀ k ∈ addrBlock A44, k < _ := (fun k hk => Nat.lt_of_lt_of_le (hfr44 k hk) hb.size); replace hfr49 : ∀ k ∈ addrBlock A49, k < _ := (fun k hk => Nat.lt_of_lt_of_le (hfr49 k hk) hb.size); replace hfr51 : ∀ k ∈ addrBlock A51, k < _ := (fun k hk => Nat.lt_of_lt_of_le (hfr51 k hk) hb.size); replace hfr52 : ∀ k ∈ addrBlock A52, k < _ := (fun k hk => Nat.lt_of_lt_of_le (hfr52 k hk) hb.size); replace hfr54 : ∀ k ∈ addrBlock A54, k < _ := (fun k hk => Nat.lt_of_lt_of_le (hfr54 k hk) hb.size); replace hfr56 : ∀ k ∈ addrBlock A56, k < _ := (fun k hk => Nat.lt_of_lt_of_le (hfr56 k hk) hb.size); replace hfr57 : ∀ k ∈ addrBlock A57, k < _ := (fun k hk => Nat.lt_of_lt_of_le (hfr57 k hk) hb.size); replace hcur := bthen hcur hb; go_wp2_with fail
      refine hK.out _ _ hcur (fun hHeld => ?_)
      clear hK K hHeld
      (try simp only [Act.put, List.setIfInBounds_toArray, List.set_cons_zero, List.set_cons_succ])
      refine wpAnyH_ready (rs := [27]) (by kernel_rfl) (by simp) ?_
      refine AllReadyH.cons (o := _) rfl (fun K hK => ?_) AllReadyH.nil
      go_simp; (with_reducible refine (sameF F (by repeat (first | exact List.mem_cons_self .. | apply List.mem_cons_of_mem)) (by repeat (first | exact List.mem_cons_self .. | apply List.mem_cons_of_mem)) (by first | with_reducible rfl | with_reducible exact H3.out)).mono ?_); rintro e wn ⟨vn, rfl, rfl, hb⟩; replace F := F.below hb; replace hfr38 : ∀ k ∈ addrBlock A38, k < _ := (fun k hk => Nat.lt_of_lt_of_le (hfr38 k hk) hb.size); replace hfr39 : ∀ k ∈ addrBlock A39, k < _ := (fun k hk => Nat.lt_of_lt_of_le (hfr39 k hk) hb.size); replace hfr40 : ∀ k ∈ addrBlock A40, k < _ := (fun k hk => Nat.lt_of_lt_of_le (hfr40 k hk) hb.size); replace hfr42 : ∀ k ∈ addrBlock A42, k < _ := (fun k hk => Nat.lt_of_lt_of_le (hfr42 k hk) hb.size); replace hfr44 : ∀ k ∈ addrBlock A44, k < _ := (fun k hk => Nat.lt_of_lt_of_le (hfr44 k hk) hb.size); replace hfr49 : ∀ k ∈ addrBlock A49, k < _ := (fun k hk => Nat.lt_of_lt_of_le (hfr49 k hk) hb.size); replace hfr51 : ∀ k ∈ addrBlock A51, k < _ := (fun k hk => Nat.lt_of_lt_of_le (hfr51 k hk) hb.size); replace hfr52 : ∀ k ∈ addrBlock A52, k < _ := (fun k hk => Nat.lt_of_lt_of_le (hfr52 k hk) hb.size); replace hfr54 : ∀ k ∈ addrBlock A54, k < _ := (fun k hk => Nat.lt_of_lt_of_le (hfr54 k hk) hb.size); replace hfr56 : ∀ k ∈ addrBlock A56, k < _ := (fun k hk => Nat.lt_of_lt_of_le (hfr56 k hk) hb.size); replace hfr57 : ∀ k ∈ addrBlock A57, k < _ := (fun k hk => Nat.lt_of_lt_of_le (hfr57 k hk) hb.size); replace hfr59 : ∀ k ∈ addrBlock A59, k < _ := (fun k hk => Nat.lt_of_lt_of_le (hfr59 k hk) hb.size); replace hcur := bthen hcur hb; go_wp2_with fail
      refine hK.out _ _ hcur (fun hHeld => ?_)
      clear hK K hHeld
      (try simp only [Act.put, List.setIfInBounds_toArray, List.set_cons_zero, List.set_cons_succ])
      refine wpAnyH_take (i := 28) (oi := _) (v := .bool true) rfl (by kernel_rfl) (by kernel_rfl) (by kernel_rfl) (fun _ _ _ h => h) (Or.inl ⟨by kernel_rfl, fun W hSw => by ((try dsimp only at hSw); go_simp; try (with_reducible rfl))⟩) hcur ?_
      (try simp only [Act.put, List.setIfInBounds_toArray, List.set_cons_zero, List.set_cons_succ])
      refine wpAnyH_take (i := 29) (oi := _) (v := .bool true) rfl (by kernel_rfl) (by kernel_rfl) (by kernel_rfl) (fun _ _ _ h => h) (Or.inl ⟨by kernel_rfl, fun W hSw => by ((try dsimp only at hSw); go_simp; try (with_reducible rfl))⟩) hcur ?_
      (try simp only [Act.put, List.setIfInBounds_toArray, List.set_cons_zero, List.set_cons_succ])
      refine wpAnyH_ready (rs := [30]) (by kernel_rfl) (by simp) ?_
      refine AllReadyH.cons (o := _) rfl (fun K hK => ?_) AllReadyH.nil
      go_simp; (with_reducible refine (awake02_any _ (HT.out.below (bthen hbt hcur))).mono ?_); rintro e wn ⟨vn, rfl, rfl, hb⟩; replace F := F.below hb; replace hfr38 : ∀ k ∈ addrBlock A38, k < _ := (fun k hk => Nat.lt_of_lt_of_le (hfr38 k hk) hb.size); replace hfr39 : ∀ k ∈ addrBlock A39, k < _ := (fun k hk => Nat.lt_of_lt_of_le (hfr39 k hk) hb.size); replace hfr40 : ∀ k ∈ addrBlock A40, k < _ := (fun k hk => Nat.lt_of_lt_of_le (hfr40 k hk) hb.size); replace hfr42 : ∀ k ∈ addrBlock A42, k < _ := (fun k hk => Nat.lt_of_lt_of_le (hfr42 k hk) hb.size); replace hfr44 : ∀ k ∈ addrBlock A44, k < _ := (fun k hk => Nat.lt_of_lt_of_le (hfr44 k hk) hb.size); replace hfr49 : ∀ k ∈ addrBlock A49, k < _ := (fun k hk => Nat.lt_of_lt_of_le (hfr49 k hk) hb.size); replace hfr51 : ∀ k ∈ addrBlock A51, k < _ := (fun k hk => Nat.lt_of_lt_of_le (hfr51 k hk) hb.size); replace hfr52 : ∀ k ∈ addrBlock A52, k < _ := (fun k hk => Nat.lt_of_lt_of_le (hfr52 k hk) hb.size); replace hfr54 : ∀ k ∈ addrBlock A54, k < _ := (fun k hk => Nat.lt_of_lt_of_le (hfr54 k hk) hb.size); replace hfr56 : ∀ k ∈ addrBlock A56, k < _ := (fun k hk => Nat.lt_of_lt_of_le (hfr56 k hk) hb.size); replace hfr57 : ∀ k ∈ addrBlock A57, k < _ := (fun k hk => Nat.lt_of_lt_of_le (hfr57 k hk) hb.size); replace hfr59 : ∀ k ∈ addrBlock A59, k < _ := (fun k hk => Nat.lt_of_lt_of_le (hfr59 k hk) hb.size); replace hcur := bthen hcur hb; go_wp2_with fail
      refine hK.out _ _ hcur (fun hHeld => ?_)
      clear hK K hHeld
      (try simp only [Act.put, List.setIfInBounds_toArray, List.set_cons_zero, List.set_cons_succ])
      refine wpAnyH_take (i := 31) (oi := _) (v := .bool true) rfl (by kernel_rfl) (by kernel_rfl) (by kernel_rfl) (fun _ _ _ h => h) (Or.inl ⟨by kernel_rfl, fun W hSw => by ((try dsimp only at hSw); go_simp; try (with_reducible rfl))⟩) hcur ?_
      (try simp only [Act.put, List.setIfInBounds_toArray, List.set_cons_zero, List.set_cons_succ])
      refine wpAnyH_ready (rs := [32]) (by kernel_rfl) (by simp) ?_
      refine AllReadyH.cons (o := _) rfl (fun K hK => ?_) AllReadyH.nil
      go_simp
      refine hK.out _ _ hcur (fun hHeld => ?_)
      clear hK K hHeld
      (try simp only [Act.put, List.setIfInBounds_toArray, List.set_cons_zero, List.set_cons_succ])
      refine wpAnyH_done (by kernel_rfl) ?_ _
      refine NoPanic.normal ?_
      obtain ⟨rfl⟩ := hQ7
      (go_wp2_with fail)
      go_ret
      exact ⟨_, rfl, rfl, bthen hbt hcur⟩
end Go.Proofs.YtigoofeodbbbhaaDoor
