/- Num21 Num22, in one text. -/
import Derived.Test.YtigoofeodbbbhaaDoorNum8
import Derived.Test.YtigoofeodbbbhaaDoorNatG
import Derived.Test.YtigoofeodbbbhaaDoorNumK
/- nat.Div by any number; num.Truncate and num.Floor by zero. -/
namespace Go.Proofs.YtigoofeodbbbhaaDoor
open Go.RowKit Go.Proofs.YtigoofeodbbbhaaDoorL Go.Proofs.YtigoofeodbbbhaaDoorM
set_option linter.unusedVariables false
set_option linter.unusedSimpArgs false
theorem natDivAll_any (l m : List Nat) (A A2 : Option Addr) (c c2 : Nat) (w : World) (h : Lim w A c l) (h2 : Lim w A2 c2 m) (h0 : 0 < valB 4294967296 m) :
    Calls Tryd.prog 50 #[.slice A l.length c, .slice A2 m.length c2] w (Gives w fun v w' => DivTo w.heap.size w' v (valB 4294967296 l) (valB 4294967296 m)) := by
  rcases Nat.lt_or_ge (valB 4294967296 l) (valB 4294967296 m) with hlt | hge
  · exact natDivLt_any l m A A2 c c2 w h h2 hlt
  · rcases Nat.lt_or_ge (valB 4294967296 m) 4294967296 with h1 | h1
    · exact natDiv1_any l m A A2 c c2 w h h2 hge h0 h1
    · exact natDivG_any l m A A2 c c2 w h h2 hge h1
set_option maxRecDepth 8000 in
set_option maxHeartbeats 4000000 in
theorem truncate0_any (l m : List Nat) (n1 n2 : Bool) (A A2 : Option Addr) (c c2 : Nat) (w : World) (h : Lim w A c l) (h2 : Lim w A2 c2 m) (h0 : valB 4294967296 m = 0) :
    Calls Tryd.prog 20 #[.agg #[.bool n1, .slice A l.length c], .agg #[.bool n2, .slice A2 m.length c2]] w (Gives w fun v w' => v = .tuple #[.agg #[.bool false, .slice none 0 0], .agg #[.bool false, .slice none 0 0], .bool false]) := by
  have HD := As.mk (fun w1 (hb : Below w.heap.size w w1) => natDiv0_any l m A A2 c c2 w1 (h.below hb) (h2.below hb) h0)
  go_enter Tryd.func20, Tryd.ntmps20
  go_wp2_with (first
    | ((with_reducible refine g_dst 2 ?_); go_must (refine ev_box 2 rfl (cs := [.bool n1, .slice A l.length c]) (by rfl) ?_); intro g2 w2 hb2 B2 hg2)
    | ((with_reducible refine g_dst 3 ?_); go_must (refine ev_box 3 rfl (cs := [.bool n2, .slice A2 m.length c2]) (by rfl) ?_); intro g3 w3 hb3 B3 hg3; replace B2 := B2.below hb3; replace hb3 := bthen hb2 hb3)
    | ((with_reducible refine g_dst 4 ?_); go_must (refine ev_alloc 4 rfl infoNum (cs := [.bool false, .slice none 0 0]) rfl ?_); intro g4 w4 hb4 B4 hg4; replace B2 := B2.below hb4; replace B3 := B3.below hb4; replace hg4 := Nat.le_trans hb3.size hg4; replace hb4 := bthen hb3 hb4)
    | ((with_reducible refine g_dst 5 ?_); go_must (refine ev_alloc 5 rfl infoNum (cs := [.bool false, .slice none 0 0]) rfl ?_); intro g5 w5 hb5 B5 hg5; have hne54 : g5 ≠ g4 := Nat.ne_of_gt (Nat.lt_of_lt_of_le B4.lt hg5); replace B2 := B2.below hb5; replace B3 := B3.below hb5; replace B4 := B4.below hb5; replace hg5 := Nat.le_trans hb4.size hg5; replace hb5 := bthen hb4 hb5; have h45lt := And.intro B4.lt B5.lt))
  go_cut [7, 8] (fun s7 s8 wx => ∃ g7 g8 : Nat, s7 = .pointer (some ⟨g7, 0, none⟩) ∧ s8 = .pointer (some ⟨g8, 0, none⟩) ∧ As (w5.heap.size ≤ g7 ∧ w5.heap.size ≤ g8) ∧ Below w5.heap.size w5 wx ∧ Blk wx g7 [.slice A l.length c, .bool n1] 52 ∧ Blk wx g8 [.slice A2 m.length c2, .bool n2] 52)
  case first =>
    have hcur := (Below.refl w5.heap.size w5).drew
    refine wp_gen2 (fun Q7 hQ7 => ?_)
    refine wp_region_held_drew (S := fun W => Below w5.heap.size w5 W) (by kernel_rfl) hcur (fun hHeld => ?_)
    clear hHeld
    refine wpAnyH_take (i := 0) (oi := _) (v := .agg #[.bool n1, .slice A l.length c]) rfl (by kernel_rfl) (by kernel_rfl) (by kernel_rfl) (fun _ _ _ h => h) (Or.inl ⟨by rfl, ?_⟩) hcur ?_
    · intro W hSw
      have C2 := (B2.below hSw).cells
      have C3 := (B3.below hSw).cells
      go_simp
    (try simp only [Act.put, List.setIfInBounds_toArray, List.set_cons_zero, List.set_cons_succ])
    refine wpAnyH_take (i := 2) (oi := _) (v := .agg #[.bool n2, .slice A2 m.length c2]) rfl (by kernel_rfl) (by kernel_rfl) (by kernel_rfl) (fun _ _ _ h => h) (Or.inl ⟨by rfl, ?_⟩) hcur ?_
    · intro W hSw
      have C2 := (B2.below hSw).cells
      have C3 := (B3.below hSw).cells
      go_simp
    (try simp only [Act.put, List.setIfInBounds_toArray, List.set_cons_zero, List.set_cons_succ])
    refine wpAnyH_ready (rs := [1, 4, 5]) (by kernel_rfl) (by simp) ?_
    refine AllReadyH.cons (o := _) rfl (fun K hK => ?_) ?_
    · go_simp; refine (numOf_any n1 A l.length c _).mono ?_; rintro e w6 ⟨v6, rfl, rfl, hbn⟩; replace hcur := bthen hcur hbn; go_wp2_with fail
      refine hK.out _ _ hcur (fun hHeld => ?_)
      clear hK K hHeld
      (try simp only [Act.put, List.setIfInBounds_toArray, List.set_cons_zero, List.set_cons_succ])
      refine wpAnyH_ready (rs := [3, 4, 5]) (by kernel_rfl) (by simp) ?_
      refine AllReadyH.cons (o := _) rfl (fun K hK => ?_) ?_
      · go_simp; refine (numOf_any n2 A2 m.length c2 _).mono ?_; rintro e w6 ⟨v6, rfl, rfl, hbn⟩; replace hcur := bthen hcur hbn; go_wp2_with fail
        refine hK.out _ _ hcur (fun hHeld => ?_)
        clear hK K hHeld
        (try simp only [Act.put, List.setIfInBounds_toArray, List.set_cons_zero, List.set_cons_succ])
        refine wpAnyH_ready (rs := [4, 5]) (by kernel_rfl) (by simp) ?_
        refine AllReadyH.cons (o := _) rfl (fun K hK => ?_) ?_
        · refine st_alloc 7 rfl infoNm (cs := [.slice none 0 0, .bool false]) rfl ?_; intro g7 w6 hbn B7 hgn; have hg7 := Nat.le_trans hcur.size hgn; replace hcur := bthen hcur hbn
          refine hK.out _ _ hcur (fun hHeld => ?_)
          clear hK K hHeld
          (try simp only [Act.put, List.setIfInBounds_toArray, List.set_cons_zero, List.set_cons_succ])
          refine wpAnyH_ready (rs := [5]) (by kernel_rfl) (by simp) ?_
          refine AllReadyH.cons (o := _) rfl (fun K hK => ?_) ?_
          · refine st_alloc 8 rfl infoNm (cs := [.slice none 0 0, .bool false]) rfl ?_; intro g8 w6 hbn B8 hgn; have hne : g7 ≠ g8 := Nat.ne_of_lt (Nat.lt_of_lt_of_le B7.lt hgn); have hg8 := Nat.le_trans hcur.size hgn; replace B7 := B7.below hbn; replace hcur := bthen hcur hbn
            refine hK.out _ _ hcur (fun hHeld => ?_)
            clear hK K hHeld
            (try simp only [Act.put, List.setIfInBounds_toArray, List.set_cons_zero, List.set_cons_succ])
            refine wpAnyH_ready (rs := [6]) (by kernel_rfl) (by simp) ?_
            refine AllReadyH.cons (o := _) rfl (fun K hK => ?_) ?_
            · refine st_store rfl rfl B7 (news := [.slice A l.length c, .bool n1]) (by rfl) infoNm (by simp) (by simp [Value.oneCell']) ?_; intro w6 hon B7n; simp only [List.take_zero, List.nil_append, List.length_cons, List.length_nil, List.drop_succ_cons, List.drop_zero, List.append_nil, List.cons_append] at B7n; replace B8 := B8.only hon (Ne.symm hne); replace hcur := hcur.trans (hon.below hg7); clear B7; have B7 := B7n; clear B7n
              refine hK.out _ _ hcur (fun hHeld => ?_)
              clear hK K hHeld
              (try simp only [Act.put, List.setIfInBounds_toArray, List.set_cons_zero, List.set_cons_succ])
              refine wpAnyH_ready (rs := [7]) (by kernel_rfl) (by simp) ?_
              refine AllReadyH.cons (o := _) rfl (fun K hK => ?_) ?_
              · refine st_store rfl rfl B8 (news := [.slice A2 m.length c2, .bool n2]) (by rfl) infoNm (by simp) (by simp [Value.oneCell']) ?_; intro w6 hon B8n; simp only [List.take_zero, List.nil_append, List.length_cons, List.length_nil, List.drop_succ_cons, List.drop_zero, List.append_nil, List.cons_append] at B8n; replace B7 := B7.only hon hne; replace hcur := hcur.trans (hon.below hg8); clear B8; have B8 := B8n; clear B8n
                refine hK.out _ _ hcur (fun hHeld => ?_)
                clear hK K hHeld
                (try simp only [Act.put, List.setIfInBounds_toArray, List.set_cons_zero, List.set_cons_succ])
                refine wpAnyH_done (by kernel_rfl) ?_ _
                refine NoPanic.normal ?_
                obtain ⟨rfl⟩ := hQ7
                (go_wp2_with fail)
                go_meet
                exact ⟨g7, g8, rfl, rfl, ⟨hg7, hg8⟩, hcur, B7, B8⟩
              exact AllReadyH.nil
            exact AllReadyH.nil
          exact AllReadyH.nil
        refine AllReadyH.cons (o := _) rfl (fun K hK => ?_) ?_
        · refine st_alloc 8 rfl infoNm (cs := [.slice none 0 0, .bool false]) rfl ?_; intro g8 w6 hbn B8 hgn; have hg8 := Nat.le_trans hcur.size hgn; replace hcur := bthen hcur hbn
          refine hK.out _ _ hcur (fun hHeld => ?_)
          clear hK K hHeld
          (try simp only [Act.put, List.setIfInBounds_toArray, List.set_cons_zero, List.set_cons_succ])
          refine wpAnyH_ready (rs := [4]) (by kernel_rfl) (by simp) ?_
          refine AllReadyH.cons (o := _) rfl (fun K hK => ?_) ?_
          · refine st_alloc 7 rfl infoNm (cs := [.slice none 0 0, .bool false]) rfl ?_; intro g7 w6 hbn B7 hgn; have hne : g7 ≠ g8 := Nat.ne_of_gt (Nat.lt_of_lt_of_le B8.lt hgn); have hg7 := Nat.le_trans hcur.size hgn; replace B8 := B8.below hbn; replace hcur := bthen hcur hbn
            refine hK.out _ _ hcur (fun hHeld => ?_)
            clear hK K hHeld
            (try simp only [Act.put, List.setIfInBounds_toArray, List.set_cons_zero, List.set_cons_succ])
            refine wpAnyH_ready (rs := [6]) (by kernel_rfl) (by simp) ?_
            refine AllReadyH.cons (o := _) rfl (fun K hK => ?_) ?_
            · refine st_store rfl rfl B7 (news := [.slice A l.length c, .bool n1]) (by rfl) infoNm (by simp) (by simp [Value.oneCell']) ?_; intro w6 hon B7n; simp only [List.take_zero, List.nil_append, List.length_cons, List.length_nil, List.drop_succ_cons, List.drop_zero, List.append_nil, List.cons_append] at B7n; replace B8 := B8.only hon (Ne.symm hne); replace hcur := hcur.trans (hon.below hg7); clear B7; have B7 := B7n; clear B7n
              refine hK.out _ _ hcur (fun hHeld => ?_)
              clear hK K hHeld
              (try simp only [Act.put, List.setIfInBounds_toArray, List.set_cons_zero, List.set_cons_succ])
              refine wpAnyH_ready (rs := [7]) (by kernel_rfl) (by simp) ?_
              refine AllReadyH.cons (o := _) rfl (fun K hK => ?_) ?_
              · refine st_store rfl rfl B8 (news := [.slice A2 m.length c2, .bool n2]) (by rfl) infoNm (by simp) (by simp [Value.oneCell']) ?_; intro w6 hon B8n; simp only [List.take_zero, List.nil_append, List.length_cons, List.length_nil, List.drop_succ_cons, List.drop_zero, List.append_nil, List.cons_append] at B8n; replace B7 := B7.only hon hne; replace hcur := hcur.trans (hon.below hg8); clear B8; have B8 := B8n; clear B8n
                refine hK.out _ _ hcur (fun hHeld => ?_)
                clear hK K hHeld
                (try simp only [Act.put, List.setIfInBounds_toArray, List.set_cons_zero, List.set_cons_succ])
                refine wpAnyH_done (by kernel_rfl) ?_ _
                refine NoPanic.normal ?_
                obtain ⟨rfl⟩ := hQ7
                (go_wp2_with fail)
                go_meet
                exact ⟨g7, g8, rfl, rfl, ⟨hg7, hg8⟩, hcur, B7, B8⟩
              exact AllReadyH.nil
            exact AllReadyH.nil
          exact AllReadyH.nil
        exact AllReadyH.nil
      refine AllReadyH.cons (o := _) rfl (fun K hK => ?_) ?_
      · refine st_alloc 7 rfl infoNm (cs := [.slice none 0 0, .bool false]) rfl ?_; intro g7 w6 hbn B7 hgn; have hg7 := Nat.le_trans hcur.size hgn; replace hcur := bthen hcur hbn
        refine hK.out _ _ hcur (fun hHeld => ?_)
        clear hK K hHeld
        (try simp only [Act.put, List.setIfInBounds_toArray, List.set_cons_zero, List.set_cons_succ])
        refine wpAnyH_ready (rs := [3, 5]) (by kernel_rfl) (by simp) ?_
        refine AllReadyH.cons (o := _) rfl (fun K hK => ?_) ?_
        · go_simp; refine (numOf_any n2 A2 m.length c2 _).mono ?_; rintro e w6 ⟨v6, rfl, rfl, hbn⟩; replace B7 := B7.below hbn; replace hcur := bthen hcur hbn; go_wp2_with fail
          refine hK.out _ _ hcur (fun hHeld => ?_)
          clear hK K hHeld
          (try simp only [Act.put, List.setIfInBounds_toArray, List.set_cons_zero, List.set_cons_succ])
          refine wpAnyH_ready (rs := [5]) (by kernel_rfl) (by simp) ?_
          refine AllReadyH.cons (o := _) rfl (fun K hK => ?_) ?_
          · refine st_alloc 8 rfl infoNm (cs := [.slice none 0 0, .bool false]) rfl ?_; intro g8 w6 hbn B8 hgn; have hne : g7 ≠ g8 := Nat.ne_of_lt (Nat.lt_of_lt_of_le B7.lt hgn); have hg8 := Nat.le_trans hcur.size hgn; replace B7 := B7.below hbn; replace hcur := bthen hcur hbn
            refine hK.out _ _ hcur (fun hHeld => ?_)
            clear hK K hHeld
            (try simp only [Act.put, List.setIfInBounds_toArray, List.set_cons_zero, List.set_cons_succ])
            refine wpAnyH_ready (rs := [6]) (by kernel_rfl) (by simp) ?_
            refine AllReadyH.cons (o := _) rfl (fun K hK => ?_) ?_
            · refine st_store rfl rfl B7 (news := [.slice A l.length c, .bool n1]) (by rfl) infoNm (by simp) (by simp [Value.oneCell']) ?_; intro w6 hon B7n; simp only [List.take_zero, List.nil_append, List.length_cons, List.length_nil, List.drop_succ_cons, List.drop_zero, List.append_nil, List.cons_append] at B7n; replace B8 := B8.only hon (Ne.symm hne); replace hcur := hcur.trans (hon.below hg7); clear B7; have B7 := B7n; clear B7n
              refine hK.out _ _ hcur (fun hHeld => ?_)
              clear hK K hHeld
              (try simp only [Act.put, List.setIfInBounds_toArray, List.set_cons_zero, List.set_cons_succ])
              refine wpAnyH_ready (rs := [7]) (by kernel_rfl) (by simp) ?_
              refine AllReadyH.cons (o := _) rfl (fun K hK => ?_) ?_
              · refine st_store rfl rfl B8 (news := [.slice A2 m.length c2, .bool n2]) (by rfl) infoNm (by simp) (by simp [Value.oneCell']) ?_; intro w6 hon B8n; simp only [List.take_zero, List.nil_append, List.length_cons, List.length_nil, List.drop_succ_cons, List.drop_zero, List.append_nil, List.cons_append] at B8n; replace B7 := B7.only hon hne; replace hcur := hcur.trans (hon.below hg8); clear B8; have B8 := B8n; clear B8n
                refine hK.out _ _ hcur (fun hHeld => ?_)
                clear hK K hHeld
                (try simp only [Act.put, List.setIfInBounds_toArray, List.set_cons_zero, List.set_cons_succ])
                refine wpAnyH_done (by kernel_rfl) ?_ _
                refine NoPanic.normal ?_
                obtain ⟨rfl⟩ := hQ7
                (go_wp2_with fail)
                go_meet
                exact ⟨g7, g8, rfl, rfl, ⟨hg7, hg8⟩, hcur, B7, B8⟩
              exact AllReadyH.nil
            exact AllReadyH.nil
          exact AllReadyH.nil
        refine AllReadyH.cons (o := _) rfl (fun K hK => ?_) ?_
        · refine st_alloc 8 rfl infoNm (cs := [.slice none 0 0, .bool false]) rfl ?_; intro g8 w6 hbn B8 hgn; have hne : g7 ≠ g8 := Nat.ne_of_lt (Nat.lt_of_lt_of_le B7.lt hgn); have hg8 := Nat.le_trans hcur.size hgn; replace B7 := B7.below hbn; replace hcur := bthen hcur hbn
          refine hK.out _ _ hcur (fun hHeld => ?_)
          clear hK K hHeld
          (try simp only [Act.put, List.setIfInBounds_toArray, List.set_cons_zero, List.set_cons_succ])
          refine wpAnyH_ready (rs := [3]) (by kernel_rfl) (by simp) ?_
          refine AllReadyH.cons (o := _) rfl (fun K hK => ?_) ?_
          · go_simp; refine (numOf_any n2 A2 m.length c2 _).mono ?_; rintro e w6 ⟨v6, rfl, rfl, hbn⟩; replace B7 := B7.below hbn; replace B8 := B8.below hbn; replace hcur := bthen hcur hbn; go_wp2_with fail
            refine hK.out _ _ hcur (fun hHeld => ?_)
            clear hK K hHeld
            (try simp only [Act.put, List.setIfInBounds_toArray, List.set_cons_zero, List.set_cons_succ])
            refine wpAnyH_ready (rs := [6]) (by kernel_rfl) (by simp) ?_
            refine AllReadyH.cons (o := _) rfl (fun K hK => ?_) ?_
            · refine st_store rfl rfl B7 (news := [.slice A l.length c, .bool n1]) (by rfl) infoNm (by simp) (by simp [Value.oneCell']) ?_; intro w6 hon B7n; simp only [List.take_zero, List.nil_append, List.length_cons, List.length_nil, List.drop_succ_cons, List.drop_zero, List.append_nil, List.cons_append] at B7n; replace B8 := B8.only hon (Ne.symm hne); replace hcur := hcur.trans (hon.below hg7); clear B7; have B7 := B7n; clear B7n
              refine hK.out _ _ hcur (fun hHeld => ?_)
              clear hK K hHeld
              (try simp only [Act.put, List.setIfInBounds_toArray, List.set_cons_zero, List.set_cons_succ])
              refine wpAnyH_ready (rs := [7]) (by kernel_rfl) (by simp) ?_
              refine AllReadyH.cons (o := _) rfl (fun K hK => ?_) ?_
              · refine st_store rfl rfl B8 (news := [.slice A2 m.length c2, .bool n2]) (by rfl) infoNm (by simp) (by simp [Value.oneCell']) ?_; intro w6 hon B8n; simp only [List.take_zero, List.nil_append, List.length_cons, List.length_nil, List.drop_succ_cons, List.drop_zero, List.append_nil, List.cons_append] at B8n; replace B7 := B7.only hon hne; replace hcur := hcur.trans (hon.below hg8); clear B8; have B8 := B8n; clear B8n
                refine hK.out _ _ hcur (fun hHeld => ?_)
                clear hK K hHeld
                (try simp only [Act.put, List.setIfInBounds_toArray, List.set_cons_zero, List.set_cons_succ])
                refine wpAnyH_done (by kernel_rfl) ?_ _
                refine NoPanic.normal ?_
                obtain ⟨rfl⟩ := hQ7
                (go_wp2_with fail)
                go_meet
                exact ⟨g7, g8, rfl, rfl, ⟨hg7, hg8⟩, hcur, B7, B8⟩
              exact AllReadyH.nil
            exact AllReadyH.nil
          exact AllReadyH.nil
        exact AllReadyH.nil
      refine AllReadyH.cons (o := _) rfl (fun K hK => ?_) ?_
      · refine st_alloc 8 rfl infoNm (cs := [.slice none 0 0, .bool false]) rfl ?_; intro g8 w6 hbn B8 hgn; have hg8 := Nat.le_trans hcur.size hgn; replace hcur := bthen hcur hbn
        refine hK.out _ _ hcur (fun hHeld => ?_)
        clear hK K hHeld
        (try simp only [Act.put, List.setIfInBounds_toArray, List.set_cons_zero, List.set_cons_succ])
        refine wpAnyH_ready (rs := [3, 4]) (by kernel_rfl) (by simp) ?_
        refine AllReadyH.cons (o := _) rfl (fun K hK => ?_) ?_
        · go_simp; refine (numOf_any n2 A2 m.length c2 _).mono ?_; rintro e w6 ⟨v6, rfl, rfl, hbn⟩; replace B8 := B8.below hbn; replace hcur := bthen hcur hbn; go_wp2_with fail
          refine hK.out _ _ hcur (fun hHeld => ?_)
          clear hK K hHeld
          (try simp only [Act.put, List.setIfInBounds_toArray, List.set_cons_zero, List.set_cons_succ])
          refine wpAnyH_ready (rs := [4]) (by kernel_rfl) (by simp) ?_
          refine AllReadyH.cons (o := _) rfl (fun K hK => ?_) ?_
          · refine st_alloc 7 rfl infoNm (cs := [.slice none 0 0, .bool false]) rfl ?_; intro g7 w6 hbn B7 hgn; have hne : g7 ≠ g8 := Nat.ne_of_gt (Nat.lt_of_lt_of_le B8.lt hgn); have hg7 := Nat.le_trans hcur.size hgn; replace B8 := B8.below hbn; replace hcur := bthen hcur hbn
            refine hK.out _ _ hcur (fun hHeld => ?_)
            clear hK K hHeld
            (try simp only [Act.put, List.setIfInBounds_toArray, List.set_cons_zero, List.set_cons_succ])
            refine wpAnyH_ready (rs := [6]) (by kernel_rfl) (by simp) ?_
            refine AllReadyH.cons (o := _) rfl (fun K hK => ?_) ?_
            · refine st_store rfl rfl B7 (news := [.slice A l.length c, .bool n1]) (by rfl) infoNm (by simp) (by simp [Value.oneCell']) ?_; intro w6 hon B7n; simp only [List.take_zero, List.nil_append, List.length_cons, List.length_nil, List.drop_succ_cons, List.drop_zero, List.append_nil, List.cons_append] at B7n; replace B8 := B8.only hon (Ne.symm hne); replace hcur := hcur.trans (hon.below hg7); clear B7; have B7 := B7n; clear B7n
              refine hK.out _ _ hcur (fun hHeld => ?_)
              clear hK K hHeld
              (try simp only [Act.put, List.setIfInBounds_toArray, List.set_cons_zero, List.set_cons_succ])
              refine wpAnyH_ready (rs := [7]) (by kernel_rfl) (by simp) ?_
              refine AllReadyH.cons (o := _) rfl (fun K hK => ?_) ?_
              · refine st_store rfl rfl B8 (news := [.slice A2 m.length c2, .bool n2]) (by rfl) infoNm (by simp) (by simp [Value.oneCell']) ?_; intro w6 hon B8n; simp only [List.take_zero, List.nil_append, List.length_cons, List.length_nil, List.drop_succ_cons, List.drop_zero, List.append_nil, List.cons_append] at B8n; replace B7 := B7.only hon hne; replace hcur := hcur.trans (hon.below hg8); clear B8; have B8 := B8n; clear B8n
                refine hK.out _ _ hcur (fun hHeld => ?_)
                clear hK K hHeld
                (try simp only [Act.put, List.setIfInBounds_toArray, List.set_cons_zero, List.set_cons_succ])
                refine wpAnyH_done (by kernel_rfl) ?_ _
                refine NoPanic.normal ?_
                obtain ⟨rfl⟩ := hQ7
                (go_wp2_with fail)
                go_meet
                exact ⟨g7, g8, rfl, rfl, ⟨hg7, hg8⟩, hcur, B7, B8⟩
              exact AllReadyH.nil
            exact AllReadyH.nil
          exact AllReadyH.nil
        refine AllReadyH.cons (o := _) rfl (fun K hK => ?_) ?_
        · refine st_alloc 7 rfl infoNm (cs := [.slice none 0 0, .bool false]) rfl ?_; intro g7 w6 hbn B7 hgn; have hne : g7 ≠ g8 := Nat.ne_of_gt (Nat.lt_of_lt_of_le B8.lt hgn); have hg7 := Nat.le_trans hcur.size hgn; replace B8 := B8.below hbn; replace hcur := bthen hcur hbn
          refine hK.out _ _ hcur (fun hHeld => ?_)
          clear hK K hHeld
          (try simp only [Act.put, List.setIfInBounds_toArray, List.set_cons_zero, List.set_cons_succ])
          refine wpAnyH_ready (rs := [3]) (by kernel_rfl) (by simp) ?_
          refine AllReadyH.cons (o := _) rfl (fun K hK => ?_) ?_
          · go_simp; refine (numOf_any n2 A2 m.length c2 _).mono ?_; rintro e w6 ⟨v6, rfl, rfl, hbn⟩; replace B8 := B8.below hbn; replace B7 := B7.below hbn; replace hcur := bthen hcur hbn; go_wp2_with fail
            refine hK.out _ _ hcur (fun hHeld => ?_)
            clear hK K hHeld
            (try simp only [Act.put, List.setIfInBounds_toArray, List.set_cons_zero, List.set_cons_succ])
            refine wpAnyH_ready (rs := [6]) (by kernel_rfl) (by simp) ?_
            refine AllReadyH.cons (o := _) rfl (fun K hK => ?_) ?_
            · refine st_store rfl rfl B7 (news := [.slice A l.length c, .bool n1]) (by rfl) infoNm (by simp) (by simp [Value.oneCell']) ?_; intro w6 hon B7n; simp only [List.take_zero, List.nil_append, List.length_cons, List.length_nil, List.drop_succ_cons, List.drop_zero, List.append_nil, List.cons_append] at B7n; replace B8 := B8.only hon (Ne.symm hne); replace hcur := hcur.trans (hon.below hg7); clear B7; have B7 := B7n; clear B7n
              refine hK.out _ _ hcur (fun hHeld => ?_)
              clear hK K hHeld
              (try simp only [Act.put, List.setIfInBounds_toArray, List.set_cons_zero, List.set_cons_succ])
              refine wpAnyH_ready (rs := [7]) (by kernel_rfl) (by simp) ?_
              refine AllReadyH.cons (o := _) rfl (fun K hK => ?_) ?_
              · refine st_store rfl rfl B8 (news := [.slice A2 m.length c2, .bool n2]) (by rfl) infoNm (by simp) (by simp [Value.oneCell']) ?_; intro w6 hon B8n; simp only [List.take_zero, List.nil_append, List.length_cons, List.length_nil, List.drop_succ_cons, List.drop_zero, List.append_nil, List.cons_append] at B8n; replace B7 := B7.only hon hne; replace hcur := hcur.trans (hon.below hg8); clear B8; have B8 := B8n; clear B8n
                refine hK.out _ _ hcur (fun hHeld => ?_)
                clear hK K hHeld
                (try simp only [Act.put, List.setIfInBounds_toArray, List.set_cons_zero, List.set_cons_succ])
                refine wpAnyH_done (by kernel_rfl) ?_ _
                refine NoPanic.normal ?_
                obtain ⟨rfl⟩ := hQ7
                (go_wp2_with fail)
                go_meet
                exact ⟨g7, g8, rfl, rfl, ⟨hg7, hg8⟩, hcur, B7, B8⟩
              exact AllReadyH.nil
            exact AllReadyH.nil
          exact AllReadyH.nil
        exact AllReadyH.nil
      exact AllReadyH.nil
    refine AllReadyH.cons (o := _) rfl (fun K hK => ?_) ?_
    · refine st_alloc 7 rfl infoNm (cs := [.slice none 0 0, .bool false]) rfl ?_; intro g7 w6 hbn B7 hgn; have hg7 := Nat.le_trans hcur.size hgn; replace hcur := bthen hcur hbn
      refine hK.out _ _ hcur (fun hHeld => ?_)
      clear hK K hHeld
      (try simp only [Act.put, List.setIfInBounds_toArray, List.set_cons_zero, List.set_cons_succ])
      refine wpAnyH_ready (rs := [1, 5]) (by kernel_rfl) (by simp) ?_
      refine AllReadyH.cons (o := _) rfl (fun K hK => ?_) ?_
      · go_simp; refine (numOf_any n1 A l.length c _).mono ?_; rintro e w6 ⟨v6, rfl, rfl, hbn⟩; replace B7 := B7.below hbn; replace hcur := bthen hcur hbn; go_wp2_with fail
        refine hK.out _ _ hcur (fun hHeld => ?_)
        clear hK K hHeld
        (try simp only [Act.put, List.setIfInBounds_toArray, List.set_cons_zero, List.set_cons_succ])
        refine wpAnyH_ready (rs := [3, 5]) (by kernel_rfl) (by simp) ?_
        refine AllReadyH.cons (o := _) rfl (fun K hK => ?_) ?_
        · go_simp; refine (numOf_any n2 A2 m.length c2 _).mono ?_; rintro e w6 ⟨v6, rfl, rfl, hbn⟩; replace B7 := B7.below hbn; replace hcur := bthen hcur hbn; go_wp2_with fail
          refine hK.out _ _ hcur (fun hHeld => ?_)
          clear hK K hHeld
          (try simp only [Act.put, List.setIfInBounds_toArray, List.set_cons_zero, List.set_cons_succ])
          refine wpAnyH_ready (rs := [5]) (by kernel_rfl) (by simp) ?_
          refine AllReadyH.cons (o := _) rfl (fun K hK => ?_) ?_
          · refine st_alloc 8 rfl infoNm (cs := [.slice none 0 0, .bool false]) rfl ?_; intro g8 w6 hbn B8 hgn; have hne : g7 ≠ g8 := Nat.ne_of_lt (Nat.lt_of_lt_of_le B7.lt hgn); have hg8 := Nat.le_trans hcur.size hgn; replace B7 := B7.below hbn; replace hcur := bthen hcur hbn
            refine hK.out _ _ hcur (fun hHeld => ?_)
            clear hK K hHeld
            (try simp only [Act.put, List.setIfInBounds_toArray, List.set_cons_zero, List.set_cons_succ])
            refine wpAnyH_ready (rs := [6]) (by kernel_rfl) (by simp) ?_
            refine AllReadyH.cons (o := _) rfl (fun K hK => ?_) ?_
            · refine st_store rfl rfl B7 (news := [.slice A l.length c, .bool n1]) (by rfl) infoNm (by simp) (by simp [Value.oneCell']) ?_; intro w6 hon B7n; simp only [List.take_zero, List.nil_append, List.length_cons, List.length_nil, List.drop_succ_cons, List.drop_zero, List.append_nil, List.cons_append] at B7n; replace B8 := B8.only hon (Ne.symm hne); replace hcur := hcur.trans (hon.below hg7); clear B7; have B7 := B7n; clear B7n
              refine hK.out _ _ hcur (fun hHeld => ?_)
              clear hK K hHeld
              (try simp only [Act.put, List.setIfInBounds_toArray, List.set_cons_zero, List.set_cons_succ])
              refine wpAnyH_ready (rs := [7]) (by kernel_rfl) (by simp) ?_
              refine AllReadyH.cons (o := _) rfl (fun K hK => ?_) ?_
              · refine st_store rfl rfl B8 (news := [.slice A2 m.length c2, .bool n2]) (by rfl) infoNm (by simp) (by simp [Value.oneCell']) ?_; intro w6 hon B8n; simp only [List.take_zero, List.nil_append, List.length_cons, List.length_nil, List.drop_succ_cons, List.drop_zero, List.append_nil, List.cons_append] at B8n; replace B7 := B7.only hon hne; replace hcur := hcur.trans (hon.below hg8); clear B8; have B8 := B8n; clear B8n
                refine hK.out _ _ hcur (fun hHeld => ?_)
                clear hK K hHeld
                (try simp only [Act.put, List.setIfInBounds_toArray, List.set_cons_zero, List.set_cons_succ])
                refine wpAnyH_done (by kernel_rfl) ?_ _
                refine NoPanic.normal ?_
                obtain ⟨rfl⟩ := hQ7
                (go_wp2_with fail)
                go_meet
                exact ⟨g7, g8, rfl, rfl, ⟨hg7, hg8⟩, hcur, B7, B8⟩
              exact AllReadyH.nil
            exact AllReadyH.nil
          exact AllReadyH.nil
        refine AllReadyH.cons (o := _) rfl (fun K hK => ?_) ?_
        · refine st_alloc 8 rfl infoNm (cs := [.slice none 0 0, .bool false]) rfl ?_; intro g8 w6 hbn B8 hgn; have hne : g7 ≠ g8 := Nat.ne_of_lt (Nat.lt_of_lt_of_le B7.lt hgn); have hg8 := Nat.le_trans hcur.size hgn; replace B7 := B7.below hbn; replace hcur := bthen hcur hbn
          refine hK.out _ _ hcur (fun hHeld => ?_)
          clear hK K hHeld
          (try simp only [Act.put, List.setIfInBounds_toArray, List.set_cons_zero, List.set_cons_succ])
          refine wpAnyH_ready (rs := [3]) (by kernel_rfl) (by simp) ?_
          refine AllReadyH.cons (o := _) rfl (fun K hK => ?_) ?_
          · go_simp; refine (numOf_any n2 A2 m.length c2 _).mono ?_; rintro e w6 ⟨v6, rfl, rfl, hbn⟩; replace B7 := B7.below hbn; replace B8 := B8.below hbn; replace hcur := bthen hcur hbn; go_wp2_with fail
            refine hK.out _ _ hcur (fun hHeld => ?_)
            clear hK K hHeld
            (try simp only [Act.put, List.setIfInBounds_toArray, List.set_cons_zero, List.set_cons_succ])
            refine wpAnyH_ready (rs := [6]) (by kernel_rfl) (by simp) ?_
            refine AllReadyH.cons (o := _) rfl (fun K hK => ?_) ?_
            · refine st_store rfl rfl B7 (news := [.slice A l.length c, .bool n1]) (by rfl) infoNm (by simp) (by simp [Value.oneCell']) ?_; intro w6 hon B7n; simp only [List.take_zero, List.nil_append, List.length_cons, List.length_nil, List.drop_succ_cons, List.drop_zero, List.append_nil, List.cons_append] at B7n; replace B8 := B8.only hon (Ne.symm hne); replace hcur := hcur.trans (hon.below hg7); clear B7; have B7 := B7n; clear B7n
              refine hK.out _ _ hcur (fun hHeld => ?_)
              clear hK K hHeld
              (try simp only [Act.put, List.setIfInBounds_toArray, List.set_cons_zero, List.set_cons_succ])
              refine wpAnyH_ready (rs := [7]) (by kernel_rfl) (by simp) ?_
              refine AllReadyH.cons (o := _) rfl (fun K hK => ?_) ?_
              · refine st_store rfl rfl B8 (news := [.slice A2 m.length c2, .bool n2]) (by rfl) infoNm (by simp) (by simp [Value.oneCell']) ?_; intro w6 hon B8n; simp only [List.take_zero, List.nil_append, List.length_cons, List.length_nil, List.drop_succ_cons, List.drop_zero, List.append_nil, List.cons_append] at B8n; replace B7 := B7.only hon hne; replace hcur := hcur.trans (hon.below hg8); clear B8; have B8 := B8n; clear B8n
                refine hK.out _ _ hcur (fun hHeld => ?_)
                clear hK K hHeld
                (try simp only [Act.put, List.setIfInBounds_toArray, List.set_cons_zero, List.set_cons_succ])
                refine wpAnyH_done (by kernel_rfl) ?_ _
                refine NoPanic.normal ?_
                obtain ⟨rfl⟩ := hQ7
                (go_wp2_with fail)
                go_meet
                exact ⟨g7, g8, rfl, rfl, ⟨hg7, hg8⟩, hcur, B7, B8⟩
              exact AllReadyH.nil
            exact AllReadyH.nil
          exact AllReadyH.nil
        exact AllReadyH.nil
      refine AllReadyH.cons (o := _) rfl (fun K hK => ?_) ?_
      · refine st_alloc 8 rfl infoNm (cs := [.slice none 0 0, .bool false]) rfl ?_; intro g8 w6 hbn B8 hgn; have hne : g7 ≠ g8 := Nat.ne_of_lt (Nat.lt_of_lt_of_le B7.lt hgn); have hg8 := Nat.le_trans hcur.size hgn; replace B7 := B7.below hbn; replace hcur := bthen hcur hbn
        refine hK.out _ _ hcur (fun hHeld => ?_)
        clear hK K hHeld
        (try simp only [Act.put, List.setIfInBounds_toArray, List.set_cons_zero, List.set_cons_succ])
        refine wpAnyH_ready (rs := [1]) (by kernel_rfl) (by simp) ?_
        refine AllReadyH.cons (o := _) rfl (fun K hK => ?_) ?_
        · go_simp; refine (numOf_any n1 A l.length c _).mono ?_; rintro e w6 ⟨v6, rfl, rfl, hbn⟩; replace B7 := B7.below hbn; replace B8 := B8.below hbn; replace hcur := bthen hcur hbn; go_wp2_with fail
          refine hK.out _ _ hcur (fun hHeld => ?_)
          clear hK K hHeld
          (try simp only [Act.put, List.setIfInBounds_toArray, List.set_cons_zero, List.set_cons_succ])
          refine wpAnyH_ready (rs := [3]) (by kernel_rfl) (by simp) ?_
          refine AllReadyH.cons (o := _) rfl (fun K hK => ?_) ?_
          · go_simp; refine (numOf_any n2 A2 m.length c2 _).mono ?_; rintro e w6 ⟨v6, rfl, rfl, hbn⟩; replace B7 := B7.below hbn; replace B8 := B8.below hbn; replace hcur := bthen hcur hbn; go_wp2_with fail
            refine hK.out _ _ hcur (fun hHeld => ?_)
            clear hK K hHeld
            (try simp only [Act.put, List.setIfInBounds_toArray, List.set_cons_zero, List.set_cons_succ])
            refine wpAnyH_ready (rs := [6]) (by kernel_rfl) (by simp) ?_
            refine AllReadyH.cons (o := _) rfl (fun K hK => ?_) ?_
            · refine st_store rfl rfl B7 (news := [.slice A l.length c, .bool n1]) (by rfl) infoNm (by simp) (by simp [Value.oneCell']) ?_; intro w6 hon B7n; simp only [List.take_zero, List.nil_append, List.length_cons, List.length_nil, List.drop_succ_cons, List.drop_zero, List.append_nil, List.cons_append] at B7n; replace B8 := B8.only hon (Ne.symm hne); replace hcur := hcur.trans (hon.below hg7); clear B7; have B7 := B7n; clear B7n
              refine hK.out _ _ hcur (fun hHeld => ?_)
              clear hK K hHeld
              (try simp only [Act.put, List.setIfInBounds_toArray, List.set_cons_zero, List.set_cons_succ])
              refine wpAnyH_ready (rs := [7]) (by kernel_rfl) (by simp) ?_
              refine AllReadyH.cons (o := _) rfl (fun K hK => ?_) ?_
              · refine st_store rfl rfl B8 (news := [.slice A2 m.length c2, .bool n2]) (by rfl) infoNm (by simp) (by simp [Value.oneCell']) ?_; intro w6 hon B8n; simp only [List.take_zero, List.nil_append, List.length_cons, List.length_nil, List.drop_succ_cons, List.drop_zero, List.append_nil, List.cons_append] at B8n; replace B7 := B7.only hon hne; replace hcur := hcur.trans (hon.below hg8); clear B8; have B8 := B8n; clear B8n
                refine hK.out _ _ hcur (fun hHeld => ?_)
                clear hK K hHeld
                (try simp only [Act.put, List.setIfInBounds_toArray, List.set_cons_zero, List.set_cons_succ])
                refine wpAnyH_done (by kernel_rfl) ?_ _
                refine NoPanic.normal ?_
                obtain ⟨rfl⟩ := hQ7
                (go_wp2_with fail)
                go_meet
                exact ⟨g7, g8, rfl, rfl, ⟨hg7, hg8⟩, hcur, B7, B8⟩
              exact AllReadyH.nil
            exact AllReadyH.nil
          exact AllReadyH.nil
        exact AllReadyH.nil
      exact AllReadyH.nil
    refine AllReadyH.cons (o := _) rfl (fun K hK => ?_) ?_
    · refine st_alloc 8 rfl infoNm (cs := [.slice none 0 0, .bool false]) rfl ?_; intro g8 w6 hbn B8 hgn; have hg8 := Nat.le_trans hcur.size hgn; replace hcur := bthen hcur hbn
      refine hK.out _ _ hcur (fun hHeld => ?_)
      clear hK K hHeld
      (try simp only [Act.put, List.setIfInBounds_toArray, List.set_cons_zero, List.set_cons_succ])
      refine wpAnyH_ready (rs := [1, 4]) (by kernel_rfl) (by simp) ?_
      refine AllReadyH.cons (o := _) rfl (fun K hK => ?_) ?_
      · go_simp; refine (numOf_any n1 A l.length c _).mono ?_; rintro e w6 ⟨v6, rfl, rfl, hbn⟩; replace B8 := B8.below hbn; replace hcur := bthen hcur hbn; go_wp2_with fail
        refine hK.out _ _ hcur (fun hHeld => ?_)
        clear hK K hHeld
        (try simp only [Act.put, List.setIfInBounds_toArray, List.set_cons_zero, List.set_cons_succ])
        refine wpAnyH_ready (rs := [3, 4]) (by kernel_rfl) (by simp) ?_
        refine AllReadyH.cons (o := _) rfl (fun K hK => ?_) ?_
        · go_simp; refine (numOf_any n2 A2 m.length c2 _).mono ?_; rintro e w6 ⟨v6, rfl, rfl, hbn⟩; replace B8 := B8.below hbn; replace hcur := bthen hcur hbn; go_wp2_with fail
          refine hK.out _ _ hcur (fun hHeld => ?_)
          clear hK K hHeld
          (try simp only [Act.put, List.setIfInBounds_toArray, List.set_cons_zero, List.set_cons_succ])
          refine wpAnyH_ready (rs := [4]) (by kernel_rfl) (by simp) ?_
          refine AllReadyH.cons (o := _) rfl (fun K hK => ?_) ?_
          · refine st_alloc 7 rfl infoNm (cs := [.slice none 0 0, .bool false]) rfl ?_; intro g7 w6 hbn B7 hgn; have hne : g7 ≠ g8 := Nat.ne_of_gt (Nat.lt_of_lt_of_le B8.lt hgn); have hg7 := Nat.le_trans hcur.size hgn; replace B8 := B8.below hbn; replace hcur := bthen hcur hbn
            refine hK.out _ _ hcur (fun hHeld => ?_)
            clear hK K hHeld
            (try simp only [Act.put, List.setIfInBounds_toArray, List.set_cons_zero, List.set_cons_succ])
            refine wpAnyH_ready (rs := [6]) (by kernel_rfl) (by simp) ?_
            refine AllReadyH.cons (o := _) rfl (fun K hK => ?_) ?_
            · refine st_store rfl rfl B7 (news := [.slice A l.length c, .bool n1]) (by rfl) infoNm (by simp) (by simp [Value.oneCell']) ?_; intro w6 hon B7n; simp only [List.take_zero, List.nil_append, List.length_cons, List.length_nil, List.drop_succ_cons, List.drop_zero, List.append_nil, List.cons_append] at B7n; replace B8 := B8.only hon (Ne.symm hne); replace hcur := hcur.trans (hon.below hg7); clear B7; have B7 := B7n; clear B7n
              refine hK.out _ _ hcur (fun hHeld => ?_)
              clear hK K hHeld
              (try simp only [Act.put, List.setIfInBounds_toArray, List.set_cons_zero, List.set_cons_succ])
              refine wpAnyH_ready (rs := [7]) (by kernel_rfl) (by simp) ?_
              refine AllReadyH.cons (o := _) rfl (fun K hK => ?_) ?_
              · refine st_store rfl rfl B8 (news := [.slice A2 m.length c2, .bool n2]) (by rfl) infoNm (by simp) (by simp [Value.oneCell']) ?_; intro w6 hon B8n; simp only [List.take_zero, List.nil_append, List.length_cons, List.length_nil, List.drop_succ_cons, List.drop_zero, List.append_nil, List.cons_append] at B8n; replace B7 := B7.only hon hne; replace hcur := hcur.trans (hon.below hg8); clear B8; have B8 := B8n; clear B8n
                refine hK.out _ _ hcur (fun hHeld => ?_)
                clear hK K hHeld
                (try simp only [Act.put, List.setIfInBounds_toArray, List.set_cons_zero, List.set_cons_succ])
                refine wpAnyH_done (by kernel_rfl) ?_ _
                refine NoPanic.normal ?_
                obtain ⟨rfl⟩ := hQ7
                (go_wp2_with fail)
                go_meet
                exact ⟨g7, g8, rfl, rfl, ⟨hg7, hg8⟩, hcur, B7, B8⟩
              exact AllReadyH.nil
            exact AllReadyH.nil
          exact AllReadyH.nil
        refine AllReadyH.cons (o := _) rfl (fun K hK => ?_) ?_
        · refine st_alloc 7 rfl infoNm (cs := [.slice none 0 0, .bool false]) rfl ?_; intro g7 w6 hbn B7 hgn; have hne : g7 ≠ g8 := Nat.ne_of_gt (Nat.lt_of_lt_of_le B8.lt hgn); have hg7 := Nat.le_trans hcur.size hgn; replace B8 := B8.below hbn; replace hcur := bthen hcur hbn
          refine hK.out _ _ hcur (fun hHeld => ?_)
          clear hK K hHeld
          (try simp only [Act.put, List.setIfInBounds_toArray, List.set_cons_zero, List.set_cons_succ])
          refine wpAnyH_ready (rs := [3]) (by kernel_rfl) (by simp) ?_
          refine AllReadyH.cons (o := _) rfl (fun K hK => ?_) ?_
          · go_simp; refine (numOf_any n2 A2 m.length c2 _).mono ?_; rintro e w6 ⟨v6, rfl, rfl, hbn⟩; replace B8 := B8.below hbn; replace B7 := B7.below hbn; replace hcur := bthen hcur hbn; go_wp2_with fail
            refine hK.out _ _ hcur (fun hHeld => ?_)
            clear hK K hHeld
            (try simp only [Act.put, List.setIfInBounds_toArray, List.set_cons_zero, List.set_cons_succ])
            refine wpAnyH_ready (rs := [6]) (by kernel_rfl) (by simp) ?_
            refine AllReadyH.cons (o := _) rfl (fun K hK => ?_) ?_
            · refine st_store rfl rfl B7 (news := [.slice A l.length c, .bool n1]) (by rfl) infoNm (by simp) (by simp [Value.oneCell']) ?_; intro w6 hon B7n; simp only [List.take_zero, List.nil_append, List.length_cons, List.length_nil, List.drop_succ_cons, List.drop_zero, List.append_nil, List.cons_append] at B7n; replace B8 := B8.only hon (Ne.symm hne); replace hcur := hcur.trans (hon.below hg7); clear B7; have B7 := B7n; clear B7n
              refine hK.out _ _ hcur (fun hHeld => ?_)
              clear hK K hHeld
              (try simp only [Act.put, List.setIfInBounds_toArray, List.set_cons_zero, List.set_cons_succ])
              refine wpAnyH_ready (rs := [7]) (by kernel_rfl) (by simp) ?_
              refine AllReadyH.cons (o := _) rfl (fun K hK => ?_) ?_
              · refine st_store rfl rfl B8 (news := [.slice A2 m.length c2, .bool n2]) (by rfl) infoNm (by simp) (by simp [Value.oneCell']) ?_; intro w6 hon B8n; simp only [List.take_zero, List.nil_append, List.length_cons, List.length_nil, List.drop_succ_cons, List.drop_zero, List.append_nil, List.cons_append] at B8n; replace B7 := B7.only hon hne; replace hcur := hcur.trans (hon.below hg8); clear B8; have B8 := B8n; clear B8n
                refine hK.out _ _ hcur (fun hHeld => ?_)
                clear hK K hHeld
                (try simp only [Act.put, List.setIfInBounds_toArray, List.set_cons_zero, List.set_cons_succ])
                refine wpAnyH_done (by kernel_rfl) ?_ _
                refine NoPanic.normal ?_
                obtain ⟨rfl⟩ := hQ7
                (go_wp2_with fail)
                go_meet
                exact ⟨g7, g8, rfl, rfl, ⟨hg7, hg8⟩, hcur, B7, B8⟩
              exact AllReadyH.nil
            exact AllReadyH.nil
          exact AllReadyH.nil
        exact AllReadyH.nil
      refine AllReadyH.cons (o := _) rfl (fun K hK => ?_) ?_
      · refine st_alloc 7 rfl infoNm (cs := [.slice none 0 0, .bool false]) rfl ?_; intro g7 w6 hbn B7 hgn; have hne : g7 ≠ g8 := Nat.ne_of_gt (Nat.lt_of_lt_of_le B8.lt hgn); have hg7 := Nat.le_trans hcur.size hgn; replace B8 := B8.below hbn; replace hcur := bthen hcur hbn
        refine hK.out _ _ hcur (fun hHeld => ?_)
        clear hK K hHeld
        (try simp only [Act.put, List.setIfInBounds_toArray, List.set_cons_zero, List.set_cons_succ])
        refine wpAnyH_ready (rs := [1]) (by kernel_rfl) (by simp) ?_
        refine AllReadyH.cons (o := _) rfl (fun K hK => ?_) ?_
        · go_simp; refine (numOf_any n1 A l.length c _).mono ?_; rintro e w6 ⟨v6, rfl, rfl, hbn⟩; replace B8 := B8.below hbn; replace B7 := B7.below hbn; replace hcur := bthen hcur hbn; go_wp2_with fail
          refine hK.out _ _ hcur (fun hHeld => ?_)
          clear hK K hHeld
          (try simp only [Act.put, List.setIfInBounds_toArray, List.set_cons_zero, List.set_cons_succ])
          refine wpAnyH_ready (rs := [3]) (by kernel_rfl) (by simp) ?_
          refine AllReadyH.cons (o := _) rfl (fun K hK => ?_) ?_
          · go_simp; refine (numOf_any n2 A2 m.length c2 _).mono ?_; rintro e w6 ⟨v6, rfl, rfl, hbn⟩; replace B8 := B8.below hbn; replace B7 := B7.below hbn; replace hcur := bthen hcur hbn; go_wp2_with fail
            refine hK.out _ _ hcur (fun hHeld => ?_)
            clear hK K hHeld
            (try simp only [Act.put, List.setIfInBounds_toArray, List.set_cons_zero, List.set_cons_succ])
            refine wpAnyH_ready (rs := [6]) (by kernel_rfl) (by simp) ?_
            refine AllReadyH.cons (o := _) rfl (fun K hK => ?_) ?_
            · refine st_store rfl rfl B7 (news := [.slice A l.length c, .bool n1]) (by rfl) infoNm (by simp) (by simp [Value.oneCell']) ?_; intro w6 hon B7n; simp only [List.take_zero, List.nil_append, List.length_cons, List.length_nil, List.drop_succ_cons, List.drop_zero, List.append_nil, List.cons_append] at B7n; replace B8 := B8.only hon (Ne.symm hne); replace hcur := hcur.trans (hon.below hg7); clear B7; have B7 := B7n; clear B7n
              refine hK.out _ _ hcur (fun hHeld => ?_)
              clear hK K hHeld
              (try simp only [Act.put, List.setIfInBounds_toArray, List.set_cons_zero, List.set_cons_succ])
              refine wpAnyH_ready (rs := [7]) (by kernel_rfl) (by simp) ?_
              refine AllReadyH.cons (o := _) rfl (fun K hK => ?_) ?_
              · refine st_store rfl rfl B8 (news := [.slice A2 m.length c2, .bool n2]) (by rfl) infoNm (by simp) (by simp [Value.oneCell']) ?_; intro w6 hon B8n; simp only [List.take_zero, List.nil_append, List.length_cons, List.length_nil, List.drop_succ_cons, List.drop_zero, List.append_nil, List.cons_append] at B8n; replace B7 := B7.only hon hne; replace hcur := hcur.trans (hon.below hg8); clear B8; have B8 := B8n; clear B8n
                refine hK.out _ _ hcur (fun hHeld => ?_)
                clear hK K hHeld
                (try simp only [Act.put, List.setIfInBounds_toArray, List.set_cons_zero, List.set_cons_succ])
                refine wpAnyH_done (by kernel_rfl) ?_ _
                refine NoPanic.normal ?_
                obtain ⟨rfl⟩ := hQ7
                (go_wp2_with fail)
                go_meet
                exact ⟨g7, g8, rfl, rfl, ⟨hg7, hg8⟩, hcur, B7, B8⟩
              exact AllReadyH.nil
            exact AllReadyH.nil
          exact AllReadyH.nil
        exact AllReadyH.nil
      exact AllReadyH.nil
    exact AllReadyH.nil
  case rest =>
    obtain ⟨g7, g8, rfl, rfl, hge, hbx, B7, B8⟩ := hcut
    replace B4 := B4.below hbx
    replace B5 := B5.below hbx
    have C7 := B7.cells
    have C8 := B8.cells
    have hbw := bthen hb5 hbx
    go_wp2_with (first
      | (go_at_call 50; (with_reducible refine (HD.out _ hbw).mono ?_); rintro e w9 ⟨v9, rfl, rfl, hb9⟩; replace B4 := B4.below hb9; replace B5 := B5.below hb9; clear C7 C8; have hbw9 := bthen hbw hb9)
      | ((with_reducible refine g_store 4 ?_); go_must (refine ev_store rfl rfl B4 (news := [.bool false, .slice none 0 0]) (by first | rfl | (go_simp; try rfl)) infoNum (by simp) (by simp [Value.oneCell']) ?_); intro w10 ho10 B10; simp only [List.take_zero, List.nil_append, List.length_cons, List.length_nil, List.drop_succ_cons, List.drop_zero, List.append_nil, List.cons_append] at B10; replace B5 := B5.only ho10 hne54; have hb10 := hbw9.trans (ho10.below hg4))
      | ((with_reducible refine g_store 5 ?_); go_must (refine ev_store rfl rfl B5 (news := [.bool false, .slice none 0 0]) (by first | rfl | (go_simp; try rfl)) infoNum (by simp) (by simp [Value.oneCell']) ?_); intro w11 ho11 B11; simp only [List.take_zero, List.nil_append, List.length_cons, List.length_nil, List.drop_succ_cons, List.drop_zero, List.append_nil, List.cons_append] at B11; replace B10 := B10.only ho11 (Ne.symm hne54); have hb11 := hb10.trans (ho11.below hg5)))
    refine bodyPost_ret (results_cct rfl _ _ g4 g5 26 26 #[.bool false, .slice none 0 0] #[.bool false, .slice none 0 0] (0, 0) (0, 0) _ rfl rfl B10.h B11.h Tryd.underlying26 rfl (by kernel_rfl) (by kernel_rfl)) rfl ?_
    exact ⟨_, rfl, rfl, hb11⟩
set_option maxRecDepth 8000 in
set_option maxHeartbeats 4000000 in
theorem floor0_any (l m : List Nat) (n1 n2 : Bool) (A A2 : Option Addr) (c c2 : Nat) (w : World) (h : Lim w A c l) (h2 : Lim w A2 c2 m) (h0 : valB 4294967296 m = 0) :
    Calls Tryd.prog 23 #[.agg #[.bool n1, .slice A l.length c], .agg #[.bool n2, .slice A2 m.length c2]] w (Gives w fun v w' => v = .tuple #[.agg #[.bool false, .slice none 0 0], .agg #[.bool false, .slice none 0 0], .bool false]) := by
  have HTR := As.mk (fun w1 (hb : Below w.heap.size w w1) => truncate0_any l m n1 n2 A A2 c c2 w1 (h.below hb) (h2.below hb) h0)
  have Hsz : As ((Tryd.prog.info? 26).map (·.size) = some 2) := ⟨by kernel_rfl⟩
  go_enter Tryd.func23, Tryd.ntmps23
  go_wp2_with (first
    | ((with_reducible refine g_dst 2 ?_); go_must (refine ev_box 2 rfl (cs := [.bool n1, .slice A l.length c]) (by rfl) ?_); intro g2 w2 hb2 B2 hg2)
    | ((with_reducible refine g_dst 3 ?_); go_must (refine ev_box 3 rfl (cs := [.bool n2, .slice A2 m.length c2]) (by rfl) ?_); intro g3 w3 hb3 B3 hg3; replace B2 := B2.below hb3; replace hb3 := bthen hb2 hb3)
    | ((with_reducible refine g_dst 4 ?_); go_must (refine ev_alloc 4 rfl infoNum (cs := [.bool false, .slice none 0 0]) rfl ?_); intro g4 w4 hb4 B4 hg4; have hne34 : g3 ≠ g4 := Nat.ne_of_lt (Nat.lt_of_lt_of_le B3.lt hg4); replace B2 := B2.below hb4; replace B3 := B3.below hb4; replace hg4 := Nat.le_trans hb3.size hg4; replace hb4 := bthen hb3 hb4)
    | ((with_reducible refine g_dst 5 ?_); go_must (refine ev_alloc 5 rfl infoNum (cs := [.bool false, .slice none 0 0]) rfl ?_); intro g5 w5 hb5 B5 hg5; have hne54 : g5 ≠ g4 := Nat.ne_of_gt (Nat.lt_of_lt_of_le B4.lt hg5); have hne35 : g3 ≠ g5 := Nat.ne_of_lt (Nat.lt_of_lt_of_le B3.lt hg5); replace B2 := B2.below hb5; replace B3 := B3.below hb5; replace B4 := B4.below hb5; have C2 := B2.cells; have C3 := B3.cells; have l4w := B4.lt; have l5w := B5.lt; replace hg5 := Nat.le_trans hb4.size hg5; replace hb5 := bthen hb4 hb5)
    | (go_at_call 20; (with_reducible refine (HTR.out _ hb5).mono ?_); rintro e w6 ⟨v6, rfl, rfl, hb6⟩; replace B3 := B3.below hb6; replace B4 := B4.below hb6; replace B5 := B5.below hb6; clear C2 C3 B2; replace hb6 := bthen hb5 hb6)
    | ((with_reducible refine g_store 4 ?_); go_must (refine ev_store rfl rfl B4 (news := [.bool false, .slice none 0 0]) (by rfl) infoNum (by simp) (by simp [Value.oneCell']) ?_); intro w7 ho7 B47; simp only [List.take_zero, List.nil_append, List.length_cons, List.length_nil, List.drop_succ_cons, List.drop_zero, List.append_nil, List.cons_append] at B47; have B57 := B5.only ho7 hne54; replace B3 := B3.only ho7 hne34; have hb7 := hb6.trans (ho7.below hg4); clear B4 B5)
    | ((with_reducible refine g_store 5 ?_); go_must (refine ev_store rfl rfl B57 (news := [.bool false, .slice none 0 0]) (by rfl) infoNum (by simp) (by simp [Value.oneCell']) ?_); intro w8 ho8 B5; simp only [List.take_zero, List.nil_append, List.length_cons, List.length_nil, List.drop_succ_cons, List.drop_zero, List.append_nil, List.cons_append] at B5; have B4 := B47.only ho8 (Ne.symm hne54); replace B3 := B3.only ho8 hne35; have hb8 := hb7.trans (ho8.below hg5); have C5 := B5.cells; have hl4 := B4.lt; have hl5 := B5.lt; clear B47 B57)
    | (go_at_call 47; (with_reducible refine (numOf_any false none 0 0 _).mono ?_); rintro e w9 ⟨v9, rfl, rfl, hb9⟩; replace B3 := B3.below hb9; replace B4 := B4.below hb9; replace B5 := B5.below hb9; clear C5; replace hl4 := Nat.lt_of_lt_of_le hl4 hb9.size; replace hl5 := Nat.lt_of_lt_of_le hl5 hb9.size; replace hb9 := bthen hb8 hb9)
    | ((with_reducible refine g_dst 7 ?_); go_must (refine ev_alloc 7 rfl infoNm (cs := [.slice none 0 0, .bool false]) rfl ?_); intro g7 w10 hb10 B7 hg7)
    | ((with_reducible refine g_store 7 ?_); go_must (refine ev_store rfl rfl B7 (news := [.slice none 0 0, .bool false]) (by rfl) infoNm (by simp) (by simp [Value.oneCell']) ?_); intro w11 ho11 B711; simp only [List.take_zero, List.nil_append, List.length_cons, List.length_nil, List.drop_succ_cons, List.drop_zero, List.append_nil, List.cons_append] at B711; have hb911 := hb10.trans (ho11.below hg7); replace B3 := B3.below hb911; replace B4 := B4.below hb911; replace B5 := B5.below hb911; have C3 := B3.cells; have C7 := B711.cells; replace hl4 := Nat.lt_of_lt_of_le hl4 hb911.size; replace hl5 := Nat.lt_of_lt_of_le hl5 hb911.size; have hb11 := bthen hb9 hb911; clear B7 hb10 hg7 hb911))
  clear C3 C7
  have hS : ∀ W, Blk W g4 [.bool false, .slice none 0 0] 26 → Blk W g5 [.bool false, .slice none 0 0] 26 → W.cell? ⟨g4, 0, none⟩ = some (.bool false) ∧ W.cell? ⟨g4, 1, none⟩ = some (.slice none 0 0) ∧ W.cell? ⟨g5, 0, none⟩ = some (.bool false) ∧ W.cell? ⟨g5, 1, none⟩ = some (.slice none 0 0) := fun W b1 b2 => ⟨b1.cells 0, b1.cells 1, b2.cells 0, b2.cells 1⟩
  have hS0 := hS _ B4.drew B5.drew
  have HSk := As.mk (hS _ (set2_gen B4 (.bool false) (.slice none 0 0)).2.drew (B5.only (set2_gen B4 (.bool false) (.slice none 0 0)).1 hne54).drew)
  obtain ⟨hb12, B12, B13, ho12, hs12⟩ := set4_gen (B0 := w.heap.size) hb11 hg4 hg5 B4 B5 (Ne.symm hne54) (a := .bool false) (b := .slice none 0 0) (c := .bool false) (d := .slice none 0 0)
  have HSk2 := As.mk (hS _ B12.drew B13.drew)
  have C4 := B4.cells
  have F4 := B4.free
  have C5 := (B5.only (set2_gen B4 (.bool false) (.slice none 0 0)).1 hne54).cells
  have F5 := (B5.only (set2_gen B4 (.bool false) (.slice none 0 0)).1 hne54).free
  clear hS
  refine wp_gen (fun Q7 hQ7 => ?_)
  go_region_held3 (fun W => W.cell? ⟨g4, 0, none⟩ = some (.bool false) ∧ W.cell? ⟨g4, 1, none⟩ = some (.slice none 0 0) ∧ W.cell? ⟨g5, 0, none⟩ = some (.bool false) ∧ W.cell? ⟨g5, 1, none⟩ = some (.slice none 0 0)) (first | assumption | (with_reducible exact HSk.out) | (with_reducible exact HSk2.out)) (fail)
  obtain ⟨rfl⟩ := hQ7
  replace hb12 := hb12.drew
  replace B12 := B12.drew
  replace B13 := B13.drew
  replace ho12 : ∀ j, j ≠ g4 → j ≠ g5 → ((((w11.setCell ⟨g4, 0, none⟩ (.bool false)).setCell ⟨g4, 1, none⟩ (.slice none 0 0)).setCell ⟨g5, 0, none⟩ (.bool false)).setCell ⟨g5, 1, none⟩ (.slice none 0 0)).drew.heap[j]? = w11.heap[j]? := ho12
  clear hs12
  generalize ((((w11.setCell ⟨g4, 0, none⟩ (.bool false)).setCell ⟨g4, 1, none⟩ (.slice none 0 0)).setCell ⟨g5, 0, none⟩ (.bool false)).setCell ⟨g5, 1, none⟩ (.slice none 0 0)).drew = w13 at hb12 B12 B13 ho12 ⊢
  clear C4 F4 C5 F5 HSk HSk2 hS0
  go_wp2
  refine bodyPost_ret (results_cct rfl _ _ g4 g5 26 26 #[.bool false, .slice none 0 0] #[.bool false, .slice none 0 0] (0, 0) (0, 0) _ rfl rfl B12.h B13.h Tryd.underlying26 rfl Hsz.out Hsz.out) rfl ?_
  exact ⟨_, rfl, rfl, hb12⟩
end Go.Proofs.YtigoofeodbbbhaaDoor
/- num.Truncate and num.Floor, told of numbers that are held; by zero too. -/
namespace Go.Proofs.YtigoofeodbbbhaaDoor
open Go.RowKit Go.Proofs.YtigoofeodbbbhaaDoorL Go.Proofs.YtigoofeodbbbhaaDoorM
set_option linter.unusedVariables false
set_option linter.unusedSimpArgs false
/-- quotient, rest, and whether there is one -/
def TQ (y z q r : Int) (ok : Bool) : Prop := (z = 0 ∧ q = 0 ∧ r = 0 ∧ ok = false) ∨ (z ≠ 0 ∧ q = y.tdiv z ∧ r = y.tmod z ∧ ok = true)
def FQ (y z q r : Int) (ok : Bool) : Prop := (z = 0 ∧ q = 0 ∧ r = 0 ∧ ok = false) ∨ (z ≠ 0 ∧ q = floQ y z ∧ r = floR y z ∧ ok = true)
theorem tq_ex (y z : Int) : ∃ q r ok, TQ y z q r ok := by
  by_cases h : z = 0
  · exact ⟨0, 0, false, .inl ⟨h, rfl, rfl, rfl⟩⟩
  · exact ⟨_, _, true, .inr ⟨h, rfl, rfl, rfl⟩⟩
theorem fq_ex (y z : Int) : ∃ q r, FQ y z q r (decide (z ≠ 0)) := by
  by_cases h : z = 0
  · exact ⟨0, 0, .inl ⟨h, rfl, rfl, by simp [h]⟩⟩
  · exact ⟨_, _, .inr ⟨h, rfl, rfl, by simp [h]⟩⟩
theorem TQ.ok {y z q r : Int} {ok : Bool} (h : TQ y z q r ok) : ok = decide (z ≠ 0) := by
  rcases h with ⟨h, _, _, rfl⟩ | ⟨h, _, _, rfl⟩ <;> simp [h]
theorem NumRes.zero (w : World) (K : Nat) : NumRes w 0 K true (.agg #[.bool false, .slice none 0 0]) w :=
  ⟨false, none, 0, 0, rfl, ⟨⟨[], rfl, lim_nil w, rfl, fun _ => ⟨rfl, by rw [show (0 : Int).natAbs = 0 from rfl, digB_zero]⟩⟩, Nat.zero_le _⟩, fun k hk => (nomatch hk)⟩
theorem NumRes.zero' (w w' : World) (K : Nat) : NumRes w 0 K true (.agg #[.bool false, .slice none 0 0]) w' :=
  ⟨false, none, 0, 0, rfl, ⟨⟨[], rfl, lim_nil w', rfl, fun _ => ⟨rfl, by rw [show (0 : Int).natAbs = 0 from rfl, digB_zero]⟩⟩, Nat.zero_le _⟩, fun k hk => (nomatch hk)⟩
theorem Sm.tdiv {k : Nat} {y : Int} (h : Sm k y) (z : Int) : Sm k (y.tdiv z) := by
  unfold Sm at *
  rw [Int.natAbs_tdiv]
  exact Nat.lt_of_le_of_lt (Nat.div_le_self _ _) h
theorem Sm.tmod {k : Nat} {y : Int} (h : Sm k y) (z : Int) : Sm k (y.tmod z) := by
  unfold Sm at *
  rw [Int.natAbs_tmod]
  exact Nat.lt_of_le_of_lt (Nat.mod_le _ _) h
theorem Sm.flo {k n : Nat} {y z : Int} (h : Sm k y) (h2 : Sm n z) : Sm (k + n + 2) (floQ y z) ∧ Sm (k + n + 2) (floR y z) := by
  have h1 : Sm (k + n + 1) (-1) := by
    unfold Sm
    have : 4294967296 ^ 1 ≤ 4294967296 ^ (k + n + 1) := Nat.pow_le_pow_right (by omega) (by omega)
    generalize 4294967296 ^ (k + n + 1) = P at *
    simp only [Nat.pow_one] at this
    simp only [show (-1 : Int).natAbs = 1 from rfl]
    omega
  constructor
  · unfold floQ
    split
    · rw [Int.sub_eq_add_neg]
      exact ((h.tdiv z).mono (by omega)).add h1
    · exact (h.tdiv z).mono (by omega)
  · unfold floR
    split
    · exact ((h.tmod z).mono (by omega)).add (h2.mono (by omega))
    · exact (h.tmod z).mono (by omega)
section
variable {w : World} {L : List NR} {b b2 : Bool} {A A2 : Option Addr} {n c n2 c2 : Nat} {z z2 q r : Int} {K K2 : Nat} {can can2 ok : Bool}
theorem truncF (F : Fs w L) (h : (⟨b, A, n, c, z, K, can⟩ : NR) ∈ L) (h' : (⟨b2, A2, n2, c2, z2, K2, can2⟩ : NR) ∈ L) (hT : TQ z z2 q r ok) (hK : K ≤ 274877906942) :
    Calls Tryd.prog 20 #[.agg #[.bool b, .slice A n c], .agg #[.bool b2, .slice A2 n2 c2]] w (Gives w fun v w' => ∃ qv rv, v = .tuple #[qv, rv, .bool ok] ∧ NumRes w q K true qv w' ∧ NumRes w r K true rv w') := by
  have ho := F.out _ h
  have hs := ho.sm
  obtain ⟨⟨l, h1, h2, h3, h4⟩, h5⟩ := ho
  obtain ⟨⟨m, k1, k2, k3, k4⟩, k5⟩ := F.out _ h'
  simp only at h1 h2 h3 h4 h5 hs k1 k2 k3 k4 k5
  subst h1 k1
  rcases hT with ⟨h0, rfl, rfl, rfl⟩ | ⟨h0, rfl, rfl, rfl⟩
  · refine (truncate0_any l m b b2 A A2 c c2 w h2 k2 ((sval_zero b2 _).1 (k3.trans h0))).mono ?_
    rintro e w' ⟨v, rfl, rfl, hb⟩
    exact ⟨_, rfl, ⟨_, _, rfl, NumRes.zero' _ _ _, NumRes.zero' _ _ _⟩, hb⟩
  · have hp : 0 < valB 4294967296 m := by
      rcases Nat.eq_zero_or_pos (valB 4294967296 m) with e | e
      · exact absurd (k3.symm.trans ((sval_zero b2 _).2 e)) h0
      · exact e
    have := truncate_any l m b b2 A A2 c c2 w h2 k2 ⟨fun w1 hb => natDivAll_any l m A A2 c c2 w1 (h2.below hb) (k2.below hb) hp⟩
    rw [h3, k3] at this
    refine this.mono ?_
    rintro e w' ⟨v, rfl, ⟨qv, rv, rfl, tq, tr⟩, hb⟩
    exact ⟨_, rfl, ⟨_, _, rfl, NumRes.of tq (hs.tdiv _) (by omega), NumRes.of tr (hs.tmod _) (by omega)⟩, hb⟩
theorem floorF (F : Fs w L) (h : (⟨b, A, n, c, z, K, can⟩ : NR) ∈ L) (h' : (⟨b2, A2, n2, c2, z2, K2, can2⟩ : NR) ∈ L) (hT : FQ z z2 q r ok) (hK : K + K2 ≤ 274877906940) :
    Calls Tryd.prog 23 #[.agg #[.bool b, .slice A n c], .agg #[.bool b2, .slice A2 n2 c2]] w (Gives w fun v w' => ∃ qv rv, v = .tuple #[qv, rv, .bool ok] ∧ NumRes w q (K + K2 + 2) true qv w' ∧ NumRes w r (K + K2 + 2) true rv w') := by
  have ho := F.out _ h
  have hs := ho.sm
  have ho2 := F.out _ h'
  have hs2 := ho2.sm
  obtain ⟨⟨l, h1, h2, h3, h4⟩, h5⟩ := ho
  obtain ⟨⟨m, k1, k2, k3, k4⟩, k5⟩ := ho2
  simp only at h1 h2 h3 h4 h5 hs k1 k2 k3 k4 k5 hs2
  subst h1 k1
  rcases hT with ⟨h0, rfl, rfl, rfl⟩ | ⟨h0, rfl, rfl, rfl⟩
  · refine (floor0_any l m b b2 A A2 c c2 w h2 k2 ((sval_zero b2 _).1 (k3.trans h0))).mono ?_
    rintro e w' ⟨v, rfl, rfl, hb⟩
    exact ⟨_, rfl, ⟨_, _, rfl, NumRes.zero' _ _ _, NumRes.zero' _ _ _⟩, hb⟩
  · have hp : 0 < valB 4294967296 m := by
      rcases Nat.eq_zero_or_pos (valB 4294967296 m) with e | e
      · exact absurd (k3.symm.trans ((sval_zero b2 _).2 e)) h0
      · exact e
    have := floor_any l m b b2 A A2 c c2 w h2 k2 (by omega) (by omega) hp (fun w1 hb => natDivAll_any l m A A2 c c2 w1 (h2.below hb) (k2.below hb) hp)
    rw [h3, k3] at this
    refine this.mono ?_
    rintro e w' ⟨v, rfl, ⟨qv, rv, rfl, tq, tr⟩, hb⟩
    obtain ⟨s1, s2⟩ := hs.flo hs2
    exact ⟨_, rfl, ⟨_, _, rfl, NumRes.of tq s1 (by omega), NumRes.of tr s2 (by omega)⟩, hb⟩
end
end Go.Proofs.YtigoofeodbbbhaaDoor
