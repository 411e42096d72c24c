/- num.Truncate. -/
import Derived.Test.YtigoofeodbbbhaaDoorNum6
import Derived.Test.YtigoofeodbbbhaaDoorNat8
import Derived.Test.YtigoofeodbbbhaaDoorLib5
import Derived.Deep.DeepCutAuto
namespace Go.Proofs.YtigoofeodbbbhaaDoor
open Go.RowKit Go.Proofs.YtigoofeodbbbhaaDoorL Go.Proofs.YtigoofeodbbbhaaDoorM
set_option linter.unusedVariables false
set_option linter.unusedSimpArgs false
theorem trunc_sval (n1 n2 : Bool) (V U : Nat) : sval (n1 != n2) (V / U) = (sval n1 V).tdiv (sval n2 U) ∧ sval n1 (V % U) = (sval n1 V).tmod (sval n2 U) := by
  have e1 : ((V : Int).tdiv (U : Int)) = ((V / U : Nat) : Int) := by rw [Int.tdiv_eq_ediv_of_nonneg (by omega)]; rfl
  have e2 : ((V : Int).tmod (U : Int)) = ((V % U : Nat) : Int) := by rw [Int.tmod_eq_emod_of_nonneg (by omega)]; rfl
  cases n1 <;> cases n2 <;> simp [sval, Int.neg_tdiv, Int.tdiv_neg, Int.neg_tmod, Int.tmod_neg, e1, e2]
theorem sk4 {S : World → Prop} {w : World} {g k p q : Nat} {cs ds : List Value} {t t2 : TypeId} {a' b' c' d' : Value} {tt : TypeId} (hS : ∀ W, Blk W g cs t → Blk W k ds t2 → S W) (B : Blk w g cs t) (C : Blk w k ds t2) (D : Blk w p [a', b'] tt) (E : Blk w q [c', d'] tt)
    (h1 : g ≠ p) (h2 : k ≠ p) (h3 : g ≠ q) (h4 : k ≠ q) (h5 : q ≠ p) (a b c d : Value) : S ((((w.setCell ⟨p, 0, none⟩ a).setCell ⟨p, 1, none⟩ b).setCell ⟨q, 0, none⟩ c).setCell ⟨q, 1, none⟩ d) := by
  have s1 := (set2_gen D a b).1
  have E1 := E.only s1 h5
  have s2 := (set2_gen E1 c d).1
  exact hS _ ((B.only s1 h1).only s2 h3) ((C.only s1 h2).only s2 h4)
set_option maxRecDepth 8000 in
set_option maxHeartbeats 4000000 in
theorem truncate_any (l m : List Nat) (n1 n2 : Bool) (A A2 : Option Addr) (c c2 : Nat) (w : World) (h : Lim w A c l) (h2 : Lim w A2 c2 m)
    (HD : As (∀ w1, Below w.heap.size w w1 → Calls Tryd.prog 50 #[.slice A l.length c, .slice A2 m.length c2] w1 (Gives w1 fun v w' => DivTo w1.heap.size w' v (valB 4294967296 l) (valB 4294967296 m)))) :
    Calls Tryd.prog 20 #[.agg #[.bool n1, .slice A l.length c], .agg #[.bool n2, .slice A2 m.length c2]] w (Gives w fun v w' => ∃ q r, v = .tuple #[q, r, .bool true] ∧ Told w.heap.size w' q ((sval n1 (valB 4294967296 l)).tdiv (sval n2 (valB 4294967296 m))) ∧ Told w.heap.size w' r ((sval n1 (valB 4294967296 l)).tmod (sval n2 (valB 4294967296 m)))) := by
  obtain ⟨t1, t2⟩ := trunc_sval n1 n2 (valB 4294967296 l) (valB 4294967296 m)
  rw [← t1, ← t2]
  clear t1 t2
  obtain ⟨V, hV⟩ : ∃ V, V = valB 4294967296 l := ⟨_, rfl⟩
  obtain ⟨U, hU⟩ : ∃ U, U = valB 4294967296 m := ⟨_, rfl⟩
  have hql : (digB 4294967296 (V / U)).length ≤ 274877906944 := Nat.le_trans (digB_mono8 _ (by omega) (Nat.div_le_self V U)) (by rw [hV]; exact Nat.le_trans (digB_len_le _ (by omega) l h.lt) h.max)
  have hrl : (digB 4294967296 (V % U)).length ≤ 274877906944 := Nat.le_trans (digB_mono8 _ (by omega) (Nat.mod_le V U)) (by rw [hV]; exact Nat.le_trans (digB_len_le _ (by omega) l h.lt) h.max)
  rw [← hV, ← hU] at HD ⊢
  obtain ⟨nx, hnx⟩ : ∃ nx, nx = (n1 != n2) := ⟨_, rfl⟩
  rw [← hnx]
  have e1 : (n1 != n2) = nx := hnx.symm
  have e2 : (!(n1 == n2)) = nx := by rw [hnx]; rfl
  have e3 : (!decide (n1 = n2)) = nx := by rw [hnx]; cases n1 <;> cases n2 <;> rfl
  clear hV hU hnx
  go_enter Tryd.func20, Tryd.ntmps20
  go_wp2_with (first
    | ((with_reducible refine g_dst 2 ?_); go_must (refine ev_box 2 rfl (cs := [.bool n1, .slice A l.length c]) (by rfl) ?_); intro g2 w2 hb2 B2 hg2)
    | ((with_reducible refine g_dst 3 ?_); go_must (refine ev_box 3 rfl (cs := [.bool n2, .slice A2 m.length c2]) (by rfl) ?_); intro g3 w3 hb3 B3 hg3; replace B2 := B2.below hb3; replace hb3 := bthen hb2 hb3)
    | ((with_reducible refine g_dst 4 ?_); go_must (refine ev_alloc 4 rfl infoNum (cs := [.bool false, .slice none 0 0]) rfl ?_); intro g4 w4 hb4 B4 hg4; replace B2 := B2.below hb4; replace B3 := B3.below hb4; replace hg4 := Nat.le_trans hb3.size hg4; replace hb4 := bthen hb3 hb4)
    | ((with_reducible refine g_dst 5 ?_); go_must (refine ev_alloc 5 rfl infoNum (cs := [.bool false, .slice none 0 0]) rfl ?_); intro g5 w5 hb5 B5 hg5; have hne54 : g5 ≠ g4 := Nat.ne_of_gt (Nat.lt_of_lt_of_le B4.lt hg5); replace B2 := B2.below hb5; replace B3 := B3.below hb5; replace B4 := B4.below hb5; replace hg5 := Nat.le_trans hb4.size hg5; replace hb5 := bthen hb4 hb5; have h45lt := And.intro B4.lt B5.lt))
  go_cut [7, 8] (fun s7 s8 wx => ∃ g7 g8 : Nat, s7 = .pointer (some ⟨g7, 0, none⟩) ∧ s8 = .pointer (some ⟨g8, 0, none⟩) ∧ As (w5.heap.size ≤ g7 ∧ w5.heap.size ≤ g8) ∧ Below w5.heap.size w5 wx ∧ Blk wx g7 [.slice A l.length c, .bool n1] 52 ∧ Blk wx g8 [.slice A2 m.length c2, .bool n2] 52)
  case first =>
    have hcur := (Below.refl w5.heap.size w5).drew
    refine wp_gen2 (fun Q7 hQ7 => ?_)
    refine wp_region_held_drew (S := fun W => Below w5.heap.size w5 W) (by kernel_rfl) hcur (fun hHeld => ?_)
    clear hHeld
    refine wpAnyH_take (i := 0) (oi := _) (v := .agg #[.bool n1, .slice A l.length c]) rfl (by kernel_rfl) (by kernel_rfl) (by kernel_rfl) (fun _ _ _ h => h) (Or.inl ⟨by rfl, ?_⟩) hcur ?_
    · intro W hSw
      have C2 := (B2.below hSw).cells
      have C3 := (B3.below hSw).cells
      go_simp
    (try simp only [Act.put, List.setIfInBounds_toArray, List.set_cons_zero, List.set_cons_succ])
    refine wpAnyH_take (i := 2) (oi := _) (v := .agg #[.bool n2, .slice A2 m.length c2]) rfl (by kernel_rfl) (by kernel_rfl) (by kernel_rfl) (fun _ _ _ h => h) (Or.inl ⟨by rfl, ?_⟩) hcur ?_
    · intro W hSw
      have C2 := (B2.below hSw).cells
      have C3 := (B3.below hSw).cells
      go_simp
    (try simp only [Act.put, List.setIfInBounds_toArray, List.set_cons_zero, List.set_cons_succ])
    refine wpAnyH_ready (rs := [1, 4, 5]) (by kernel_rfl) (by simp) ?_
    refine AllReadyH.cons (o := _) rfl (fun K hK => ?_) ?_
    · go_simp; refine (numOf_any n1 A l.length c _).mono ?_; rintro e w6 ⟨v6, rfl, rfl, hbn⟩; replace hcur := bthen hcur hbn; go_wp2_with fail
      refine hK.out _ _ hcur (fun hHeld => ?_)
      clear hK K hHeld
      (try simp only [Act.put, List.setIfInBounds_toArray, List.set_cons_zero, List.set_cons_succ])
      refine wpAnyH_ready (rs := [3, 4, 5]) (by kernel_rfl) (by simp) ?_
      refine AllReadyH.cons (o := _) rfl (fun K hK => ?_) ?_
      · go_simp; refine (numOf_any n2 A2 m.length c2 _).mono ?_; rintro e w6 ⟨v6, rfl, rfl, hbn⟩; replace hcur := bthen hcur hbn; go_wp2_with fail
        refine hK.out _ _ hcur (fun hHeld => ?_)
        clear hK K hHeld
        (try simp only [Act.put, List.setIfInBounds_toArray, List.set_cons_zero, List.set_cons_succ])
        refine wpAnyH_ready (rs := [4, 5]) (by kernel_rfl) (by simp) ?_
        refine AllReadyH.cons (o := _) rfl (fun K hK => ?_) ?_
        · refine st_alloc 7 rfl infoNm (cs := [.slice none 0 0, .bool false]) rfl ?_; intro g7 w6 hbn B7 hgn; have hg7 := Nat.le_trans hcur.size hgn; replace hcur := bthen hcur hbn
          refine hK.out _ _ hcur (fun hHeld => ?_)
          clear hK K hHeld
          (try simp only [Act.put, List.setIfInBounds_toArray, List.set_cons_zero, List.set_cons_succ])
          refine wpAnyH_ready (rs := [5]) (by kernel_rfl) (by simp) ?_
          refine AllReadyH.cons (o := _) rfl (fun K hK => ?_) ?_
          · refine st_alloc 8 rfl infoNm (cs := [.slice none 0 0, .bool false]) rfl ?_; intro g8 w6 hbn B8 hgn; have hne : g7 ≠ g8 := Nat.ne_of_lt (Nat.lt_of_lt_of_le B7.lt hgn); have hg8 := Nat.le_trans hcur.size hgn; replace B7 := B7.below hbn; replace hcur := bthen hcur hbn
            refine hK.out _ _ hcur (fun hHeld => ?_)
            clear hK K hHeld
            (try simp only [Act.put, List.setIfInBounds_toArray, List.set_cons_zero, List.set_cons_succ])
            refine wpAnyH_ready (rs := [6]) (by kernel_rfl) (by simp) ?_
            refine AllReadyH.cons (o := _) rfl (fun K hK => ?_) ?_
            · refine st_store rfl rfl B7 (news := [.slice A l.length c, .bool n1]) (by rfl) infoNm (by simp) (by simp [Value.oneCell']) ?_; intro w6 hon B7n; simp only [List.take_zero, List.nil_append, List.length_cons, List.length_nil, List.drop_succ_cons, List.drop_zero, List.append_nil, List.cons_append] at B7n; replace B8 := B8.only hon (Ne.symm hne); replace hcur := hcur.trans (hon.below hg7); clear B7; have B7 := B7n; clear B7n
              refine hK.out _ _ hcur (fun hHeld => ?_)
              clear hK K hHeld
              (try simp only [Act.put, List.setIfInBounds_toArray, List.set_cons_zero, List.set_cons_succ])
              refine wpAnyH_ready (rs := [7]) (by kernel_rfl) (by simp) ?_
              refine AllReadyH.cons (o := _) rfl (fun K hK => ?_) ?_
              · refine st_store rfl rfl B8 (news := [.slice A2 m.length c2, .bool n2]) (by rfl) infoNm (by simp) (by simp [Value.oneCell']) ?_; intro w6 hon B8n; simp only [List.take_zero, List.nil_append, List.length_cons, List.length_nil, List.drop_succ_cons, List.drop_zero, List.append_nil, List.cons_append] at B8n; replace B7 := B7.only hon hne; replace hcur := hcur.trans (hon.below hg8); clear B8; have B8 := B8n; clear B8n
                refine hK.out _ _ hcur (fun hHeld => ?_)
                clear hK K hHeld
                (try simp only [Act.put, List.setIfInBounds_toArray, List.set_cons_zero, List.set_cons_succ])
                refine wpAnyH_done (by kernel_rfl) ?_ _
                refine NoPanic.normal ?_
                obtain ⟨rfl⟩ := hQ7
                (go_wp2_with fail)
                go_meet
                exact ⟨g7, g8, rfl, rfl, ⟨hg7, hg8⟩, hcur, B7, B8⟩
              exact AllReadyH.nil
            exact AllReadyH.nil
          exact AllReadyH.nil
        refine AllReadyH.cons (o := _) rfl (fun K hK => ?_) ?_
        · refine st_alloc 8 rfl infoNm (cs := [.slice none 0 0, .bool false]) rfl ?_; intro g8 w6 hbn B8 hgn; have hg8 := Nat.le_trans hcur.size hgn; replace hcur := bthen hcur hbn
          refine hK.out _ _ hcur (fun hHeld => ?_)
          clear hK K hHeld
          (try simp only [Act.put, List.setIfInBounds_toArray, List.set_cons_zero, List.set_cons_succ])
          refine wpAnyH_ready (rs := [4]) (by kernel_rfl) (by simp) ?_
          refine AllReadyH.cons (o := _) rfl (fun K hK => ?_) ?_
          · refine st_alloc 7 rfl infoNm (cs := [.slice none 0 0, .bool false]) rfl ?_; intro g7 w6 hbn B7 hgn; have hne : g7 ≠ g8 := Nat.ne_of_gt (Nat.lt_of_lt_of_le B8.lt hgn); have hg7 := Nat.le_trans hcur.size hgn; replace B8 := B8.below hbn; replace hcur := bthen hcur hbn
            refine hK.out _ _ hcur (fun hHeld => ?_)
            clear hK K hHeld
            (try simp only [Act.put, List.setIfInBounds_toArray, List.set_cons_zero, List.set_cons_succ])
            refine wpAnyH_ready (rs := [6]) (by kernel_rfl) (by simp) ?_
            refine AllReadyH.cons (o := _) rfl (fun K hK => ?_) ?_
            · refine st_store rfl rfl B7 (news := [.slice A l.length c, .bool n1]) (by rfl) infoNm (by simp) (by simp [Value.oneCell']) ?_; intro w6 hon B7n; simp only [List.take_zero, List.nil_append, List.length_cons, List.length_nil, List.drop_succ_cons, List.drop_zero, List.append_nil, List.cons_append] at B7n; replace B8 := B8.only hon (Ne.symm hne); replace hcur := hcur.trans (hon.below hg7); clear B7; have B7 := B7n; clear B7n
              refine hK.out _ _ hcur (fun hHeld => ?_)
              clear hK K hHeld
              (try simp only [Act.put, List.setIfInBounds_toArray, List.set_cons_zero, List.set_cons_succ])
              refine wpAnyH_ready (rs := [7]) (by kernel_rfl) (by simp) ?_
              refine AllReadyH.cons (o := _) rfl (fun K hK => ?_) ?_
              · refine st_store rfl rfl B8 (news := [.slice A2 m.length c2, .bool n2]) (by rfl) infoNm (by simp) (by simp [Value.oneCell']) ?_; intro w6 hon B8n; simp only [List.take_zero, List.nil_append, List.length_cons, List.length_nil, List.drop_succ_cons, List.drop_zero, List.append_nil, List.cons_append] at B8n; replace B7 := B7.only hon hne; replace hcur := hcur.trans (hon.below hg8); clear B8; have B8 := B8n; clear B8n
                refine hK.out _ _ hcur (fun hHeld => ?_)
                clear hK K hHeld
                (try simp only [Act.put, List.setIfInBounds_toArray, List.set_cons_zero, List.set_cons_succ])
                refine wpAnyH_done (by kernel_rfl) ?_ _
                refine NoPanic.normal ?_
                obtain ⟨rfl⟩ := hQ7
                (go_wp2_with fail)
                go_meet
                exact ⟨g7, g8, rfl, rfl, ⟨hg7, hg8⟩, hcur, B7, B8⟩
              exact AllReadyH.nil
            exact AllReadyH.nil
          exact AllReadyH.nil
        exact AllReadyH.nil
      refine AllReadyH.cons (o := _) rfl (fun K hK => ?_) ?_
      · refine st_alloc 7 rfl infoNm (cs := [.slice none 0 0, .bool false]) rfl ?_; intro g7 w6 hbn B7 hgn; have hg7 := Nat.le_trans hcur.size hgn; replace hcur := bthen hcur hbn
        refine hK.out _ _ hcur (fun hHeld => ?_)
        clear hK K hHeld
        (try simp only [Act.put, List.setIfInBounds_toArray, List.set_cons_zero, List.set_cons_succ])
        refine wpAnyH_ready (rs := [3, 5]) (by kernel_rfl) (by simp) ?_
        refine AllReadyH.cons (o := _) rfl (fun K hK => ?_) ?_
        · go_simp; refine (numOf_any n2 A2 m.length c2 _).mono ?_; rintro e w6 ⟨v6, rfl, rfl, hbn⟩; replace B7 := B7.below hbn; replace hcur := bthen hcur hbn; go_wp2_with fail
          refine hK.out _ _ hcur (fun hHeld => ?_)
          clear hK K hHeld
          (try simp only [Act.put, List.setIfInBounds_toArray, List.set_cons_zero, List.set_cons_succ])
          refine wpAnyH_ready (rs := [5]) (by kernel_rfl) (by simp) ?_
          refine AllReadyH.cons (o := _) rfl (fun K hK => ?_) ?_
          · refine st_alloc 8 rfl infoNm (cs := [.slice none 0 0, .bool false]) rfl ?_; intro g8 w6 hbn B8 hgn; have hne : g7 ≠ g8 := Nat.ne_of_lt (Nat.lt_of_lt_of_le B7.lt hgn); have hg8 := Nat.le_trans hcur.size hgn; replace B7 := B7.below hbn; replace hcur := bthen hcur hbn
            refine hK.out _ _ hcur (fun hHeld => ?_)
            clear hK K hHeld
            (try simp only [Act.put, List.setIfInBounds_toArray, List.set_cons_zero, List.set_cons_succ])
            refine wpAnyH_ready (rs := [6]) (by kernel_rfl) (by simp) ?_
            refine AllReadyH.cons (o := _) rfl (fun K hK => ?_) ?_
            · refine st_store rfl rfl B7 (news := [.slice A l.length c, .bool n1]) (by rfl) infoNm (by simp) (by simp [Value.oneCell']) ?_; intro w6 hon B7n; simp only [List.take_zero, List.nil_append, List.length_cons, List.length_nil, List.drop_succ_cons, List.drop_zero, List.append_nil, List.cons_append] at B7n; replace B8 := B8.only hon (Ne.symm hne); replace hcur := hcur.trans (hon.below hg7); clear B7; have B7 := B7n; clear B7n
              refine hK.out _ _ hcur (fun hHeld => ?_)
              clear hK K hHeld
              (try simp only [Act.put, List.setIfInBounds_toArray, List.set_cons_zero, List.set_cons_succ])
              refine wpAnyH_ready (rs := [7]) (by kernel_rfl) (by simp) ?_
              refine AllReadyH.cons (o := _) rfl (fun K hK => ?_) ?_
              · refine st_store rfl rfl B8 (news := [.slice A2 m.length c2, .bool n2]) (by rfl) infoNm (by simp) (by simp [Value.oneCell']) ?_; intro w6 hon B8n; simp only [List.take_zero, List.nil_append, List.length_cons, List.length_nil, List.drop_succ_cons, List.drop_zero, List.append_nil, List.cons_append] at B8n; replace B7 := B7.only hon hne; replace hcur := hcur.trans (hon.below hg8); clear B8; have B8 := B8n; clear B8n
                refine hK.out _ _ hcur (fun hHeld => ?_)
                clear hK K hHeld
                (try simp only [Act.put, List.setIfInBounds_toArray, List.set_cons_zero, List.set_cons_succ])
                refine wpAnyH_done (by kernel_rfl) ?_ _
                refine NoPanic.normal ?_
                obtain ⟨rfl⟩ := hQ7
                (go_wp2_with fail)
                go_meet
                exact ⟨g7, g8, rfl, rfl, ⟨hg7, hg8⟩, hcur, B7, B8⟩
              exact AllReadyH.nil
            exact AllReadyH.nil
          exact AllReadyH.nil
        refine AllReadyH.cons (o := _) rfl (fun K hK => ?_) ?_
        · refine st_alloc 8 rfl infoNm (cs := [.slice none 0 0, .bool false]) rfl ?_; intro g8 w6 hbn B8 hgn; have hne : g7 ≠ g8 := Nat.ne_of_lt (Nat.lt_of_lt_of_le B7.lt hgn); have hg8 := Nat.le_trans hcur.size hgn; replace B7 := B7.below hbn; replace hcur := bthen hcur hbn
          refine hK.out _ _ hcur (fun hHeld => ?_)
          clear hK K hHeld
          (try simp only [Act.put, List.setIfInBounds_toArray, List.set_cons_zero, List.set_cons_succ])
          refine wpAnyH_ready (rs := [3]) (by kernel_rfl) (by simp) ?_
          refine AllReadyH.cons (o := _) rfl (fun K hK => ?_) ?_
          · go_simp; refine (numOf_any n2 A2 m.length c2 _).mono ?_; rintro e w6 ⟨v6, rfl, rfl, hbn⟩; replace B7 := B7.below hbn; replace B8 := B8.below hbn; replace hcur := bthen hcur hbn; go_wp2_with fail
            refine hK.out _ _ hcur (fun hHeld => ?_)
            clear hK K hHeld
            (try simp only [Act.put, List.setIfInBounds_toArray, List.set_cons_zero, List.set_cons_succ])
            refine wpAnyH_ready (rs := [6]) (by kernel_rfl) (by simp) ?_
            refine AllReadyH.cons (o := _) rfl (fun K hK => ?_) ?_
            · refine st_store rfl rfl B7 (news := [.slice A l.length c, .bool n1]) (by rfl) infoNm (by simp) (by simp [Value.oneCell']) ?_; intro w6 hon B7n; simp only [List.take_zero, List.nil_append, List.length_cons, List.length_nil, List.drop_succ_cons, List.drop_zero, List.append_nil, List.cons_append] at B7n; replace B8 := B8.only hon (Ne.symm hne); replace hcur := hcur.trans (hon.below hg7); clear B7; have B7 := B7n; clear B7n
              refine hK.out _ _ hcur (fun hHeld => ?_)
              clear hK K hHeld
              (try simp only [Act.put, List.setIfInBounds_toArray, List.set_cons_zero, List.set_cons_succ])
              refine wpAnyH_ready (rs := [7]) (by kernel_rfl) (by simp) ?_
              refine AllReadyH.cons (o := _) rfl (fun K hK => ?_) ?_
              · refine st_store rfl rfl B8 (news := [.slice A2 m.length c2, .bool n2]) (by rfl) infoNm (by simp) (by simp [Value.oneCell']) ?_; intro w6 hon B8n; simp only [List.take_zero, List.nil_append, List.length_cons, List.length_nil, List.drop_succ_cons, List.drop_zero, List.append_nil, List.cons_append] at B8n; replace B7 := B7.only hon hne; replace hcur := hcur.trans (hon.below hg8); clear B8; have B8 := B8n; clear B8n
                refine hK.out _ _ hcur (fun hHeld => ?_)
                clear hK K hHeld
                (try simp only [Act.put, List.setIfInBounds_toArray, List.set_cons_zero, List.set_cons_succ])
                refine wpAnyH_done (by kernel_rfl) ?_ _
                refine NoPanic.normal ?_
                obtain ⟨rfl⟩ := hQ7
                (go_wp2_with fail)
                go_meet
                exact ⟨g7, g8, rfl, rfl, ⟨hg7, hg8⟩, hcur, B7, B8⟩
              exact AllReadyH.nil
            exact AllReadyH.nil
          exact AllReadyH.nil
        exact AllReadyH.nil
      refine AllReadyH.cons (o := _) rfl (fun K hK => ?_) ?_
      · refine st_alloc 8 rfl infoNm (cs := [.slice none 0 0, .bool false]) rfl ?_; intro g8 w6 hbn B8 hgn; have hg8 := Nat.le_trans hcur.size hgn; replace hcur := bthen hcur hbn
        refine hK.out _ _ hcur (fun hHeld => ?_)
        clear hK K hHeld
        (try simp only [Act.put, List.setIfInBounds_toArray, List.set_cons_zero, List.set_cons_succ])
        refine wpAnyH_ready (rs := [3, 4]) (by kernel_rfl) (by simp) ?_
        refine AllReadyH.cons (o := _) rfl (fun K hK => ?_) ?_
        · go_simp; refine (numOf_any n2 A2 m.length c2 _).mono ?_; rintro e w6 ⟨v6, rfl, rfl, hbn⟩; replace B8 := B8.below hbn; replace hcur := bthen hcur hbn; go_wp2_with fail
          refine hK.out _ _ hcur (fun hHeld => ?_)
          clear hK K hHeld
          (try simp only [Act.put, List.setIfInBounds_toArray, List.set_cons_zero, List.set_cons_succ])
          refine wpAnyH_ready (rs := [4]) (by kernel_rfl) (by simp) ?_
          refine AllReadyH.cons (o := _) rfl (fun K hK => ?_) ?_
          · refine st_alloc 7 rfl infoNm (cs := [.slice none 0 0, .bool false]) rfl ?_; intro g7 w6 hbn B7 hgn; have hne : g7 ≠ g8 := Nat.ne_of_gt (Nat.lt_of_lt_of_le B8.lt hgn); have hg7 := Nat.le_trans hcur.size hgn; replace B8 := B8.below hbn; replace hcur := bthen hcur hbn
            refine hK.out _ _ hcur (fun hHeld => ?_)
            clear hK K hHeld
            (try simp only [Act.put, List.setIfInBounds_toArray, List.set_cons_zero, List.set_cons_succ])
            refine wpAnyH_ready (rs := [6]) (by kernel_rfl) (by simp) ?_
            refine AllReadyH.cons (o := _) rfl (fun K hK => ?_) ?_
            · refine st_store rfl rfl B7 (news := [.slice A l.length c, .bool n1]) (by rfl) infoNm (by simp) (by simp [Value.oneCell']) ?_; intro w6 hon B7n; simp only [List.take_zero, List.nil_append, List.length_cons, List.length_nil, List.drop_succ_cons, List.drop_zero, List.append_nil, List.cons_append] at B7n; replace B8 := B8.only hon (Ne.symm hne); replace hcur := hcur.trans (hon.below hg7); clear B7; have B7 := B7n; clear B7n
              refine hK.out _ _ hcur (fun hHeld => ?_)
              clear hK K hHeld
              (try simp only [Act.put, List.setIfInBounds_toArray, List.set_cons_zero, List.set_cons_succ])
              refine wpAnyH_ready (rs := [7]) (by kernel_rfl) (by simp) ?_
              refine AllReadyH.cons (o := _) rfl (fun K hK => ?_) ?_
              · refine st_store rfl rfl B8 (news := [.slice A2 m.length c2, .bool n2]) (by rfl) infoNm (by simp) (by simp [Value.oneCell']) ?_; intro w6 hon B8n; simp only [List.take_zero, List.nil_append, List.length_cons, List.length_nil, List.drop_succ_cons, List.drop_zero, List.append_nil, List.cons_append] at B8n; replace B7 := B7.only hon hne; replace hcur := hcur.trans (hon.below hg8); clear B8; have B8 := B8n; clear B8n
                refine hK.out _ _ hcur (fun hHeld => ?_)
                clear hK K hHeld
                (try simp only [Act.put, List.setIfInBounds_toArray, List.set_cons_zero, List.set_cons_succ])
                refine wpAnyH_done (by kernel_rfl) ?_ _
                refine NoPanic.normal ?_
                obtain ⟨rfl⟩ := hQ7
                (go_wp2_with fail)
                go_meet
                exact ⟨g7, g8, rfl, rfl, ⟨hg7, hg8⟩, hcur, B7, B8⟩
              exact AllReadyH.nil
            exact AllReadyH.nil
          exact AllReadyH.nil
        refine AllReadyH.cons (o := _) rfl (fun K hK => ?_) ?_
        · refine st_alloc 7 rfl infoNm (cs := [.slice none 0 0, .bool false]) rfl ?_; intro g7 w6 hbn B7 hgn; have hne : g7 ≠ g8 := Nat.ne_of_gt (Nat.lt_of_lt_of_le B8.lt hgn); have hg7 := Nat.le_trans hcur.size hgn; replace B8 := B8.below hbn; replace hcur := bthen hcur hbn
          refine hK.out _ _ hcur (fun hHeld => ?_)
          clear hK K hHeld
          (try simp only [Act.put, List.setIfInBounds_toArray, List.set_cons_zero, List.set_cons_succ])
          refine wpAnyH_ready (rs := [3]) (by kernel_rfl) (by simp) ?_
          refine AllReadyH.cons (o := _) rfl (fun K hK => ?_) ?_
          · go_simp; refine (numOf_any n2 A2 m.length c2 _).mono ?_; rintro e w6 ⟨v6, rfl, rfl, hbn⟩; replace B8 := B8.below hbn; replace B7 := B7.below hbn; replace hcur := bthen hcur hbn; go_wp2_with fail
            refine hK.out _ _ hcur (fun hHeld => ?_)
            clear hK K hHeld
            (try simp only [Act.put, List.setIfInBounds_toArray, List.set_cons_zero, List.set_cons_succ])
            refine wpAnyH_ready (rs := [6]) (by kernel_rfl) (by simp) ?_
            refine AllReadyH.cons (o := _) rfl (fun K hK => ?_) ?_
            · refine st_store rfl rfl B7 (news := [.slice A l.length c, .bool n1]) (by rfl) infoNm (by simp) (by simp [Value.oneCell']) ?_; intro w6 hon B7n; simp only [List.take_zero, List.nil_append, List.length_cons, List.length_nil, List.drop_succ_cons, List.drop_zero, List.append_nil, List.cons_append] at B7n; replace B8 := B8.only hon (Ne.symm hne); replace hcur := hcur.trans (hon.below hg7); clear B7; have B7 := B7n; clear B7n
              refine hK.out _ _ hcur (fun hHeld => ?_)
              clear hK K hHeld
              (try simp only [Act.put, List.setIfInBounds_toArray, List.set_cons_zero, List.set_cons_succ])
              refine wpAnyH_ready (rs := [7]) (by kernel_rfl) (by simp) ?_
              refine AllReadyH.cons (o := _) rfl (fun K hK => ?_) ?_
              · refine st_store rfl rfl B8 (news := [.slice A2 m.length c2, .bool n2]) (by rfl) infoNm (by simp) (by simp [Value.oneCell']) ?_; intro w6 hon B8n; simp only [List.take_zero, List.nil_append, List.length_cons, List.length_nil, List.drop_succ_cons, List.drop_zero, List.append_nil, List.cons_append] at B8n; replace B7 := B7.only hon hne; replace hcur := hcur.trans (hon.below hg8); clear B8; have B8 := B8n; clear B8n
                refine hK.out _ _ hcur (fun hHeld => ?_)
                clear hK K hHeld
                (try simp only [Act.put, List.setIfInBounds_toArray, List.set_cons_zero, List.set_cons_succ])
                refine wpAnyH_done (by kernel_rfl) ?_ _
                refine NoPanic.normal ?_
                obtain ⟨rfl⟩ := hQ7
                (go_wp2_with fail)
                go_meet
                exact ⟨g7, g8, rfl, rfl, ⟨hg7, hg8⟩, hcur, B7, B8⟩
              exact AllReadyH.nil
            exact AllReadyH.nil
          exact AllReadyH.nil
        exact AllReadyH.nil
      exact AllReadyH.nil
    refine AllReadyH.cons (o := _) rfl (fun K hK => ?_) ?_
    · refine st_alloc 7 rfl infoNm (cs := [.slice none 0 0, .bool false]) rfl ?_; intro g7 w6 hbn B7 hgn; have hg7 := Nat.le_trans hcur.size hgn; replace hcur := bthen hcur hbn
      refine hK.out _ _ hcur (fun hHeld => ?_)
      clear hK K hHeld
      (try simp only [Act.put, List.setIfInBounds_toArray, List.set_cons_zero, List.set_cons_succ])
      refine wpAnyH_ready (rs := [1, 5]) (by kernel_rfl) (by simp) ?_
      refine AllReadyH.cons (o := _) rfl (fun K hK => ?_) ?_
      · go_simp; refine (numOf_any n1 A l.length c _).mono ?_; rintro e w6 ⟨v6, rfl, rfl, hbn⟩; replace B7 := B7.below hbn; replace hcur := bthen hcur hbn; go_wp2_with fail
        refine hK.out _ _ hcur (fun hHeld => ?_)
        clear hK K hHeld
        (try simp only [Act.put, List.setIfInBounds_toArray, List.set_cons_zero, List.set_cons_succ])
        refine wpAnyH_ready (rs := [3, 5]) (by kernel_rfl) (by simp) ?_
        refine AllReadyH.cons (o := _) rfl (fun K hK => ?_) ?_
        · go_simp; refine (numOf_any n2 A2 m.length c2 _).mono ?_; rintro e w6 ⟨v6, rfl, rfl, hbn⟩; replace B7 := B7.below hbn; replace hcur := bthen hcur hbn; go_wp2_with fail
          refine hK.out _ _ hcur (fun hHeld => ?_)
          clear hK K hHeld
          (try simp only [Act.put, List.setIfInBounds_toArray, List.set_cons_zero, List.set_cons_succ])
          refine wpAnyH_ready (rs := [5]) (by kernel_rfl) (by simp) ?_
          refine AllReadyH.cons (o := _) rfl (fun K hK => ?_) ?_
          · refine st_alloc 8 rfl infoNm (cs := [.slice none 0 0, .bool false]) rfl ?_; intro g8 w6 hbn B8 hgn; have hne : g7 ≠ g8 := Nat.ne_of_lt (Nat.lt_of_lt_of_le B7.lt hgn); have hg8 := Nat.le_trans hcur.size hgn; replace B7 := B7.below hbn; replace hcur := bthen hcur hbn
            refine hK.out _ _ hcur (fun hHeld => ?_)
            clear hK K hHeld
            (try simp only [Act.put, List.setIfInBounds_toArray, List.set_cons_zero, List.set_cons_succ])
            refine wpAnyH_ready (rs := [6]) (by kernel_rfl) (by simp) ?_
            refine AllReadyH.cons (o := _) rfl (fun K hK => ?_) ?_
            · refine st_store rfl rfl B7 (news := [.slice A l.length c, .bool n1]) (by rfl) infoNm (by simp) (by simp [Value.oneCell']) ?_; intro w6 hon B7n; simp only [List.take_zero, List.nil_append, List.length_cons, List.length_nil, List.drop_succ_cons, List.drop_zero, List.append_nil, List.cons_append] at B7n; replace B8 := B8.only hon (Ne.symm hne); replace hcur := hcur.trans (hon.below hg7); clear B7; have B7 := B7n; clear B7n
              refine hK.out _ _ hcur (fun hHeld => ?_)
              clear hK K hHeld
              (try simp only [Act.put, List.setIfInBounds_toArray, List.set_cons_zero, List.set_cons_succ])
              refine wpAnyH_ready (rs := [7]) (by kernel_rfl) (by simp) ?_
              refine AllReadyH.cons (o := _) rfl (fun K hK => ?_) ?_
              · refine st_store rfl rfl B8 (news := [.slice A2 m.length c2, .bool n2]) (by rfl) infoNm (by simp) (by simp [Value.oneCell']) ?_; intro w6 hon B8n; simp only [List.take_zero, List.nil_append, List.length_cons, List.length_nil, List.drop_succ_cons, List.drop_zero, List.append_nil, List.cons_append] at B8n; replace B7 := B7.only hon hne; replace hcur := hcur.trans (hon.below hg8); clear B8; have B8 := B8n; clear B8n
                refine hK.out _ _ hcur (fun hHeld => ?_)
                clear hK K hHeld
                (try simp only [Act.put, List.setIfInBounds_toArray, List.set_cons_zero, List.set_cons_succ])
                refine wpAnyH_done (by kernel_rfl) ?_ _
                refine NoPanic.normal ?_
                obtain ⟨rfl⟩ := hQ7
                (go_wp2_with fail)
                go_meet
                exact ⟨g7, g8, rfl, rfl, ⟨hg7, hg8⟩, hcur, B7, B8⟩
              exact AllReadyH.nil
            exact AllReadyH.nil
          exact AllReadyH.nil
        refine AllReadyH.cons (o := _) rfl (fun K hK => ?_) ?_
        · refine st_alloc 8 rfl infoNm (cs := [.slice none 0 0, .bool false]) rfl ?_; intro g8 w6 hbn B8 hgn; have hne : g7 ≠ g8 := Nat.ne_of_lt (Nat.lt_of_lt_of_le B7.lt hgn); have hg8 := Nat.le_trans hcur.size hgn; replace B7 := B7.below hbn; replace hcur := bthen hcur hbn
          refine hK.out _ _ hcur (fun hHeld => ?_)
          clear hK K hHeld
          (try simp only [Act.put, List.setIfInBounds_toArray, List.set_cons_zero, List.set_cons_succ])
          refine wpAnyH_ready (rs := [3]) (by kernel_rfl) (by simp) ?_
          refine AllReadyH.cons (o := _) rfl (fun K hK => ?_) ?_
          · go_simp; refine (numOf_any n2 A2 m.length c2 _).mono ?_; rintro e w6 ⟨v6, rfl, rfl, hbn⟩; replace B7 := B7.below hbn; replace B8 := B8.below hbn; replace hcur := bthen hcur hbn; go_wp2_with fail
            refine hK.out _ _ hcur (fun hHeld => ?_)
            clear hK K hHeld
            (try simp only [Act.put, List.setIfInBounds_toArray, List.set_cons_zero, List.set_cons_succ])
            refine wpAnyH_ready (rs := [6]) (by kernel_rfl) (by simp) ?_
            refine AllReadyH.cons (o := _) rfl (fun K hK => ?_) ?_
            · refine st_store rfl rfl B7 (news := [.slice A l.length c, .bool n1]) (by rfl) infoNm (by simp) (by simp [Value.oneCell']) ?_; intro w6 hon B7n; simp only [List.take_zero, List.nil_append, List.length_cons, List.length_nil, List.drop_succ_cons, List.drop_zero, List.append_nil, List.cons_append] at B7n; replace B8 := B8.only hon (Ne.symm hne); replace hcur := hcur.trans (hon.below hg7); clear B7; have B7 := B7n; clear B7n
              refine hK.out _ _ hcur (fun hHeld => ?_)
              clear hK K hHeld
              (try simp only [Act.put, List.setIfInBounds_toArray, List.set_cons_zero, List.set_cons_succ])
              refine wpAnyH_ready (rs := [7]) (by kernel_rfl) (by simp) ?_
              refine AllReadyH.cons (o := _) rfl (fun K hK => ?_) ?_
              · refine st_store rfl rfl B8 (news := [.slice A2 m.length c2, .bool n2]) (by rfl) infoNm (by simp) (by simp [Value.oneCell']) ?_; intro w6 hon B8n; simp only [List.take_zero, List.nil_append, List.length_cons, List.length_nil, List.drop_succ_cons, List.drop_zero, List.append_nil, List.cons_append] at B8n; replace B7 := B7.only hon hne; replace hcur := hcur.trans (hon.below hg8); clear B8; have B8 := B8n; clear B8n
                refine hK.out _ _ hcur (fun hHeld => ?_)
                clear hK K hHeld
                (try simp only [Act.put, List.setIfInBounds_toArray, List.set_cons_zero, List.set_cons_succ])
                refine wpAnyH_done (by kernel_rfl) ?_ _
                refine NoPanic.normal ?_
                obtain ⟨rfl⟩ := hQ7
                (go_wp2_with fail)
                go_meet
                exact ⟨g7, g8, rfl, rfl, ⟨hg7, hg8⟩, hcur, B7, B8⟩
              exact AllReadyH.nil
            exact AllReadyH.nil
          exact AllReadyH.nil
        exact AllReadyH.nil
      refine AllReadyH.cons (o := _) rfl (fun K hK => ?_) ?_
      · refine st_alloc 8 rfl infoNm (cs := [.slice none 0 0, .bool false]) rfl ?_; intro g8 w6 hbn B8 hgn; have hne : g7 ≠ g8 := Nat.ne_of_lt (Nat.lt_of_lt_of_le B7.lt hgn); have hg8 := Nat.le_trans hcur.size hgn; replace B7 := B7.below hbn; replace hcur := bthen hcur hbn
        refine hK.out _ _ hcur (fun hHeld => ?_)
        clear hK K hHeld
        (try simp only [Act.put, List.setIfInBounds_toArray, List.set_cons_zero, List.set_cons_succ])
        refine wpAnyH_ready (rs := [1]) (by kernel_rfl) (by simp) ?_
        refine AllReadyH.cons (o := _) rfl (fun K hK => ?_) ?_
        · go_simp; refine (numOf_any n1 A l.length c _).mono ?_; rintro e w6 ⟨v6, rfl, rfl, hbn⟩; replace B7 := B7.below hbn; replace B8 := B8.below hbn; replace hcur := bthen hcur hbn; go_wp2_with fail
          refine hK.out _ _ hcur (fun hHeld => ?_)
          clear hK K hHeld
          (try simp only [Act.put, List.setIfInBounds_toArray, List.set_cons_zero, List.set_cons_succ])
          refine wpAnyH_ready (rs := [3]) (by kernel_rfl) (by simp) ?_
          refine AllReadyH.cons (o := _) rfl (fun K hK => ?_) ?_
          · go_simp; refine (numOf_any n2 A2 m.length c2 _).mono ?_; rintro e w6 ⟨v6, rfl, rfl, hbn⟩; replace B7 := B7.below hbn; replace B8 := B8.below hbn; replace hcur := bthen hcur hbn; go_wp2_with fail
            refine hK.out _ _ hcur (fun hHeld => ?_)
            clear hK K hHeld
            (try simp only [Act.put, List.setIfInBounds_toArray, List.set_cons_zero, List.set_cons_succ])
            refine wpAnyH_ready (rs := [6]) (by kernel_rfl) (by simp) ?_
            refine AllReadyH.cons (o := _) rfl (fun K hK => ?_) ?_
            · refine st_store rfl rfl B7 (news := [.slice A l.length c, .bool n1]) (by rfl) infoNm (by simp) (by simp [Value.oneCell']) ?_; intro w6 hon B7n; simp only [List.take_zero, List.nil_append, List.length_cons, List.length_nil, List.drop_succ_cons, List.drop_zero, List.append_nil, List.cons_append] at B7n; replace B8 := B8.only hon (Ne.symm hne); replace hcur := hcur.trans (hon.below hg7); clear B7; have B7 := B7n; clear B7n
              refine hK.out _ _ hcur (fun hHeld => ?_)
              clear hK K hHeld
              (try simp only [Act.put, List.setIfInBounds_toArray, List.set_cons_zero, List.set_cons_succ])
              refine wpAnyH_ready (rs := [7]) (by kernel_rfl) (by simp) ?_
              refine AllReadyH.cons (o := _) rfl (fun K hK => ?_) ?_
              · refine st_store rfl rfl B8 (news := [.slice A2 m.length c2, .bool n2]) (by rfl) infoNm (by simp) (by simp [Value.oneCell']) ?_; intro w6 hon B8n; simp only [List.take_zero, List.nil_append, List.length_cons, List.length_nil, List.drop_succ_cons, List.drop_zero, List.append_nil, List.cons_append] at B8n; replace B7 := B7.only hon hne; replace hcur := hcur.trans (hon.below hg8); clear B8; have B8 := B8n; clear B8n
                refine hK.out _ _ hcur (fun hHeld => ?_)
                clear hK K hHeld
                (try simp only [Act.put, List.setIfInBounds_toArray, List.set_cons_zero, List.set_cons_succ])
                refine wpAnyH_done (by kernel_rfl) ?_ _
                refine NoPanic.normal ?_
                obtain ⟨rfl⟩ := hQ7
                (go_wp2_with fail)
                go_meet
                exact ⟨g7, g8, rfl, rfl, ⟨hg7, hg8⟩, hcur, B7, B8⟩
              exact AllReadyH.nil
            exact AllReadyH.nil
          exact AllReadyH.nil
        exact AllReadyH.nil
      exact AllReadyH.nil
    refine AllReadyH.cons (o := _) rfl (fun K hK => ?_) ?_
    · refine st_alloc 8 rfl infoNm (cs := [.slice none 0 0, .bool false]) rfl ?_; intro g8 w6 hbn B8 hgn; have hg8 := Nat.le_trans hcur.size hgn; replace hcur := bthen hcur hbn
      refine hK.out _ _ hcur (fun hHeld => ?_)
      clear hK K hHeld
      (try simp only [Act.put, List.setIfInBounds_toArray, List.set_cons_zero, List.set_cons_succ])
      refine wpAnyH_ready (rs := [1, 4]) (by kernel_rfl) (by simp) ?_
      refine AllReadyH.cons (o := _) rfl (fun K hK => ?_) ?_
      · go_simp; refine (numOf_any n1 A l.length c _).mono ?_; rintro e w6 ⟨v6, rfl, rfl, hbn⟩; replace B8 := B8.below hbn; replace hcur := bthen hcur hbn; go_wp2_with fail
        refine hK.out _ _ hcur (fun hHeld => ?_)
        clear hK K hHeld
        (try simp only [Act.put, List.setIfInBounds_toArray, List.set_cons_zero, List.set_cons_succ])
        refine wpAnyH_ready (rs := [3, 4]) (by kernel_rfl) (by simp) ?_
        refine AllReadyH.cons (o := _) rfl (fun K hK => ?_) ?_
        · go_simp; refine (numOf_any n2 A2 m.length c2 _).mono ?_; rintro e w6 ⟨v6, rfl, rfl, hbn⟩; replace B8 := B8.below hbn; replace hcur := bthen hcur hbn; go_wp2_with fail
          refine hK.out _ _ hcur (fun hHeld => ?_)
          clear hK K hHeld
          (try simp only [Act.put, List.setIfInBounds_toArray, List.set_cons_zero, List.set_cons_succ])
          refine wpAnyH_ready (rs := [4]) (by kernel_rfl) (by simp) ?_
          refine AllReadyH.cons (o := _) rfl (fun K hK => ?_) ?_
          · refine st_alloc 7 rfl infoNm (cs := [.slice none 0 0, .bool false]) rfl ?_; intro g7 w6 hbn B7 hgn; have hne : g7 ≠ g8 := Nat.ne_of_gt (Nat.lt_of_lt_of_le B8.lt hgn); have hg7 := Nat.le_trans hcur.size hgn; replace B8 := B8.below hbn; replace hcur := bthen hcur hbn
            refine hK.out _ _ hcur (fun hHeld => ?_)
            clear hK K hHeld
            (try simp only [Act.put, List.setIfInBounds_toArray, List.set_cons_zero, List.set_cons_succ])
            refine wpAnyH_ready (rs := [6]) (by kernel_rfl) (by simp) ?_
            refine AllReadyH.cons (o := _) rfl (fun K hK => ?_) ?_
            · refine st_store rfl rfl B7 (news := [.slice A l.length c, .bool n1]) (by rfl) infoNm (by simp) (by simp [Value.oneCell']) ?_; intro w6 hon B7n; simp only [List.take_zero, List.nil_append, List.length_cons, List.length_nil, List.drop_succ_cons, List.drop_zero, List.append_nil, List.cons_append] at B7n; replace B8 := B8.only hon (Ne.symm hne); replace hcur := hcur.trans (hon.below hg7); clear B7; have B7 := B7n; clear B7n
              refine hK.out _ _ hcur (fun hHeld => ?_)
              clear hK K hHeld
              (try simp only [Act.put, List.setIfInBounds_toArray, List.set_cons_zero, List.set_cons_succ])
              refine wpAnyH_ready (rs := [7]) (by kernel_rfl) (by simp) ?_
              refine AllReadyH.cons (o := _) rfl (fun K hK => ?_) ?_
              · refine st_store rfl rfl B8 (news := [.slice A2 m.length c2, .bool n2]) (by rfl) infoNm (by simp) (by simp [Value.oneCell']) ?_; intro w6 hon B8n; simp only [List.take_zero, List.nil_append, List.length_cons, List.length_nil, List.drop_succ_cons, List.drop_zero, List.append_nil, List.cons_append] at B8n; replace B7 := B7.only hon hne; replace hcur := hcur.trans (hon.below hg8); clear B8; have B8 := B8n; clear B8n
                refine hK.out _ _ hcur (fun hHeld => ?_)
                clear hK K hHeld
                (try simp only [Act.put, List.setIfInBounds_toArray, List.set_cons_zero, List.set_cons_succ])
                refine wpAnyH_done (by kernel_rfl) ?_ _
                refine NoPanic.normal ?_
                obtain ⟨rfl⟩ := hQ7
                (go_wp2_with fail)
                go_meet
                exact ⟨g7, g8, rfl, rfl, ⟨hg7, hg8⟩, hcur, B7, B8⟩
              exact AllReadyH.nil
            exact AllReadyH.nil
          exact AllReadyH.nil
        refine AllReadyH.cons (o := _) rfl (fun K hK => ?_) ?_
        · refine st_alloc 7 rfl infoNm (cs := [.slice none 0 0, .bool false]) rfl ?_; intro g7 w6 hbn B7 hgn; have hne : g7 ≠ g8 := Nat.ne_of_gt (Nat.lt_of_lt_of_le B8.lt hgn); have hg7 := Nat.le_trans hcur.size hgn; replace B8 := B8.below hbn; replace hcur := bthen hcur hbn
          refine hK.out _ _ hcur (fun hHeld => ?_)
          clear hK K hHeld
          (try simp only [Act.put, List.setIfInBounds_toArray, List.set_cons_zero, List.set_cons_succ])
          refine wpAnyH_ready (rs := [3]) (by kernel_rfl) (by simp) ?_
          refine AllReadyH.cons (o := _) rfl (fun K hK => ?_) ?_
          · go_simp; refine (numOf_any n2 A2 m.length c2 _).mono ?_; rintro e w6 ⟨v6, rfl, rfl, hbn⟩; replace B8 := B8.below hbn; replace B7 := B7.below hbn; replace hcur := bthen hcur hbn; go_wp2_with fail
            refine hK.out _ _ hcur (fun hHeld => ?_)
            clear hK K hHeld
            (try simp only [Act.put, List.setIfInBounds_toArray, List.set_cons_zero, List.set_cons_succ])
            refine wpAnyH_ready (rs := [6]) (by kernel_rfl) (by simp) ?_
            refine AllReadyH.cons (o := _) rfl (fun K hK => ?_) ?_
            · refine st_store rfl rfl B7 (news := [.slice A l.length c, .bool n1]) (by rfl) infoNm (by simp) (by simp [Value.oneCell']) ?_; intro w6 hon B7n; simp only [List.take_zero, List.nil_append, List.length_cons, List.length_nil, List.drop_succ_cons, List.drop_zero, List.append_nil, List.cons_append] at B7n; replace B8 := B8.only hon (Ne.symm hne); replace hcur := hcur.trans (hon.below hg7); clear B7; have B7 := B7n; clear B7n
              refine hK.out _ _ hcur (fun hHeld => ?_)
              clear hK K hHeld
              (try simp only [Act.put, List.setIfInBounds_toArray, List.set_cons_zero, List.set_cons_succ])
              refine wpAnyH_ready (rs := [7]) (by kernel_rfl) (by simp) ?_
              refine AllReadyH.cons (o := _) rfl (fun K hK => ?_) ?_
              · refine st_store rfl rfl B8 (news := [.slice A2 m.length c2, .bool n2]) (by rfl) infoNm (by simp) (by simp [Value.oneCell']) ?_; intro w6 hon B8n; simp only [List.take_zero, List.nil_append, List.length_cons, List.length_nil, List.drop_succ_cons, List.drop_zero, List.append_nil, List.cons_append] at B8n; replace B7 := B7.only hon hne; replace hcur := hcur.trans (hon.below hg8); clear B8; have B8 := B8n; clear B8n
                refine hK.out _ _ hcur (fun hHeld => ?_)
                clear hK K hHeld
                (try simp only [Act.put, List.setIfInBounds_toArray, List.set_cons_zero, List.set_cons_succ])
                refine wpAnyH_done (by kernel_rfl) ?_ _
                refine NoPanic.normal ?_
                obtain ⟨rfl⟩ := hQ7
                (go_wp2_with fail)
                go_meet
                exact ⟨g7, g8, rfl, rfl, ⟨hg7, hg8⟩, hcur, B7, B8⟩
              exact AllReadyH.nil
            exact AllReadyH.nil
          exact AllReadyH.nil
        exact AllReadyH.nil
      refine AllReadyH.cons (o := _) rfl (fun K hK => ?_) ?_
      · refine st_alloc 7 rfl infoNm (cs := [.slice none 0 0, .bool false]) rfl ?_; intro g7 w6 hbn B7 hgn; have hne : g7 ≠ g8 := Nat.ne_of_gt (Nat.lt_of_lt_of_le B8.lt hgn); have hg7 := Nat.le_trans hcur.size hgn; replace B8 := B8.below hbn; replace hcur := bthen hcur hbn
        refine hK.out _ _ hcur (fun hHeld => ?_)
        clear hK K hHeld
        (try simp only [Act.put, List.setIfInBounds_toArray, List.set_cons_zero, List.set_cons_succ])
        refine wpAnyH_ready (rs := [1]) (by kernel_rfl) (by simp) ?_
        refine AllReadyH.cons (o := _) rfl (fun K hK => ?_) ?_
        · go_simp; refine (numOf_any n1 A l.length c _).mono ?_; rintro e w6 ⟨v6, rfl, rfl, hbn⟩; replace B8 := B8.below hbn; replace B7 := B7.below hbn; replace hcur := bthen hcur hbn; go_wp2_with fail
          refine hK.out _ _ hcur (fun hHeld => ?_)
          clear hK K hHeld
          (try simp only [Act.put, List.setIfInBounds_toArray, List.set_cons_zero, List.set_cons_succ])
          refine wpAnyH_ready (rs := [3]) (by kernel_rfl) (by simp) ?_
          refine AllReadyH.cons (o := _) rfl (fun K hK => ?_) ?_
          · go_simp; refine (numOf_any n2 A2 m.length c2 _).mono ?_; rintro e w6 ⟨v6, rfl, rfl, hbn⟩; replace B8 := B8.below hbn; replace B7 := B7.below hbn; replace hcur := bthen hcur hbn; go_wp2_with fail
            refine hK.out _ _ hcur (fun hHeld => ?_)
            clear hK K hHeld
            (try simp only [Act.put, List.setIfInBounds_toArray, List.set_cons_zero, List.set_cons_succ])
            refine wpAnyH_ready (rs := [6]) (by kernel_rfl) (by simp) ?_
            refine AllReadyH.cons (o := _) rfl (fun K hK => ?_) ?_
            · refine st_store rfl rfl B7 (news := [.slice A l.length c, .bool n1]) (by rfl) infoNm (by simp) (by simp [Value.oneCell']) ?_; intro w6 hon B7n; simp only [List.take_zero, List.nil_append, List.length_cons, List.length_nil, List.drop_succ_cons, List.drop_zero, List.append_nil, List.cons_append] at B7n; replace B8 := B8.only hon (Ne.symm hne); replace hcur := hcur.trans (hon.below hg7); clear B7; have B7 := B7n; clear B7n
              refine hK.out _ _ hcur (fun hHeld => ?_)
              clear hK K hHeld
              (try simp only [Act.put, List.setIfInBounds_toArray, List.set_cons_zero, List.set_cons_succ])
              refine wpAnyH_ready (rs := [7]) (by kernel_rfl) (by simp) ?_
              refine AllReadyH.cons (o := _) rfl (fun K hK => ?_) ?_
              · refine st_store rfl rfl B8 (news := [.slice A2 m.length c2, .bool n2]) (by rfl) infoNm (by simp) (by simp [Value.oneCell']) ?_; intro w6 hon B8n; simp only [List.take_zero, List.nil_append, List.length_cons, List.length_nil, List.drop_succ_cons, List.drop_zero, List.append_nil, List.cons_append] at B8n; replace B7 := B7.only hon hne; replace hcur := hcur.trans (hon.below hg8); clear B8; have B8 := B8n; clear B8n
                refine hK.out _ _ hcur (fun hHeld => ?_)
                clear hK K hHeld
                (try simp only [Act.put, List.setIfInBounds_toArray, List.set_cons_zero, List.set_cons_succ])
                refine wpAnyH_done (by kernel_rfl) ?_ _
                refine NoPanic.normal ?_
                obtain ⟨rfl⟩ := hQ7
                (go_wp2_with fail)
                go_meet
                exact ⟨g7, g8, rfl, rfl, ⟨hg7, hg8⟩, hcur, B7, B8⟩
              exact AllReadyH.nil
            exact AllReadyH.nil
          exact AllReadyH.nil
        exact AllReadyH.nil
      exact AllReadyH.nil
    exact AllReadyH.nil
  case rest =>
    obtain ⟨g7, g8, rfl, rfl, hge, hbx, B7, B8⟩ := hcut
    replace B4 := B4.below hbx
    replace B5 := B5.below hbx
    have hne47 : g4 ≠ g7 := by have := hge.out.1; have := h45lt; omega
    have hne48 : g4 ≠ g8 := by have := hge.out.2; have := h45lt; omega
    have hne57 : g5 ≠ g7 := by have := hge.out.1; have := h45lt; omega
    have hne58 : g5 ≠ g8 := by have := hge.out.2; have := h45lt; omega
    have C7 := B7.cells
    have C8 := B8.cells
    have hbw := bthen hb5 hbx
    go_wp2_with (go_at_call 50; (with_reducible refine (HD.out _ hbw).mono ?_); rintro e w9 ⟨v9, rfl, ⟨q, r, rfl, hoq, hor⟩, hb9⟩; replace B4 := B4.below hb9; replace B5 := B5.below hb9; replace B7 := B7.below hb9; replace B8 := B8.below hb9; clear C7 C8; have l4 := Nat.lt_of_lt_of_le h45lt.1 hbx.size; have l5 := Nat.lt_of_lt_of_le h45lt.2 hbx.size; have hbw9 := bthen hbw hb9; have HDq := As.mk (digB_val 4294967296 (by omega) (V / U)); have HDr := As.mk (digB_val 4294967296 (by omega) (V % U)); have HLq := As.mk (digB_lt 4294967296 (by omega) (V / U)); have HLr := As.mk (digB_lt 4294967296 (by omega) (V % U)); generalize digB 4294967296 (V / U) = Dq at hoq hql HDq HLq; generalize digB 4294967296 (V % U) = Dr at hor hrl HDr HLr; obtain ⟨Aq, cq, rfl, hq1, hq2⟩ := hoq.form; obtain ⟨Ar, cr, rfl, hr1, hr2⟩ := hor.form; have hlq : Lim w9 Aq cq Dq := ⟨hoq.rd lenU, HLq.out, hq1, hoq.none, hql⟩; have hlr : Lim w9 Ar cr Dr := ⟨hor.rd lenU, HLr.out, hr1, hor.none, hrl⟩; have HT1 := As.mk (fun (W : World) (hb : Below w9.heap.size w9 W) => told_any Dq nx Aq cq W (hlq.below hb)); have HT2 := As.mk (fun (W : World) (hb : Below w9.heap.size w9 W) => told_any Dr n1 Ar cr W (hlr.below hb)); rw [HDq.out] at HT1; rw [HDr.out] at HT2; clear hoq hor)
    have hS : ∀ W, Blk W g7 [.slice A l.length c, .bool n1] 52 → Blk W g8 [.slice A2 m.length c2, .bool n2] 52 → W.cell? ⟨g7, 1, none⟩ = some (.bool n1) ∧ W.cell? ⟨g8, 1, none⟩ = some (.bool n2) := fun W b1 b2 => ⟨b1.cells 1, b2.cells 1⟩
    have hd := (Below.refl w9.heap.size w9).drew
    have hS0 := hS _ (B7.below hd) (B8.below hd)
    have HS := As.mk hS
    clear hS
    refine wp_gen (fun Q7 hQ7 => ?_)
    go_region_held3 (fun W => W.cell? ⟨g7, 1, none⟩ = some (.bool n1) ∧ W.cell? ⟨g8, 1, none⟩ = some (.bool n2)) (first | assumption | (with_reducible exact HSk2.out _ _ _ _) | (with_reducible exact HSk.out _ _) | (with_reducible exact HS.out _ (B7.below hb11) (B8.below hb11)) | (with_reducible exact HS.out _ (B7.below hb10) (B8.below hb10))) (first
      | (go_at_call 48; (with_reducible refine (HT1.out _ hd).mono ?_); rintro e w10 ⟨v10, rfl, ht10, hb10⟩; obtain ⟨A10, c10, E10, rfl, ho10, HE10, h101⟩ := told_sl ht10; replace hb10 := bthen hd hb10)
      | (go_at_call 48; (with_reducible refine (HT2.out _ hb10).mono ?_); rintro e w11 ⟨v11, rfl, ht11, hb11⟩; obtain ⟨A11, c11, E11, rfl, ho11, HE11, h111⟩ := told_sl ht11; replace ho10 := ho10.below hb11; replace ho11 := ho11.lower hb10.size; replace hb11 := bthen hb10 hb11; have B411 := B4.below hb11; have B511 := B5.below hb11; have C4 := B411.cells; have F4 := B411.free; have C5 := B511.cells; have F5 := B511.free; have C5k := (B511.only (set2_gen B411 (.bool (decide (sval nx (V / U) < 0))) (.slice A10 E10.length c10)).1 hne54).cells; have F5k := (B511.only (set2_gen B411 (.bool (decide (sval nx (V / U) < 0))) (.slice A10 E10.length c10)).1 hne54).free; have HSk := As.mk fun v u => HS.out _ ((B7.below hb11).only (set2_gen B411 v u).1 (Ne.symm hne47)) ((B8.below hb11).only (set2_gen B411 v u).1 (Ne.symm hne48)); have HSk2 := As.mk fun a b c d => sk4 HS.out (B7.below hb11) (B8.below hb11) B411 B511 (Ne.symm hne47) (Ne.symm hne48) (Ne.symm hne57) (Ne.symm hne58) hne54 a b c d))
    obtain ⟨hb12, B12, B13, ho12, hs12⟩ := set4_gen (B0 := w.heap.size) (bthen hbw9 hb11) hg4 hg5 B411 B511 (Ne.symm hne54) (a := .bool (decide (sval nx (V / U) < 0))) (b := .slice A10 E10.length c10) (c := .bool (decide (sval n1 (V % U) < 0))) (d := .slice A11 E11.length c11)
    generalize (((w11.setCell ⟨g4, 0, none⟩ (.bool (decide (sval nx (V / U) < 0)))).setCell ⟨g4, 1, none⟩ (.slice A10 E10.length c10)).setCell ⟨g5, 0, none⟩ (.bool (decide (sval n1 (V % U) < 0)))).setCell ⟨g5, 1, none⟩ (.slice A11 E11.length c11) = w12 at hb12 B12 B13 ho12 hs12 ⊢
    obtain ⟨rfl⟩ := hQ7
    go_wp2
    refine bodyPost_ret (results_cct rfl _ _ g4 g5 26 26 #[.bool (decide (sval nx (V / U) < 0)), .slice A10 E10.length c10] #[.bool (decide (sval n1 (V % U) < 0)), .slice A11 E11.length c11] (0, 0) (0, 0) _ rfl rfl B12.h B13.h Tryd.underlying26 rfl (by kernel_rfl) (by kernel_rfl)) rfl ?_
    have l49 := Nat.lt_of_lt_of_le l4 hb9.size
    have l59 := Nat.lt_of_lt_of_le l5 hb9.size
    refine ⟨_, rfl, ⟨_, _, rfl, ⟨.slice A10 E10.length c10, rfl, ?_⟩, ⟨.slice A11 E11.length c11, rfl, ?_⟩⟩, hb12⟩
    · rw [← HE10.out]; exact ow_others ho10 ho12 l49 l59 hbw9.size
    · rw [← HE11.out]; exact ow_others ho11 ho12 l49 l59 hbw9.size
end Go.Proofs.YtigoofeodbbbhaaDoor
