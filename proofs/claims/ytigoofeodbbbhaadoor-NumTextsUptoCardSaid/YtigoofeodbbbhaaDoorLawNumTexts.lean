/- NumTexts. -/
import Derived.Test.YtigoofeodbbbhaaDoorParseN
namespace Go.Proofs.YtigoofeodbbbhaaDoor
open Go.RowKit Go.Proofs.YtigoofeodbbbhaaDoorL Go.Proofs.YtigoofeodbbbhaaDoorM
set_option linter.unusedVariables false
set_option linter.unusedSimpArgs false
set_option maxRecDepth 16000 in
set_option maxHeartbeats 16000000 in
theorem numTexts_any (x : LN) (s : ByteArray) (w : World) (htab : Tab w) (hx : LimN w x) (hxy : x.mag.length + s.size ≤ 1048576) :
    Calls Tryd.prog 13 #[.agg (encN x).toArray, .string s] w (Gives w fun r _ => r = .bool true) := by
  obtain ⟨n1, A1, c1, l1⟩ := x
  simp only [encN]
  replace hxy : l1.length + s.size ≤ 1048576 := hxy
  obtain ⟨k1, z1, e1, o1⟩ := open_num hx
  have F0 := (Fs.nil w).cons o1
  rw [e1] at hxy ⊢
  have HT := As.mk htab
  clear htab hx e1 o1
  obtain ⟨u, neg, hsh⟩ := shape_ex s
  have hus := hsh.le
  obtain ⟨ok, hok⟩ : ∃ ok, okD u = ok := ⟨_, rfl⟩
  obtain ⟨z, hz⟩ : ∃ z, pz u neg = z := ⟨_, rfl⟩
  obtain ⟨T, hT⟩ : ∃ T, numZ z1 = T := ⟨_, rfl⟩
  have HTx := As.mk hT
  have HP := As.mk (fun W => parseF s u neg W (by omega) hsh ok hok z hz s.size hus (by omega))
  have HR := As.mk (fun W => rparseF s u neg W (by omega) hsh ok hok z hz s.size hus (by omega))
  clear hsh hus hok hz hT
  go_enter Tryd.func13, Tryd.ntmps13
  go_wp2_with (first
  | ((with_reducible refine g_dst 2 ?_); go_must (refine ev_box 2 rfl (cs := [.bool n1, .slice A1 k1 c1]) (by rfl) ?_); intro g2 wn hbt B2 hg2)
  | (go_at_call 41; (with_reducible refine (HP.out _).mono ?_); rintro e wn ⟨vn, rfl, ⟨qn, rfl, ⟨b5, A5, n5, c5, rfl, o5, _⟩⟩, hbn⟩; replace B2 := B2.below hbn; replace hbt := bthen hbt hbn; have hw5 := hbt)
  | ((with_reducible refine g_dst 5 ?_); go_must (refine ev_alloc 5 rfl infoNum (cs := [.bool false, .slice none 0 0]) rfl ?_); intro g5 wn hb5 B5 hg5)
  | ((with_reducible refine g_store 5 ?_); go_must (refine ev_store rfl rfl B5 (news := [.bool b5, .slice A5 n5 c5]) (by rfl) infoNum (by simp) (by simp [Value.oneCell']) ?_); intro wn hon Bn; simp only [List.take_zero, List.nil_append, List.length_cons, List.length_nil, List.drop_succ_cons, List.drop_zero, List.append_nil, List.cons_append] at Bn; have hbn := hb5.trans (hon.below hg5); replace B5 := Bn; clear Bn; replace B2 := B2.below hbn; replace o5 := o5.below hbn; replace hbt := bthen hbt hbn; clear hb5 hon)
  | (go_at_call 42; (with_reducible refine (HR.out _).mono ?_); rintro e wn ⟨vn, rfl, ⟨qn, rfl, ⟨b7, A7, n7, c7, rfl, o7, _⟩⟩, hbn⟩; replace B2 := B2.below hbn; (try replace o5 := o5.below hbn); (try replace B5 := B5.below hbn); replace hbt := bthen hbt hbn; have hw7 := hbt)
  | ((with_reducible refine g_dst 7 ?_); go_must (refine ev_alloc 7 rfl infoNum (cs := [.bool false, .slice none 0 0]) rfl ?_); intro g7 wn hb7 B7 hg7)
  | ((with_reducible refine g_store 7 ?_); go_must (refine ev_store rfl rfl B7 (news := [.bool b7, .slice A7 n7 c7]) (by rfl) infoNum (by simp) (by simp [Value.oneCell']) ?_); intro wn hon Bn; simp only [List.take_zero, List.nil_append, List.length_cons, List.length_nil, List.drop_succ_cons, List.drop_zero, List.append_nil, List.cons_append] at Bn; have hbn := hb7.trans (hon.below hg7); replace B7 := Bn; clear Bn; replace B2 := B2.below hbn; (try replace o5 := o5.below hbn); (try replace B5 := B5.below hbn); replace o7 := o7.below hbn; replace hbt := bthen hbt hbn; clear hb7 hon))
  replace F0 := ((F0.below hbt).cons o5).cons o7
  obtain ⟨wb, rfl⟩ : ∃ wb : World, wb = wn := ⟨_, rfl⟩
  have hcur := (Below.refl wb.heap.size wb).drew
  have F := F0.below hcur
  refine wp_gen2 (fun Q7 hQ7 => ?_)
  refine wp_region_held_drew (S := fun W => Below wb.heap.size wb W) (by kernel_rfl) hcur (fun hHeld => ?_)
  clear hHeld
  refine wpAnyH_take (i := 0) (oi := _) (v := .agg #[.bool n1, .slice A1 k1 c1]) rfl (by kernel_rfl) (by kernel_rfl) (by kernel_rfl) (fun _ _ _ h => h) (Or.inl ⟨by kernel_rfl, fun W hSw => by have Cb := (B2.below hSw).cells; ((try dsimp only at hSw); go_simp; try (with_reducible rfl))⟩) hcur ?_
  (try simp only [Act.put, List.setIfInBounds_toArray, List.set_cons_zero, List.set_cons_succ])
  refine wpAnyH_take (i := 3) (oi := _) (v := .agg #[.bool n1, .slice A1 k1 c1]) rfl (by kernel_rfl) (by kernel_rfl) (by kernel_rfl) (fun _ _ _ h => h) (Or.inl ⟨by kernel_rfl, fun W hSw => by have Cb := (B2.below hSw).cells; ((try dsimp only at hSw); go_simp; try (with_reducible rfl))⟩) hcur ?_
  (try simp only [Act.put, List.setIfInBounds_toArray, List.set_cons_zero, List.set_cons_succ])
  refine wpAnyH_ready (rs := [1]) (by kernel_rfl) (by simp) ?_
  refine AllReadyH.cons (o := _) rfl (fun K hK => ?_) AllReadyH.nil
  go_simp; (with_reducible refine (cF F (by repeat (first | exact List.mem_cons_self .. | apply List.mem_cons_of_mem))).mono ?_); rintro e wn ⟨vn, rfl, ⟨b20, A20, n20, c20, rfl, o, hf⟩, hb⟩; replace F := (F.below hb).cons o; have hfr20 : ∀ k ∈ addrBlock A20, k < _ := (fun k hk => (hf k hk).2); clear hf; replace hcur := bthen hcur hb; go_wp2_with fail
  refine hK.out _ _ hcur (fun hHeld => ?_)
  clear hK K hHeld
  (try simp only [Act.put, List.setIfInBounds_toArray, List.set_cons_zero, List.set_cons_succ])
  refine wpAnyH_ready (rs := [2]) (by kernel_rfl) (by simp) ?_
  refine AllReadyH.cons (o := _) rfl (fun K hK => ?_) AllReadyH.nil
  go_simp; (with_reducible refine (textF F (by repeat (first | exact List.mem_cons_self .. | apply List.mem_cons_of_mem)) (HT.out.below (bthen hbt hcur)) T HTx.out).mono ?_); rintro e wn ⟨vn, rfl, rfl, hb⟩; replace F := F.below hb; replace hfr20 : ∀ k ∈ addrBlock A20, k < _ := (fun k hk => Nat.lt_of_lt_of_le (hfr20 k hk) hb.size); replace hcur := bthen hcur hb; go_wp2_with fail
  refine hK.out _ _ hcur (fun hHeld => ?_)
  clear hK K hHeld
  (try simp only [Act.put, List.setIfInBounds_toArray, List.set_cons_zero, List.set_cons_succ])
  refine wpAnyH_ready (rs := [4]) (by kernel_rfl) (by simp) ?_
  refine AllReadyH.cons (o := _) rfl (fun K hK => ?_) AllReadyH.nil
  go_simp; (with_reducible refine (rtextF F (by repeat (first | exact List.mem_cons_self .. | apply List.mem_cons_of_mem)) T HTx.out).mono ?_); rintro e wn ⟨vn, rfl, rfl, hb⟩; replace F := F.below hb; replace hfr20 : ∀ k ∈ addrBlock A20, k < _ := (fun k hk => Nat.lt_of_lt_of_le (hfr20 k hk) hb.size); replace hcur := bthen hcur hb; go_wp2_with fail
  refine hK.out _ _ hcur (fun hHeld => ?_)
  clear hK K hHeld
  (try simp only [Act.put, List.setIfInBounds_toArray, List.set_cons_zero, List.set_cons_succ])
  refine wpAnyH_take (i := 5) (oi := _) (v := .bool true) rfl (by kernel_rfl) (by kernel_rfl) (by kernel_rfl) (fun _ _ _ h => h) (Or.inl ⟨by kernel_rfl, fun W hSw => by ((try dsimp only at hSw); go_simp; try (with_reducible rfl))⟩) hcur ?_
  (try simp only [Act.put, List.setIfInBounds_toArray, List.set_cons_zero, List.set_cons_succ])
  refine wpAnyH_take (i := 6) (oi := _) (v := .bool true) rfl (by kernel_rfl) (by kernel_rfl) (by kernel_rfl) (fun _ _ _ h => h) (Or.inl ⟨by kernel_rfl, fun W hSw => by ((try dsimp only at hSw); go_simp; try (with_reducible rfl))⟩) hcur ?_
  (try simp only [Act.put, List.setIfInBounds_toArray, List.set_cons_zero, List.set_cons_succ])
  refine wpAnyH_take (i := 7) (oi := _) (v := .agg #[.bool b5, .slice A5 n5 c5]) rfl (by kernel_rfl) (by kernel_rfl) (by kernel_rfl) (fun _ _ _ h => h) (Or.inl ⟨by kernel_rfl, fun W hSw => by have Cb := (B5.below hSw).cells; ((try dsimp only at hSw); go_simp; try (with_reducible rfl))⟩) hcur ?_
  (try simp only [Act.put, List.setIfInBounds_toArray, List.set_cons_zero, List.set_cons_succ])
  refine wpAnyH_take (i := 8) (oi := _) (v := .agg #[.bool b7, .slice A7 n7 c7]) rfl (by kernel_rfl) (by kernel_rfl) (by kernel_rfl) (fun _ _ _ h => h) (Or.inl ⟨by kernel_rfl, fun W hSw => by have Cb := (B7.below hSw).cells; ((try dsimp only at hSw); go_simp; try (with_reducible rfl))⟩) hcur ?_
  (try simp only [Act.put, List.setIfInBounds_toArray, List.set_cons_zero, List.set_cons_succ])
  refine wpAnyH_ready (rs := [9]) (by kernel_rfl) (by simp) ?_
  refine AllReadyH.cons (o := _) rfl (fun K hK => ?_) AllReadyH.nil
  go_simp; (with_reducible refine (sameF F (by repeat (first | exact List.mem_cons_self .. | apply List.mem_cons_of_mem)) (by repeat (first | exact List.mem_cons_self .. | apply List.mem_cons_of_mem)) (by first | with_reducible rfl | fail)).mono ?_); rintro e wn ⟨vn, rfl, rfl, hb⟩; replace F := F.below hb; replace hfr20 : ∀ k ∈ addrBlock A20, k < _ := (fun k hk => Nat.lt_of_lt_of_le (hfr20 k hk) hb.size); replace hcur := bthen hcur hb; go_wp2_with fail
  refine hK.out _ _ hcur (fun hHeld => ?_)
  clear hK K hHeld
  (try simp only [Act.put, List.setIfInBounds_toArray, List.set_cons_zero, List.set_cons_succ])
  refine wpAnyH_take (i := 10) (oi := _) (v := .bool true) rfl (by kernel_rfl) (by kernel_rfl) (by kernel_rfl) (fun _ _ _ h => h) (Or.inl ⟨by kernel_rfl, fun W hSw => by ((try dsimp only at hSw); go_simp; try (with_reducible rfl))⟩) hcur ?_
  (try simp only [Act.put, List.setIfInBounds_toArray, List.set_cons_zero, List.set_cons_succ])
  refine wpAnyH_take (i := 11) (oi := _) (v := .bool true) rfl (by kernel_rfl) (by kernel_rfl) (by kernel_rfl) (fun _ _ _ h => h) (Or.inl ⟨by kernel_rfl, fun W hSw => by ((try dsimp only at hSw); go_simp; try (with_reducible rfl))⟩) hcur ?_
  (try simp only [Act.put, List.setIfInBounds_toArray, List.set_cons_zero, List.set_cons_succ])
  refine wpAnyH_take (i := 12) (oi := _) (v := .bool ok) rfl (by kernel_rfl) (by kernel_rfl) (by kernel_rfl) (fun _ _ _ h => h) (Or.inl ⟨by kernel_rfl, fun W hSw => by ((try dsimp only at hSw); go_simp; try (with_reducible rfl))⟩) hcur ?_
  (try simp only [Act.put, List.setIfInBounds_toArray, List.set_cons_zero, List.set_cons_succ])
  refine wpAnyH_take (i := 13) (oi := _) (v := .bool ok) rfl (by kernel_rfl) (by kernel_rfl) (by kernel_rfl) (fun _ _ _ h => h) (Or.inl ⟨by kernel_rfl, fun W hSw => by ((try dsimp only at hSw); go_simp; try (with_reducible rfl))⟩) hcur ?_
  (try simp only [Act.put, List.setIfInBounds_toArray, List.set_cons_zero, List.set_cons_succ])
  refine wpAnyH_take (i := 14) (oi := _) (v := .bool true) rfl (by kernel_rfl) (by kernel_rfl) (by kernel_rfl) (fun _ _ _ h => h) (Or.inl ⟨by kernel_rfl, fun W hSw => by ((try dsimp only at hSw); go_simp; try (with_reducible rfl))⟩) hcur ?_
  (try simp only [Act.put, List.setIfInBounds_toArray, List.set_cons_zero, List.set_cons_succ])
  refine wpAnyH_take (i := 15) (oi := _) (v := .bool true) rfl (by kernel_rfl) (by kernel_rfl) (by kernel_rfl) (fun _ _ _ h => h) (Or.inl ⟨by kernel_rfl, fun W hSw => by ((try dsimp only at hSw); go_simp; try (with_reducible rfl))⟩) hcur ?_
  (try simp only [Act.put, List.setIfInBounds_toArray, List.set_cons_zero, List.set_cons_succ])
  refine wpAnyH_take (i := 16) (oi := _) (v := .bool true) rfl (by kernel_rfl) (by kernel_rfl) (by kernel_rfl) (fun _ _ _ h => h) (Or.inl ⟨by kernel_rfl, fun W hSw => by ((try dsimp only at hSw); go_simp; try (with_reducible rfl))⟩) hcur ?_
  (try simp only [Act.put, List.setIfInBounds_toArray, List.set_cons_zero, List.set_cons_succ])
  refine wpAnyH_ready (rs := [17]) (by kernel_rfl) (by simp) ?_
  refine AllReadyH.cons (o := _) rfl (fun K hK => ?_) AllReadyH.nil
  go_simp; (with_reducible refine (awake02_any _ (HT.out.below (bthen hbt hcur))).mono ?_); rintro e wn ⟨vn, rfl, rfl, hb⟩; replace F := F.below hb; replace hfr20 : ∀ k ∈ addrBlock A20, k < _ := (fun k hk => Nat.lt_of_lt_of_le (hfr20 k hk) hb.size); replace hcur := bthen hcur hb; go_wp2_with fail
  refine hK.out _ _ hcur (fun hHeld => ?_)
  clear hK K hHeld
  (try simp only [Act.put, List.setIfInBounds_toArray, List.set_cons_zero, List.set_cons_succ])
  refine wpAnyH_take (i := 18) (oi := _) (v := .bool true) rfl (by kernel_rfl) (by kernel_rfl) (by kernel_rfl) (fun _ _ _ h => h) (Or.inl ⟨by kernel_rfl, fun W hSw => by ((try dsimp only at hSw); go_simp; try (with_reducible rfl))⟩) hcur ?_
  (try simp only [Act.put, List.setIfInBounds_toArray, List.set_cons_zero, List.set_cons_succ])
  refine wpAnyH_ready (rs := [19]) (by kernel_rfl) (by simp) ?_
  refine AllReadyH.cons (o := _) rfl (fun K hK => ?_) AllReadyH.nil
  go_simp
  refine hK.out _ _ hcur (fun hHeld => ?_)
  clear hK K hHeld
  (try simp only [Act.put, List.setIfInBounds_toArray, List.set_cons_zero, List.set_cons_succ])
  refine wpAnyH_done (by kernel_rfl) ?_ _
  refine NoPanic.normal ?_
  obtain ⟨rfl⟩ := hQ7
  (go_wp2_with fail)
  go_ret
  exact ⟨_, rfl, rfl, bthen hbt hcur⟩
end Go.Proofs.YtigoofeodbbbhaaDoor
