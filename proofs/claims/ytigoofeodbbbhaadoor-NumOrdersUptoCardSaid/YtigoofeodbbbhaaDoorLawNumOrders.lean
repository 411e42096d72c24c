/- NumOrders. -/
import Derived.Test.YtigoofeodbbbhaaDoorParseN
namespace Go.Proofs.YtigoofeodbbbhaaDoor
open Go.RowKit Go.Proofs.YtigoofeodbbbhaaDoorL Go.Proofs.YtigoofeodbbbhaaDoorM
set_option linter.unusedVariables false
set_option linter.unusedSimpArgs false
set_option maxRecDepth 16000 in
set_option maxHeartbeats 16000000 in
theorem numOrders_any (x y u : LN) (w : World) (htab : Tab w) (hx : LimN w x) (hy : LimN w y) (hu : LimN w u) (hxy : x.mag.length + y.mag.length + u.mag.length ≤ 1048576) :
    Calls Tryd.prog 14 #[.agg (encN x).toArray, .agg (encN y).toArray, .agg (encN u).toArray] w (Gives w fun r _ => r = .bool true) := by
  obtain ⟨n1, A1, c1, l1⟩ := x
  obtain ⟨n2, A2, c2, l2⟩ := y
  obtain ⟨n3, A3, c3, l3⟩ := u
  simp only [encN]
  replace hxy : l1.length + l2.length + l3.length ≤ 1048576 := hxy
  obtain ⟨k1, z1, e1, o1⟩ := open_num hx
  obtain ⟨k2, z2, e2, o2⟩ := open_num hy
  obtain ⟨k3, z3, e3, o3⟩ := open_num hu
  have F0 := (((Fs.nil w).cons o1).cons o2).cons o3
  rw [e1, e2, e3] at hxy ⊢
  have HT := As.mk htab
  clear htab hx hy hu e1 o1 e2 o2 e3 o3
  have Hsm := As.mk (F0.out ⟨n1, A1, k1, c1, z1, k1, false⟩ (by simp)).sm
  go_enter Tryd.func14, Tryd.ntmps14
  go_wp2_with (first
    | ((with_reducible refine g_dst 3 ?_); go_must (refine ev_box 3 rfl (cs := [.bool n1, .slice A1 k1 c1]) (by rfl) ?_); intro g3 wb hb3 B3 hg3; have hbt := hb3)
    | ((with_reducible refine g_dst 4 ?_); go_must (refine ev_box 4 rfl (cs := [.bool n2, .slice A2 k2 c2]) (by rfl) ?_); intro g4 wb hb4 B4 hg4; replace B3 := B3.below hb4; replace hbt := bthen hbt hb4)
    | ((with_reducible refine g_dst 5 ?_); go_must (refine ev_box 5 rfl (cs := [.bool n3, .slice A3 k3 c3]) (by rfl) ?_); intro g5 wb hb5 B5 hg5; replace B3 := B3.below hb5; replace B4 := B4.below hb5; replace hbt := bthen hbt hb5))
  replace F0 := F0.below hbt
  clear hg3 hb3 hg4 hb4 hg5 hb5
  go_cut [42] (fun s42 wx => ∃ q42 : Nat, q42 = 0 ∧ s42 = .bool false ∧ Below wb.heap.size wb wx)
  case first =>
    rcases Int.lt_trichotomy z1 z2 with hc | hc | hc
    · have HC1 : As (cmpZ z1 z2 = -1) := ⟨by rw [cmpZ, if_pos (by omega)]⟩
      have HC2 : As (cmpZ z2 z1 = 1) := ⟨by rw [cmpZ, if_neg (by omega), if_neg (by omega)]⟩
      have HC3 : As (cmpZ (z1 + z3) (z2 + z3) = -1) := ⟨by rw [cmpZ, if_pos (by omega)]⟩
      clear hc
      have hw1 : IntKind.i64.wrap (1) = 1 := IntWalk.i64_in _ (by omega)
      have hw0 : IntKind.i64.wrap (0) = 0 := IntWalk.i64_in _ (by omega)
      have hwm : IntKind.i64.wrap (-1) = -1 := IntWalk.i64_in _ (by omega)
      have hcur := (Below.refl wb.heap.size wb).drew
      have F := F0.below hcur
      refine wp_gen2 (fun Q7 hQ7 => ?_)
      refine wp_region_held_drew (S := fun W => Below wb.heap.size wb W) (by kernel_rfl) hcur (fun hHeld => ?_)
      clear hHeld
      refine wpAnyH_take (i := 0) (oi := _) (v := .agg #[.bool n1, .slice A1 k1 c1]) rfl (by kernel_rfl) (by kernel_rfl) (by kernel_rfl) (fun _ _ _ h => h) (Or.inl ⟨by kernel_rfl, fun W hSw => by have Cb := (B3.below hSw).cells; ((try dsimp only at hSw); go_simp; try (with_reducible rfl))⟩) hcur ?_
      (try simp (config := {maxSteps := 2000000}) only [Act.put, List.setIfInBounds_toArray, List.set_cons_zero, List.set_cons_succ, List.getElem_toArray, List.getElem_cons_zero, List.getElem_cons_succ])
      refine wpAnyH_take (i := 2) (oi := _) (v := .agg #[.bool n2, .slice A2 k2 c2]) rfl (by kernel_rfl) (by kernel_rfl) (by kernel_rfl) (fun _ _ _ h => h) (Or.inl ⟨by kernel_rfl, fun W hSw => by have Cb := (B4.below hSw).cells; ((try dsimp only at hSw); go_simp; try (with_reducible rfl))⟩) hcur ?_
      (try simp (config := {maxSteps := 2000000}) only [Act.put, List.setIfInBounds_toArray, List.set_cons_zero, List.set_cons_succ, List.getElem_toArray, List.getElem_cons_zero, List.getElem_cons_succ])
      refine wpAnyH_take (i := 5) (oi := _) (v := .agg #[.bool n2, .slice A2 k2 c2]) rfl (by kernel_rfl) (by kernel_rfl) (by kernel_rfl) (fun _ _ _ h => h) (Or.inl ⟨by kernel_rfl, fun W hSw => by have Cb := (B4.below hSw).cells; ((try dsimp only at hSw); go_simp; try (with_reducible rfl))⟩) hcur ?_
      (try simp (config := {maxSteps := 2000000}) only [Act.put, List.setIfInBounds_toArray, List.set_cons_zero, List.set_cons_succ, List.getElem_toArray, List.getElem_cons_zero, List.getElem_cons_succ])
      refine wpAnyH_take (i := 7) (oi := _) (v := .agg #[.bool n1, .slice A1 k1 c1]) rfl (by kernel_rfl) (by kernel_rfl) (by kernel_rfl) (fun _ _ _ h => h) (Or.inl ⟨by kernel_rfl, fun W hSw => by have Cb := (B3.below hSw).cells; ((try dsimp only at hSw); go_simp; try (with_reducible rfl))⟩) hcur ?_
      (try simp (config := {maxSteps := 2000000}) only [Act.put, List.setIfInBounds_toArray, List.set_cons_zero, List.set_cons_succ, List.getElem_toArray, List.getElem_cons_zero, List.getElem_cons_succ])
      refine wpAnyH_ready (rs := [1]) (by kernel_rfl) (by simp) ?_
      refine AllReadyH.cons (o := _) rfl (fun K hK => ?_) AllReadyH.nil
      go_simp; (with_reducible refine (cF F (by repeat (first | exact List.mem_cons_self .. | apply List.mem_cons_of_mem))).mono ?_); rintro e wn ⟨vn, rfl, ⟨b11, A11, n11, c11, rfl, o, hf⟩, hb⟩; replace F := (F.below hb).cons o; have hfr11 : ∀ k ∈ addrBlock A11, k < _ := (fun k hk => (hf k hk).2); clear hf; replace hcur := bthen hcur hb; go_wp2_with fail
      refine hK.out _ _ hcur (fun hHeld => ?_)
      clear hK K hHeld
      (try simp (config := {maxSteps := 2000000}) only [Act.put, List.setIfInBounds_toArray, List.set_cons_zero, List.set_cons_succ, List.getElem_toArray, List.getElem_cons_zero, List.getElem_cons_succ])
      refine wpAnyH_ready (rs := [3]) (by kernel_rfl) (by simp) ?_
      refine AllReadyH.cons (o := _) rfl (fun K hK => ?_) AllReadyH.nil
      go_simp; (with_reducible refine (cF F (by repeat (first | exact List.mem_cons_self .. | apply List.mem_cons_of_mem))).mono ?_); rintro e wn ⟨vn, rfl, ⟨b13, A13, n13, c13, rfl, o, hf⟩, hb⟩; replace F := (F.below hb).cons o; have hfr13 : ∀ k ∈ addrBlock A13, k < _ := (fun k hk => (hf k hk).2); clear hf; replace hfr11 : ∀ k ∈ addrBlock A11, k < _ := (fun k hk => Nat.lt_of_lt_of_le (hfr11 k hk) hb.size); replace hcur := bthen hcur hb; go_wp2_with fail
      refine hK.out _ _ hcur (fun hHeld => ?_)
      clear hK K hHeld
      (try simp (config := {maxSteps := 2000000}) only [Act.put, List.setIfInBounds_toArray, List.set_cons_zero, List.set_cons_succ, List.getElem_toArray, List.getElem_cons_zero, List.getElem_cons_succ])
      refine wpAnyH_ready (rs := [4]) (by kernel_rfl) (by simp) ?_
      refine AllReadyH.cons (o := _) rfl (fun K hK => ?_) AllReadyH.nil
      go_simp; (with_reducible refine (cmpF F (by repeat (first | exact List.mem_cons_self .. | apply List.mem_cons_of_mem)) (by repeat (first | exact List.mem_cons_self .. | apply List.mem_cons_of_mem)) (by omega) (-1) HC1.out).mono ?_); rintro e wn ⟨vn, rfl, rfl, hb⟩; replace F := F.below hb; replace hfr11 : ∀ k ∈ addrBlock A11, k < _ := (fun k hk => Nat.lt_of_lt_of_le (hfr11 k hk) hb.size); replace hfr13 : ∀ k ∈ addrBlock A13, k < _ := (fun k hk => Nat.lt_of_lt_of_le (hfr13 k hk) hb.size); replace hcur := bthen hcur hb; go_wp2_with fail
      refine hK.out _ _ hcur (fun hHeld => ?_)
      clear hK K hHeld
      (try simp (config := {maxSteps := 2000000}) only [Act.put, List.setIfInBounds_toArray, List.set_cons_zero, List.set_cons_succ, List.getElem_toArray, List.getElem_cons_zero, List.getElem_cons_succ])
      refine wpAnyH_ready (rs := [6]) (by kernel_rfl) (by simp) ?_
      refine AllReadyH.cons (o := _) rfl (fun K hK => ?_) AllReadyH.nil
      go_simp; (with_reducible refine (cF F (by repeat (first | exact List.mem_cons_self .. | apply List.mem_cons_of_mem))).mono ?_); rintro e wn ⟨vn, rfl, ⟨b16, A16, n16, c16, rfl, o, hf⟩, hb⟩; replace F := (F.below hb).cons o; have hfr16 : ∀ k ∈ addrBlock A16, k < _ := (fun k hk => (hf k hk).2); clear hf; replace hfr11 : ∀ k ∈ addrBlock A11, k < _ := (fun k hk => Nat.lt_of_lt_of_le (hfr11 k hk) hb.size); replace hfr13 : ∀ k ∈ addrBlock A13, k < _ := (fun k hk => Nat.lt_of_lt_of_le (hfr13 k hk) hb.size); replace hcur := bthen hcur hb; go_wp2_with fail
      refine hK.out _ _ hcur (fun hHeld => ?_)
      clear hK K hHeld
      (try simp (config := {maxSteps := 2000000}) only [Act.put, List.setIfInBounds_toArray, List.set_cons_zero, List.set_cons_succ, List.getElem_toArray, List.getElem_cons_zero, List.getElem_cons_succ])
      refine wpAnyH_ready (rs := [8]) (by kernel_rfl) (by simp) ?_
      refine AllReadyH.cons (o := _) rfl (fun K hK => ?_) AllReadyH.nil
      go_simp; (with_reducible refine (cF F (by repeat (first | exact List.mem_cons_self .. | apply List.mem_cons_of_mem))).mono ?_); rintro e wn ⟨vn, rfl, ⟨b18, A18, n18, c18, rfl, o, hf⟩, hb⟩; replace F := (F.below hb).cons o; have hfr18 : ∀ k ∈ addrBlock A18, k < _ := (fun k hk => (hf k hk).2); clear hf; replace hfr11 : ∀ k ∈ addrBlock A11, k < _ := (fun k hk => Nat.lt_of_lt_of_le (hfr11 k hk) hb.size); replace hfr13 : ∀ k ∈ addrBlock A13, k < _ := (fun k hk => Nat.lt_of_lt_of_le (hfr13 k hk) hb.size); replace hfr16 : ∀ k ∈ addrBlock A16, k < _ := (fun k hk => Nat.lt_of_lt_of_le (hfr16 k hk) hb.size); replace hcur := bthen hcur hb; go_wp2_with fail
      refine hK.out _ _ hcur (fun hHeld => ?_)
      clear hK K hHeld
      (try simp (config := {maxSteps := 2000000}) only [Act.put, List.setIfInBounds_toArray, List.set_cons_zero, List.set_cons_succ, List.getElem_toArray, List.getElem_cons_zero, List.getElem_cons_succ])
      refine wpAnyH_ready (rs := [9]) (by kernel_rfl) (by simp) ?_
      refine AllReadyH.cons (o := _) rfl (fun K hK => ?_) AllReadyH.nil
      go_simp; (with_reducible refine (cmpF F (by repeat (first | exact List.mem_cons_self .. | apply List.mem_cons_of_mem)) (by repeat (first | exact List.mem_cons_self .. | apply List.mem_cons_of_mem)) (by omega) (1) HC2.out).mono ?_); rintro e wn ⟨vn, rfl, rfl, hb⟩; replace F := F.below hb; replace hfr11 : ∀ k ∈ addrBlock A11, k < _ := (fun k hk => Nat.lt_of_lt_of_le (hfr11 k hk) hb.size); replace hfr13 : ∀ k ∈ addrBlock A13, k < _ := (fun k hk => Nat.lt_of_lt_of_le (hfr13 k hk) hb.size); replace hfr16 : ∀ k ∈ addrBlock A16, k < _ := (fun k hk => Nat.lt_of_lt_of_le (hfr16 k hk) hb.size); replace hfr18 : ∀ k ∈ addrBlock A18, k < _ := (fun k hk => Nat.lt_of_lt_of_le (hfr18 k hk) hb.size); replace hcur := bthen hcur hb; go_wp2_with fail
      refine hK.out _ _ hcur (fun hHeld => ?_)
      clear hK K hHeld
      (try simp (config := {maxSteps := 2000000}) only [Act.put, List.setIfInBounds_toArray, List.set_cons_zero, List.set_cons_succ, List.getElem_toArray, List.getElem_cons_zero, List.getElem_cons_succ])
      refine wpAnyH_take (i := 10) (oi := _) (v := .int .i64 (-1)) rfl (by kernel_rfl) (by kernel_rfl) (by kernel_rfl) (fun _ _ _ h => h) (Or.inl ⟨by kernel_rfl, fun W hSw => by ((try dsimp only at hSw); go_simp; try (with_reducible rfl); all_goals first | exact IntWalk.i64_in _ (by omega) | rfl | decide)⟩) hcur ?_
      (try simp (config := {maxSteps := 2000000}) only [Act.put, List.setIfInBounds_toArray, List.set_cons_zero, List.set_cons_succ, List.getElem_toArray, List.getElem_cons_zero, List.getElem_cons_succ])
      refine wpAnyH_take (i := 11) (oi := _) (v := .bool false) rfl (by kernel_rfl) (by kernel_rfl) (by kernel_rfl) (fun _ _ _ h => h) (Or.inl ⟨by kernel_rfl, fun W hSw => by ((try dsimp only at hSw); go_simp; try (with_reducible rfl))⟩) hcur ?_
      (try simp (config := {maxSteps := 2000000}) only [Act.put, List.setIfInBounds_toArray, List.set_cons_zero, List.set_cons_succ, List.getElem_toArray, List.getElem_cons_zero, List.getElem_cons_succ])
      refine wpAnyH_take (i := 12) (oi := _) (v := .bool false) rfl (by kernel_rfl) (by kernel_rfl) (by kernel_rfl) (fun _ _ _ h => h) (Or.inl ⟨by kernel_rfl, fun W hSw => by ((try dsimp only at hSw); go_simp; try (with_reducible rfl))⟩) hcur ?_
      (try simp (config := {maxSteps := 2000000}) only [Act.put, List.setIfInBounds_toArray, List.set_cons_zero, List.set_cons_succ, List.getElem_toArray, List.getElem_cons_zero, List.getElem_cons_succ])
      refine wpAnyH_take (i := 13) (oi := _) (v := .agg #[.bool n1, .slice A1 k1 c1]) rfl (by kernel_rfl) (by kernel_rfl) (by kernel_rfl) (fun _ _ _ h => h) (Or.inl ⟨by kernel_rfl, fun W hSw => by have Cb := (B3.below hSw).cells; ((try dsimp only at hSw); go_simp; try (with_reducible rfl))⟩) hcur ?_
      (try simp (config := {maxSteps := 2000000}) only [Act.put, List.setIfInBounds_toArray, List.set_cons_zero, List.set_cons_succ, List.getElem_toArray, List.getElem_cons_zero, List.getElem_cons_succ])
      refine wpAnyH_take (i := 15) (oi := _) (v := .agg #[.bool n3, .slice A3 k3 c3]) rfl (by kernel_rfl) (by kernel_rfl) (by kernel_rfl) (fun _ _ _ h => h) (Or.inl ⟨by kernel_rfl, fun W hSw => by have Cb := (B5.below hSw).cells; ((try dsimp only at hSw); go_simp; try (with_reducible rfl))⟩) hcur ?_
      (try simp (config := {maxSteps := 2000000}) only [Act.put, List.setIfInBounds_toArray, List.set_cons_zero, List.set_cons_succ, List.getElem_toArray, List.getElem_cons_zero, List.getElem_cons_succ])
      refine wpAnyH_take (i := 19) (oi := _) (v := .agg #[.bool n2, .slice A2 k2 c2]) rfl (by kernel_rfl) (by kernel_rfl) (by kernel_rfl) (fun _ _ _ h => h) (Or.inl ⟨by kernel_rfl, fun W hSw => by have Cb := (B4.below hSw).cells; ((try dsimp only at hSw); go_simp; try (with_reducible rfl))⟩) hcur ?_
      (try simp (config := {maxSteps := 2000000}) only [Act.put, List.setIfInBounds_toArray, List.set_cons_zero, List.set_cons_succ, List.getElem_toArray, List.getElem_cons_zero, List.getElem_cons_succ])
      refine wpAnyH_take (i := 21) (oi := _) (v := .agg #[.bool n3, .slice A3 k3 c3]) rfl (by kernel_rfl) (by kernel_rfl) (by kernel_rfl) (fun _ _ _ h => h) (Or.inl ⟨by kernel_rfl, fun W hSw => by have Cb := (B5.below hSw).cells; ((try dsimp only at hSw); go_simp; try (with_reducible rfl))⟩) hcur ?_
      (try simp (config := {maxSteps := 2000000}) only [Act.put, List.setIfInBounds_toArray, List.set_cons_zero, List.set_cons_succ, List.getElem_toArray, List.getElem_cons_zero, List.getElem_cons_succ])
      refine wpAnyH_take (i := 26) (oi := _) (v := .agg #[.bool n1, .slice A1 k1 c1]) rfl (by kernel_rfl) (by kernel_rfl) (by kernel_rfl) (fun _ _ _ h => h) (Or.inl ⟨by kernel_rfl, fun W hSw => by have Cb := (B3.below hSw).cells; ((try dsimp only at hSw); go_simp; try (with_reducible rfl))⟩) hcur ?_
      (try simp (config := {maxSteps := 2000000}) only [Act.put, List.setIfInBounds_toArray, List.set_cons_zero, List.set_cons_succ, List.getElem_toArray, List.getElem_cons_zero, List.getElem_cons_succ])
      refine wpAnyH_take (i := 28) (oi := _) (v := .agg #[.bool n2, .slice A2 k2 c2]) rfl (by kernel_rfl) (by kernel_rfl) (by kernel_rfl) (fun _ _ _ h => h) (Or.inl ⟨by kernel_rfl, fun W hSw => by have Cb := (B4.below hSw).cells; ((try dsimp only at hSw); go_simp; try (with_reducible rfl))⟩) hcur ?_
      (try simp (config := {maxSteps := 2000000}) only [Act.put, List.setIfInBounds_toArray, List.set_cons_zero, List.set_cons_succ, List.getElem_toArray, List.getElem_cons_zero, List.getElem_cons_succ])
      refine wpAnyH_ready (rs := [14]) (by kernel_rfl) (by simp) ?_
      refine AllReadyH.cons (o := _) rfl (fun K hK => ?_) AllReadyH.nil
      go_simp; (with_reducible refine (cF F (by repeat (first | exact List.mem_cons_self .. | apply List.mem_cons_of_mem))).mono ?_); rintro e wn ⟨vn, rfl, ⟨b24, A24, n24, c24, rfl, o, hf⟩, hb⟩; replace F := (F.below hb).cons o; have hfr24 : ∀ k ∈ addrBlock A24, k < _ := (fun k hk => (hf k hk).2); clear hf; replace hfr11 : ∀ k ∈ addrBlock A11, k < _ := (fun k hk => Nat.lt_of_lt_of_le (hfr11 k hk) hb.size); replace hfr13 : ∀ k ∈ addrBlock A13, k < _ := (fun k hk => Nat.lt_of_lt_of_le (hfr13 k hk) hb.size); replace hfr16 : ∀ k ∈ addrBlock A16, k < _ := (fun k hk => Nat.lt_of_lt_of_le (hfr16 k hk) hb.size); replace hfr18 : ∀ k ∈ addrBlock A18, k < _ := (fun k hk => Nat.lt_of_lt_of_le (hfr18 k hk) hb.size); replace hcur := bthen hcur hb; go_wp2_with fail
      refine hK.out _ _ hcur (fun hHeld => ?_)
      clear hK K hHeld
      (try simp (config := {maxSteps := 2000000}) only [Act.put, List.setIfInBounds_toArray, List.set_cons_zero, List.set_cons_succ, List.getElem_toArray, List.getElem_cons_zero, List.getElem_cons_succ])
      refine wpAnyH_ready (rs := [16]) (by kernel_rfl) (by simp) ?_
      refine AllReadyH.cons (o := _) rfl (fun K hK => ?_) AllReadyH.nil
      go_simp; (with_reducible refine (cF F (by repeat (first | exact List.mem_cons_self .. | apply List.mem_cons_of_mem))).mono ?_); rintro e wn ⟨vn, rfl, ⟨b26, A26, n26, c26, rfl, o, hf⟩, hb⟩; replace F := (F.below hb).cons o; have hfr26 : ∀ k ∈ addrBlock A26, k < _ := (fun k hk => (hf k hk).2); clear hf; replace hfr11 : ∀ k ∈ addrBlock A11, k < _ := (fun k hk => Nat.lt_of_lt_of_le (hfr11 k hk) hb.size); replace hfr13 : ∀ k ∈ addrBlock A13, k < _ := (fun k hk => Nat.lt_of_lt_of_le (hfr13 k hk) hb.size); replace hfr16 : ∀ k ∈ addrBlock A16, k < _ := (fun k hk => Nat.lt_of_lt_of_le (hfr16 k hk) hb.size); replace hfr18 : ∀ k ∈ addrBlock A18, k < _ := (fun k hk => Nat.lt_of_lt_of_le (hfr18 k hk) hb.size); replace hfr24 : ∀ k ∈ addrBlock A24, k < _ := (fun k hk => Nat.lt_of_lt_of_le (hfr24 k hk) hb.size); replace hcur := bthen hcur hb; go_wp2_with fail
      refine hK.out _ _ hcur (fun hHeld => ?_)
      clear hK K hHeld
      (try simp (config := {maxSteps := 2000000}) only [Act.put, List.setIfInBounds_toArray, List.set_cons_zero, List.set_cons_succ, List.getElem_toArray, List.getElem_cons_zero, List.getElem_cons_succ])
      refine wpAnyH_ready (rs := [17]) (by kernel_rfl) (by simp) ?_
      refine AllReadyH.cons (o := _) rfl (fun K hK => ?_) AllReadyH.nil
      refine st_lit (v := fun g => .slice (some ⟨g, 0, none⟩) 2 2) 27 rfl (cs := [.bool b24, .slice A24 n24 c24, .bool b26, .slice A26 n26 c26]) (t := 26) (by go_simp; try rfl) ?_; intro g27 wn hb Bl27 hg27; replace F := F.below hb; replace hfr11 : ∀ k ∈ addrBlock A11, k < _ := (fun k hk => Nat.lt_of_lt_of_le (hfr11 k hk) hb.size); replace hfr13 : ∀ k ∈ addrBlock A13, k < _ := (fun k hk => Nat.lt_of_lt_of_le (hfr13 k hk) hb.size); replace hfr16 : ∀ k ∈ addrBlock A16, k < _ := (fun k hk => Nat.lt_of_lt_of_le (hfr16 k hk) hb.size); replace hfr18 : ∀ k ∈ addrBlock A18, k < _ := (fun k hk => Nat.lt_of_lt_of_le (hfr18 k hk) hb.size); replace hfr24 : ∀ k ∈ addrBlock A24, k < _ := (fun k hk => Nat.lt_of_lt_of_le (hfr24 k hk) hb.size); replace hfr26 : ∀ k ∈ addrBlock A26, k < _ := (fun k hk => Nat.lt_of_lt_of_le (hfr26 k hk) hb.size); replace hcur := bthen hcur hb
      refine hK.out _ _ hcur (fun hHeld => ?_)
      clear hK K hHeld
      (try simp (config := {maxSteps := 2000000}) only [Act.put, List.setIfInBounds_toArray, List.set_cons_zero, List.set_cons_succ, List.getElem_toArray, List.getElem_cons_zero, List.getElem_cons_succ])
      refine wpAnyH_ready (rs := [18]) (by kernel_rfl) (by simp) ?_
      refine AllReadyH.cons (o := _) rfl (fun K hK => ?_) AllReadyH.nil
      go_simp; (with_reducible refine (addF F Bl27 (by repeat (first | exact List.mem_cons_self .. | apply List.mem_cons_of_mem)) (by repeat (first | exact List.mem_cons_self .. | apply List.mem_cons_of_mem)) (by omega)).mono ?_); rintro e wn ⟨vn, rfl, ⟨b28, A28, n28, c28, rfl, o, hf⟩, hb⟩; replace F := (F.below hb).cons o; have hfr28 : ∀ k ∈ addrBlock A28, k < _ := (fun k hk => (hf k hk).2); clear hf; replace Bl27 := Bl27.below hb; replace hfr11 : ∀ k ∈ addrBlock A11, k < _ := (fun k hk => Nat.lt_of_lt_of_le (hfr11 k hk) hb.size); replace hfr13 : ∀ k ∈ addrBlock A13, k < _ := (fun k hk => Nat.lt_of_lt_of_le (hfr13 k hk) hb.size); replace hfr16 : ∀ k ∈ addrBlock A16, k < _ := (fun k hk => Nat.lt_of_lt_of_le (hfr16 k hk) hb.size); replace hfr18 : ∀ k ∈ addrBlock A18, k < _ := (fun k hk => Nat.lt_of_lt_of_le (hfr18 k hk) hb.size); replace hfr24 : ∀ k ∈ addrBlock A24, k < _ := (fun k hk => Nat.lt_of_lt_of_le (hfr24 k hk) hb.size); replace hfr26 : ∀ k ∈ addrBlock A26, k < _ := (fun k hk => Nat.lt_of_lt_of_le (hfr26 k hk) hb.size); replace hcur := bthen hcur hb; go_wp2_with fail
      refine hK.out _ _ hcur (fun hHeld => ?_)
      clear hK K hHeld
      (try simp (config := {maxSteps := 2000000}) only [Act.put, List.setIfInBounds_toArray, List.set_cons_zero, List.set_cons_succ, List.getElem_toArray, List.getElem_cons_zero, List.getElem_cons_succ])
      refine wpAnyH_ready (rs := [20]) (by kernel_rfl) (by simp) ?_
      refine AllReadyH.cons (o := _) rfl (fun K hK => ?_) AllReadyH.nil
      go_simp; (with_reducible refine (cF F (by repeat (first | exact List.mem_cons_self .. | apply List.mem_cons_of_mem))).mono ?_); rintro e wn ⟨vn, rfl, ⟨b30, A30, n30, c30, rfl, o, hf⟩, hb⟩; replace F := (F.below hb).cons o; have hfr30 : ∀ k ∈ addrBlock A30, k < _ := (fun k hk => (hf k hk).2); clear hf; replace hfr11 : ∀ k ∈ addrBlock A11, k < _ := (fun k hk => Nat.lt_of_lt_of_le (hfr11 k hk) hb.size); replace hfr13 : ∀ k ∈ addrBlock A13, k < _ := (fun k hk => Nat.lt_of_lt_of_le (hfr13 k hk) hb.size); replace hfr16 : ∀ k ∈ addrBlock A16, k < _ := (fun k hk => Nat.lt_of_lt_of_le (hfr16 k hk) hb.size); replace hfr18 : ∀ k ∈ addrBlock A18, k < _ := (fun k hk => Nat.lt_of_lt_of_le (hfr18 k hk) hb.size); replace hfr24 : ∀ k ∈ addrBlock A24, k < _ := (fun k hk => Nat.lt_of_lt_of_le (hfr24 k hk) hb.size); replace hfr26 : ∀ k ∈ addrBlock A26, k < _ := (fun k hk => Nat.lt_of_lt_of_le (hfr26 k hk) hb.size); replace hfr28 : ∀ k ∈ addrBlock A28, k < _ := (fun k hk => Nat.lt_of_lt_of_le (hfr28 k hk) hb.size); replace hcur := bthen hcur hb; go_wp2_with fail
      refine hK.out _ _ hcur (fun hHeld => ?_)
      clear hK K hHeld
      (try simp (config := {maxSteps := 2000000}) only [Act.put, List.setIfInBounds_toArray, List.set_cons_zero, List.set_cons_succ, List.getElem_toArray, List.getElem_cons_zero, List.getElem_cons_succ])
      refine wpAnyH_ready (rs := [22]) (by kernel_rfl) (by simp) ?_
      refine AllReadyH.cons (o := _) rfl (fun K hK => ?_) AllReadyH.nil
      go_simp; (with_reducible refine (cF F (by repeat (first | exact List.mem_cons_self .. | apply List.mem_cons_of_mem))).mono ?_); rintro e wn ⟨vn, rfl, ⟨b32, A32, n32, c32, rfl, o, hf⟩, hb⟩; replace F := (F.below hb).cons o; have hfr32 : ∀ k ∈ addrBlock A32, k < _ := (fun k hk => (hf k hk).2); clear hf; replace hfr11 : ∀ k ∈ addrBlock A11, k < _ := (fun k hk => Nat.lt_of_lt_of_le (hfr11 k hk) hb.size); replace hfr13 : ∀ k ∈ addrBlock A13, k < _ := (fun k hk => Nat.lt_of_lt_of_le (hfr13 k hk) hb.size); replace hfr16 : ∀ k ∈ addrBlock A16, k < _ := (fun k hk => Nat.lt_of_lt_of_le (hfr16 k hk) hb.size); replace hfr18 : ∀ k ∈ addrBlock A18, k < _ := (fun k hk => Nat.lt_of_lt_of_le (hfr18 k hk) hb.size); replace hfr24 : ∀ k ∈ addrBlock A24, k < _ := (fun k hk => Nat.lt_of_lt_of_le (hfr24 k hk) hb.size); replace hfr26 : ∀ k ∈ addrBlock A26, k < _ := (fun k hk => Nat.lt_of_lt_of_le (hfr26 k hk) hb.size); replace hfr28 : ∀ k ∈ addrBlock A28, k < _ := (fun k hk => Nat.lt_of_lt_of_le (hfr28 k hk) hb.size); replace hfr30 : ∀ k ∈ addrBlock A30, k < _ := (fun k hk => Nat.lt_of_lt_of_le (hfr30 k hk) hb.size); replace hcur := bthen hcur hb; go_wp2_with fail
      refine hK.out _ _ hcur (fun hHeld => ?_)
      clear hK K hHeld
      (try simp (config := {maxSteps := 2000000}) only [Act.put, List.setIfInBounds_toArray, List.set_cons_zero, List.set_cons_succ, List.getElem_toArray, List.getElem_cons_zero, List.getElem_cons_succ])
      refine wpAnyH_ready (rs := [23]) (by kernel_rfl) (by simp) ?_
      refine AllReadyH.cons (o := _) rfl (fun K hK => ?_) AllReadyH.nil
      refine st_lit (v := fun g => .slice (some ⟨g, 0, none⟩) 2 2) 33 rfl (cs := [.bool b30, .slice A30 n30 c30, .bool b32, .slice A32 n32 c32]) (t := 26) (by go_simp; try rfl) ?_; intro g33 wn hb Bl33 hg33; replace F := F.below hb; replace hfr11 : ∀ k ∈ addrBlock A11, k < _ := (fun k hk => Nat.lt_of_lt_of_le (hfr11 k hk) hb.size); replace hfr13 : ∀ k ∈ addrBlock A13, k < _ := (fun k hk => Nat.lt_of_lt_of_le (hfr13 k hk) hb.size); replace hfr16 : ∀ k ∈ addrBlock A16, k < _ := (fun k hk => Nat.lt_of_lt_of_le (hfr16 k hk) hb.size); replace hfr18 : ∀ k ∈ addrBlock A18, k < _ := (fun k hk => Nat.lt_of_lt_of_le (hfr18 k hk) hb.size); replace hfr24 : ∀ k ∈ addrBlock A24, k < _ := (fun k hk => Nat.lt_of_lt_of_le (hfr24 k hk) hb.size); replace hfr26 : ∀ k ∈ addrBlock A26, k < _ := (fun k hk => Nat.lt_of_lt_of_le (hfr26 k hk) hb.size); replace hfr28 : ∀ k ∈ addrBlock A28, k < _ := (fun k hk => Nat.lt_of_lt_of_le (hfr28 k hk) hb.size); replace hfr30 : ∀ k ∈ addrBlock A30, k < _ := (fun k hk => Nat.lt_of_lt_of_le (hfr30 k hk) hb.size); replace hfr32 : ∀ k ∈ addrBlock A32, k < _ := (fun k hk => Nat.lt_of_lt_of_le (hfr32 k hk) hb.size); replace hcur := bthen hcur hb
      refine hK.out _ _ hcur (fun hHeld => ?_)
      clear hK K hHeld
      (try simp (config := {maxSteps := 2000000}) only [Act.put, List.setIfInBounds_toArray, List.set_cons_zero, List.set_cons_succ, List.getElem_toArray, List.getElem_cons_zero, List.getElem_cons_succ])
      refine wpAnyH_ready (rs := [24]) (by kernel_rfl) (by simp) ?_
      refine AllReadyH.cons (o := _) rfl (fun K hK => ?_) AllReadyH.nil
      go_simp; (with_reducible refine (addF F Bl33 (by repeat (first | exact List.mem_cons_self .. | apply List.mem_cons_of_mem)) (by repeat (first | exact List.mem_cons_self .. | apply List.mem_cons_of_mem)) (by omega)).mono ?_); rintro e wn ⟨vn, rfl, ⟨b34, A34, n34, c34, rfl, o, hf⟩, hb⟩; replace F := (F.below hb).cons o; have hfr34 : ∀ k ∈ addrBlock A34, k < _ := (fun k hk => (hf k hk).2); clear hf; replace Bl33 := Bl33.below hb; replace hfr11 : ∀ k ∈ addrBlock A11, k < _ := (fun k hk => Nat.lt_of_lt_of_le (hfr11 k hk) hb.size); replace hfr13 : ∀ k ∈ addrBlock A13, k < _ := (fun k hk => Nat.lt_of_lt_of_le (hfr13 k hk) hb.size); replace hfr16 : ∀ k ∈ addrBlock A16, k < _ := (fun k hk => Nat.lt_of_lt_of_le (hfr16 k hk) hb.size); replace hfr18 : ∀ k ∈ addrBlock A18, k < _ := (fun k hk => Nat.lt_of_lt_of_le (hfr18 k hk) hb.size); replace hfr24 : ∀ k ∈ addrBlock A24, k < _ := (fun k hk => Nat.lt_of_lt_of_le (hfr24 k hk) hb.size); replace hfr26 : ∀ k ∈ addrBlock A26, k < _ := (fun k hk => Nat.lt_of_lt_of_le (hfr26 k hk) hb.size); replace hfr28 : ∀ k ∈ addrBlock A28, k < _ := (fun k hk => Nat.lt_of_lt_of_le (hfr28 k hk) hb.size); replace hfr30 : ∀ k ∈ addrBlock A30, k < _ := (fun k hk => Nat.lt_of_lt_of_le (hfr30 k hk) hb.size); replace hfr32 : ∀ k ∈ addrBlock A32, k < _ := (fun k hk => Nat.lt_of_lt_of_le (hfr32 k hk) hb.size); replace hcur := bthen hcur hb; go_wp2_with fail
      refine hK.out _ _ hcur (fun hHeld => ?_)
      clear hK K hHeld
      (try simp (config := {maxSteps := 2000000}) only [Act.put, List.setIfInBounds_toArray, List.set_cons_zero, List.set_cons_succ, List.getElem_toArray, List.getElem_cons_zero, List.getElem_cons_succ])
      refine wpAnyH_ready (rs := [25]) (by kernel_rfl) (by simp) ?_
      refine AllReadyH.cons (o := _) rfl (fun K hK => ?_) AllReadyH.nil
      go_simp; (with_reducible refine (cmpF F (by repeat (first | exact List.mem_cons_self .. | apply List.mem_cons_of_mem)) (by repeat (first | exact List.mem_cons_self .. | apply List.mem_cons_of_mem)) (by omega) (-1) HC3.out).mono ?_); rintro e wn ⟨vn, rfl, rfl, hb⟩; replace F := F.below hb; replace hfr11 : ∀ k ∈ addrBlock A11, k < _ := (fun k hk => Nat.lt_of_lt_of_le (hfr11 k hk) hb.size); replace hfr13 : ∀ k ∈ addrBlock A13, k < _ := (fun k hk => Nat.lt_of_lt_of_le (hfr13 k hk) hb.size); replace hfr16 : ∀ k ∈ addrBlock A16, k < _ := (fun k hk => Nat.lt_of_lt_of_le (hfr16 k hk) hb.size); replace hfr18 : ∀ k ∈ addrBlock A18, k < _ := (fun k hk => Nat.lt_of_lt_of_le (hfr18 k hk) hb.size); replace hfr24 : ∀ k ∈ addrBlock A24, k < _ := (fun k hk => Nat.lt_of_lt_of_le (hfr24 k hk) hb.size); replace hfr26 : ∀ k ∈ addrBlock A26, k < _ := (fun k hk => Nat.lt_of_lt_of_le (hfr26 k hk) hb.size); replace hfr28 : ∀ k ∈ addrBlock A28, k < _ := (fun k hk => Nat.lt_of_lt_of_le (hfr28 k hk) hb.size); replace hfr30 : ∀ k ∈ addrBlock A30, k < _ := (fun k hk => Nat.lt_of_lt_of_le (hfr30 k hk) hb.size); replace hfr32 : ∀ k ∈ addrBlock A32, k < _ := (fun k hk => Nat.lt_of_lt_of_le (hfr32 k hk) hb.size); replace hfr34 : ∀ k ∈ addrBlock A34, k < _ := (fun k hk => Nat.lt_of_lt_of_le (hfr34 k hk) hb.size); replace hcur := bthen hcur hb; go_wp2_with fail
      refine hK.out _ _ hcur (fun hHeld => ?_)
      clear hK K hHeld
      (try simp (config := {maxSteps := 2000000}) only [Act.put, List.setIfInBounds_toArray, List.set_cons_zero, List.set_cons_succ, List.getElem_toArray, List.getElem_cons_zero, List.getElem_cons_succ])
      refine wpAnyH_ready (rs := [27]) (by kernel_rfl) (by simp) ?_
      refine AllReadyH.cons (o := _) rfl (fun K hK => ?_) AllReadyH.nil
      go_simp; (with_reducible refine (cF F (by repeat (first | exact List.mem_cons_self .. | apply List.mem_cons_of_mem))).mono ?_); rintro e wn ⟨vn, rfl, ⟨b37, A37, n37, c37, rfl, o, hf⟩, hb⟩; replace F := (F.below hb).cons o; have hfr37 : ∀ k ∈ addrBlock A37, k < _ := (fun k hk => (hf k hk).2); clear hf; replace hfr11 : ∀ k ∈ addrBlock A11, k < _ := (fun k hk => Nat.lt_of_lt_of_le (hfr11 k hk) hb.size); replace hfr13 : ∀ k ∈ addrBlock A13, k < _ := (fun k hk => Nat.lt_of_lt_of_le (hfr13 k hk) hb.size); replace hfr16 : ∀ k ∈ addrBlock A16, k < _ := (fun k hk => Nat.lt_of_lt_of_le (hfr16 k hk) hb.size); replace hfr18 : ∀ k ∈ addrBlock A18, k < _ := (fun k hk => Nat.lt_of_lt_of_le (hfr18 k hk) hb.size); replace hfr24 : ∀ k ∈ addrBlock A24, k < _ := (fun k hk => Nat.lt_of_lt_of_le (hfr24 k hk) hb.size); replace hfr26 : ∀ k ∈ addrBlock A26, k < _ := (fun k hk => Nat.lt_of_lt_of_le (hfr26 k hk) hb.size); replace hfr28 : ∀ k ∈ addrBlock A28, k < _ := (fun k hk => Nat.lt_of_lt_of_le (hfr28 k hk) hb.size); replace hfr30 : ∀ k ∈ addrBlock A30, k < _ := (fun k hk => Nat.lt_of_lt_of_le (hfr30 k hk) hb.size); replace hfr32 : ∀ k ∈ addrBlock A32, k < _ := (fun k hk => Nat.lt_of_lt_of_le (hfr32 k hk) hb.size); replace hfr34 : ∀ k ∈ addrBlock A34, k < _ := (fun k hk => Nat.lt_of_lt_of_le (hfr34 k hk) hb.size); replace hcur := bthen hcur hb; go_wp2_with fail
      refine hK.out _ _ hcur (fun hHeld => ?_)
      clear hK K hHeld
      (try simp (config := {maxSteps := 2000000}) only [Act.put, List.setIfInBounds_toArray, List.set_cons_zero, List.set_cons_succ, List.getElem_toArray, List.getElem_cons_zero, List.getElem_cons_succ])
      refine wpAnyH_ready (rs := [29]) (by kernel_rfl) (by simp) ?_
      refine AllReadyH.cons (o := _) rfl (fun K hK => ?_) AllReadyH.nil
      go_simp; (with_reducible refine (cF F (by repeat (first | exact List.mem_cons_self .. | apply List.mem_cons_of_mem))).mono ?_); rintro e wn ⟨vn, rfl, ⟨b39, A39, n39, c39, rfl, o, hf⟩, hb⟩; replace F := (F.below hb).cons o; have hfr39 : ∀ k ∈ addrBlock A39, k < _ := (fun k hk => (hf k hk).2); clear hf; replace hfr11 : ∀ k ∈ addrBlock A11, k < _ := (fun k hk => Nat.lt_of_lt_of_le (hfr11 k hk) hb.size); replace hfr13 : ∀ k ∈ addrBlock A13, k < _ := (fun k hk => Nat.lt_of_lt_of_le (hfr13 k hk) hb.size); replace hfr16 : ∀ k ∈ addrBlock A16, k < _ := (fun k hk => Nat.lt_of_lt_of_le (hfr16 k hk) hb.size); replace hfr18 : ∀ k ∈ addrBlock A18, k < _ := (fun k hk => Nat.lt_of_lt_of_le (hfr18 k hk) hb.size); replace hfr24 : ∀ k ∈ addrBlock A24, k < _ := (fun k hk => Nat.lt_of_lt_of_le (hfr24 k hk) hb.size); replace hfr26 : ∀ k ∈ addrBlock A26, k < _ := (fun k hk => Nat.lt_of_lt_of_le (hfr26 k hk) hb.size); replace hfr28 : ∀ k ∈ addrBlock A28, k < _ := (fun k hk => Nat.lt_of_lt_of_le (hfr28 k hk) hb.size); replace hfr30 : ∀ k ∈ addrBlock A30, k < _ := (fun k hk => Nat.lt_of_lt_of_le (hfr30 k hk) hb.size); replace hfr32 : ∀ k ∈ addrBlock A32, k < _ := (fun k hk => Nat.lt_of_lt_of_le (hfr32 k hk) hb.size); replace hfr34 : ∀ k ∈ addrBlock A34, k < _ := (fun k hk => Nat.lt_of_lt_of_le (hfr34 k hk) hb.size); replace hfr37 : ∀ k ∈ addrBlock A37, k < _ := (fun k hk => Nat.lt_of_lt_of_le (hfr37 k hk) hb.size); replace hcur := bthen hcur hb; go_wp2_with fail
      refine hK.out _ _ hcur (fun hHeld => ?_)
      clear hK K hHeld
      (try simp (config := {maxSteps := 2000000}) only [Act.put, List.setIfInBounds_toArray, List.set_cons_zero, List.set_cons_succ, List.getElem_toArray, List.getElem_cons_zero, List.getElem_cons_succ])
      refine wpAnyH_ready (rs := [30]) (by kernel_rfl) (by simp) ?_
      refine AllReadyH.cons (o := _) rfl (fun K hK => ?_) AllReadyH.nil
      go_simp; (with_reducible refine (cmpF F (by repeat (first | exact List.mem_cons_self .. | apply List.mem_cons_of_mem)) (by repeat (first | exact List.mem_cons_self .. | apply List.mem_cons_of_mem)) (by omega) (-1) HC1.out).mono ?_); rintro e wn ⟨vn, rfl, rfl, hb⟩; replace F := F.below hb; replace hfr11 : ∀ k ∈ addrBlock A11, k < _ := (fun k hk => Nat.lt_of_lt_of_le (hfr11 k hk) hb.size); replace hfr13 : ∀ k ∈ addrBlock A13, k < _ := (fun k hk => Nat.lt_of_lt_of_le (hfr13 k hk) hb.size); replace hfr16 : ∀ k ∈ addrBlock A16, k < _ := (fun k hk => Nat.lt_of_lt_of_le (hfr16 k hk) hb.size); replace hfr18 : ∀ k ∈ addrBlock A18, k < _ := (fun k hk => Nat.lt_of_lt_of_le (hfr18 k hk) hb.size); replace hfr24 : ∀ k ∈ addrBlock A24, k < _ := (fun k hk => Nat.lt_of_lt_of_le (hfr24 k hk) hb.size); replace hfr26 : ∀ k ∈ addrBlock A26, k < _ := (fun k hk => Nat.lt_of_lt_of_le (hfr26 k hk) hb.size); replace hfr28 : ∀ k ∈ addrBlock A28, k < _ := (fun k hk => Nat.lt_of_lt_of_le (hfr28 k hk) hb.size); replace hfr30 : ∀ k ∈ addrBlock A30, k < _ := (fun k hk => Nat.lt_of_lt_of_le (hfr30 k hk) hb.size); replace hfr32 : ∀ k ∈ addrBlock A32, k < _ := (fun k hk => Nat.lt_of_lt_of_le (hfr32 k hk) hb.size); replace hfr34 : ∀ k ∈ addrBlock A34, k < _ := (fun k hk => Nat.lt_of_lt_of_le (hfr34 k hk) hb.size); replace hfr37 : ∀ k ∈ addrBlock A37, k < _ := (fun k hk => Nat.lt_of_lt_of_le (hfr37 k hk) hb.size); replace hfr39 : ∀ k ∈ addrBlock A39, k < _ := (fun k hk => Nat.lt_of_lt_of_le (hfr39 k hk) hb.size); replace hcur := bthen hcur hb; go_wp2_with fail
      refine hK.out _ _ hcur (fun hHeld => ?_)
      clear hK K hHeld
      (try simp (config := {maxSteps := 2000000}) only [Act.put, List.setIfInBounds_toArray, List.set_cons_zero, List.set_cons_succ, List.getElem_toArray, List.getElem_cons_zero, List.getElem_cons_succ])
      refine wpAnyH_take (i := 31) (oi := _) (v := .bool false) rfl (by kernel_rfl) (by kernel_rfl) (by kernel_rfl) (fun _ _ _ h => h) (Or.inl ⟨by kernel_rfl, fun W hSw => by ((try dsimp only at hSw); go_simp; try (with_reducible rfl))⟩) hcur ?_
      (try simp (config := {maxSteps := 2000000}) only [Act.put, List.setIfInBounds_toArray, List.set_cons_zero, List.set_cons_succ, List.getElem_toArray, List.getElem_cons_zero, List.getElem_cons_succ])
      refine wpAnyH_take (i := 32) (oi := _) (v := .bool false) rfl (by kernel_rfl) (by kernel_rfl) (by kernel_rfl) (fun _ _ _ h => h) (Or.inl ⟨by kernel_rfl, fun W hSw => by ((try dsimp only at hSw); go_simp; try (with_reducible rfl))⟩) hcur ?_
      (try simp (config := {maxSteps := 2000000}) only [Act.put, List.setIfInBounds_toArray, List.set_cons_zero, List.set_cons_succ, List.getElem_toArray, List.getElem_cons_zero, List.getElem_cons_succ])
      refine wpAnyH_done (by kernel_rfl) ?_ _
      refine NoPanic.normal ?_
      obtain ⟨rfl⟩ := hQ7
      (go_wp2_with fail)
      go_meet
      exact ⟨0, rfl, rfl, hcur⟩
    · have HC1 : As (cmpZ z1 z2 = 0) := ⟨by rw [cmpZ, if_neg (by omega), if_pos (by omega)]⟩
      have HC2 : As (cmpZ z2 z1 = 0) := ⟨by rw [cmpZ, if_neg (by omega), if_pos (by omega)]⟩
      have HC3 : As (cmpZ (z1 + z3) (z2 + z3) = 0) := ⟨by rw [cmpZ, if_neg (by omega), if_pos (by omega)]⟩
      clear hc
      have hw1 : IntKind.i64.wrap (1) = 1 := IntWalk.i64_in _ (by omega)
      have hw0 : IntKind.i64.wrap (0) = 0 := IntWalk.i64_in _ (by omega)
      have hwm : IntKind.i64.wrap (-1) = -1 := IntWalk.i64_in _ (by omega)
      have hcur := (Below.refl wb.heap.size wb).drew
      have F := F0.below hcur
      refine wp_gen2 (fun Q7 hQ7 => ?_)
      refine wp_region_held_drew (S := fun W => Below wb.heap.size wb W) (by kernel_rfl) hcur (fun hHeld => ?_)
      clear hHeld
      refine wpAnyH_take (i := 0) (oi := _) (v := .agg #[.bool n1, .slice A1 k1 c1]) rfl (by kernel_rfl) (by kernel_rfl) (by kernel_rfl) (fun _ _ _ h => h) (Or.inl ⟨by kernel_rfl, fun W hSw => by have Cb := (B3.below hSw).cells; ((try dsimp only at hSw); go_simp; try (with_reducible rfl))⟩) hcur ?_
      (try simp (config := {maxSteps := 2000000}) only [Act.put, List.setIfInBounds_toArray, List.set_cons_zero, List.set_cons_succ, List.getElem_toArray, List.getElem_cons_zero, List.getElem_cons_succ])
      refine wpAnyH_take (i := 2) (oi := _) (v := .agg #[.bool n2, .slice A2 k2 c2]) rfl (by kernel_rfl) (by kernel_rfl) (by kernel_rfl) (fun _ _ _ h => h) (Or.inl ⟨by kernel_rfl, fun W hSw => by have Cb := (B4.below hSw).cells; ((try dsimp only at hSw); go_simp; try (with_reducible rfl))⟩) hcur ?_
      (try simp (config := {maxSteps := 2000000}) only [Act.put, List.setIfInBounds_toArray, List.set_cons_zero, List.set_cons_succ, List.getElem_toArray, List.getElem_cons_zero, List.getElem_cons_succ])
      refine wpAnyH_take (i := 5) (oi := _) (v := .agg #[.bool n2, .slice A2 k2 c2]) rfl (by kernel_rfl) (by kernel_rfl) (by kernel_rfl) (fun _ _ _ h => h) (Or.inl ⟨by kernel_rfl, fun W hSw => by have Cb := (B4.below hSw).cells; ((try dsimp only at hSw); go_simp; try (with_reducible rfl))⟩) hcur ?_
      (try simp (config := {maxSteps := 2000000}) only [Act.put, List.setIfInBounds_toArray, List.set_cons_zero, List.set_cons_succ, List.getElem_toArray, List.getElem_cons_zero, List.getElem_cons_succ])
      refine wpAnyH_take (i := 7) (oi := _) (v := .agg #[.bool n1, .slice A1 k1 c1]) rfl (by kernel_rfl) (by kernel_rfl) (by kernel_rfl) (fun _ _ _ h => h) (Or.inl ⟨by kernel_rfl, fun W hSw => by have Cb := (B3.below hSw).cells; ((try dsimp only at hSw); go_simp; try (with_reducible rfl))⟩) hcur ?_
      (try simp (config := {maxSteps := 2000000}) only [Act.put, List.setIfInBounds_toArray, List.set_cons_zero, List.set_cons_succ, List.getElem_toArray, List.getElem_cons_zero, List.getElem_cons_succ])
      refine wpAnyH_ready (rs := [1]) (by kernel_rfl) (by simp) ?_
      refine AllReadyH.cons (o := _) rfl (fun K hK => ?_) AllReadyH.nil
      go_simp; (with_reducible refine (cF F (by repeat (first | exact List.mem_cons_self .. | apply List.mem_cons_of_mem))).mono ?_); rintro e wn ⟨vn, rfl, ⟨b11, A11, n11, c11, rfl, o, hf⟩, hb⟩; replace F := (F.below hb).cons o; have hfr11 : ∀ k ∈ addrBlock A11, k < _ := (fun k hk => (hf k hk).2); clear hf; replace hcur := bthen hcur hb; go_wp2_with fail
      refine hK.out _ _ hcur (fun hHeld => ?_)
      clear hK K hHeld
      (try simp (config := {maxSteps := 2000000}) only [Act.put, List.setIfInBounds_toArray, List.set_cons_zero, List.set_cons_succ, List.getElem_toArray, List.getElem_cons_zero, List.getElem_cons_succ])
      refine wpAnyH_ready (rs := [3]) (by kernel_rfl) (by simp) ?_
      refine AllReadyH.cons (o := _) rfl (fun K hK => ?_) AllReadyH.nil
      go_simp; (with_reducible refine (cF F (by repeat (first | exact List.mem_cons_self .. | apply List.mem_cons_of_mem))).mono ?_); rintro e wn ⟨vn, rfl, ⟨b13, A13, n13, c13, rfl, o, hf⟩, hb⟩; replace F := (F.below hb).cons o; have hfr13 : ∀ k ∈ addrBlock A13, k < _ := (fun k hk => (hf k hk).2); clear hf; replace hfr11 : ∀ k ∈ addrBlock A11, k < _ := (fun k hk => Nat.lt_of_lt_of_le (hfr11 k hk) hb.size); replace hcur := bthen hcur hb; go_wp2_with fail
      refine hK.out _ _ hcur (fun hHeld => ?_)
      clear hK K hHeld
      (try simp (config := {maxSteps := 2000000}) only [Act.put, List.setIfInBounds_toArray, List.set_cons_zero, List.set_cons_succ, List.getElem_toArray, List.getElem_cons_zero, List.getElem_cons_succ])
      refine wpAnyH_ready (rs := [4]) (by kernel_rfl) (by simp) ?_
      refine AllReadyH.cons (o := _) rfl (fun K hK => ?_) AllReadyH.nil
      go_simp; (with_reducible refine (cmpF F (by repeat (first | exact List.mem_cons_self .. | apply List.mem_cons_of_mem)) (by repeat (first | exact List.mem_cons_self .. | apply List.mem_cons_of_mem)) (by omega) (0) HC1.out).mono ?_); rintro e wn ⟨vn, rfl, rfl, hb⟩; replace F := F.below hb; replace hfr11 : ∀ k ∈ addrBlock A11, k < _ := (fun k hk => Nat.lt_of_lt_of_le (hfr11 k hk) hb.size); replace hfr13 : ∀ k ∈ addrBlock A13, k < _ := (fun k hk => Nat.lt_of_lt_of_le (hfr13 k hk) hb.size); replace hcur := bthen hcur hb; go_wp2_with fail
      refine hK.out _ _ hcur (fun hHeld => ?_)
      clear hK K hHeld
      (try simp (config := {maxSteps := 2000000}) only [Act.put, List.setIfInBounds_toArray, List.set_cons_zero, List.set_cons_succ, List.getElem_toArray, List.getElem_cons_zero, List.getElem_cons_succ])
      refine wpAnyH_ready (rs := [6]) (by kernel_rfl) (by simp) ?_
      refine AllReadyH.cons (o := _) rfl (fun K hK => ?_) AllReadyH.nil
      go_simp; (with_reducible refine (cF F (by repeat (first | exact List.mem_cons_self .. | apply List.mem_cons_of_mem))).mono ?_); rintro e wn ⟨vn, rfl, ⟨b16, A16, n16, c16, rfl, o, hf⟩, hb⟩; replace F := (F.below hb).cons o; have hfr16 : ∀ k ∈ addrBlock A16, k < _ := (fun k hk => (hf k hk).2); clear hf; replace hfr11 : ∀ k ∈ addrBlock A11, k < _ := (fun k hk => Nat.lt_of_lt_of_le (hfr11 k hk) hb.size); replace hfr13 : ∀ k ∈ addrBlock A13, k < _ := (fun k hk => Nat.lt_of_lt_of_le (hfr13 k hk) hb.size); replace hcur := bthen hcur hb; go_wp2_with fail
      refine hK.out _ _ hcur (fun hHeld => ?_)
      clear hK K hHeld
      (try simp (config := {maxSteps := 2000000}) only [Act.put, List.setIfInBounds_toArray, List.set_cons_zero, List.set_cons_succ, List.getElem_toArray, List.getElem_cons_zero, List.getElem_cons_succ])
      refine wpAnyH_ready (rs := [8]) (by kernel_rfl) (by simp) ?_
      refine AllReadyH.cons (o := _) rfl (fun K hK => ?_) AllReadyH.nil
      go_simp; (with_reducible refine (cF F (by repeat (first | exact List.mem_cons_self .. | apply List.mem_cons_of_mem))).mono ?_); rintro e wn ⟨vn, rfl, ⟨b18, A18, n18, c18, rfl, o, hf⟩, hb⟩; replace F := (F.below hb).cons o; have hfr18 : ∀ k ∈ addrBlock A18, k < _ := (fun k hk => (hf k hk).2); clear hf; replace hfr11 : ∀ k ∈ addrBlock A11, k < _ := (fun k hk => Nat.lt_of_lt_of_le (hfr11 k hk) hb.size); replace hfr13 : ∀ k ∈ addrBlock A13, k < _ := (fun k hk => Nat.lt_of_lt_of_le (hfr13 k hk) hb.size); replace hfr16 : ∀ k ∈ addrBlock A16, k < _ := (fun k hk => Nat.lt_of_lt_of_le (hfr16 k hk) hb.size); replace hcur := bthen hcur hb; go_wp2_with fail
      refine hK.out _ _ hcur (fun hHeld => ?_)
      clear hK K hHeld
      (try simp (config := {maxSteps := 2000000}) only [Act.put, List.setIfInBounds_toArray, List.set_cons_zero, List.set_cons_succ, List.getElem_toArray, List.getElem_cons_zero, List.getElem_cons_succ])
      refine wpAnyH_ready (rs := [9]) (by kernel_rfl) (by simp) ?_
      refine AllReadyH.cons (o := _) rfl (fun K hK => ?_) AllReadyH.nil
      go_simp; (with_reducible refine (cmpF F (by repeat (first | exact List.mem_cons_self .. | apply List.mem_cons_of_mem)) (by repeat (first | exact List.mem_cons_self .. | apply List.mem_cons_of_mem)) (by omega) (0) HC2.out).mono ?_); rintro e wn ⟨vn, rfl, rfl, hb⟩; replace F := F.below hb; replace hfr11 : ∀ k ∈ addrBlock A11, k < _ := (fun k hk => Nat.lt_of_lt_of_le (hfr11 k hk) hb.size); replace hfr13 : ∀ k ∈ addrBlock A13, k < _ := (fun k hk => Nat.lt_of_lt_of_le (hfr13 k hk) hb.size); replace hfr16 : ∀ k ∈ addrBlock A16, k < _ := (fun k hk => Nat.lt_of_lt_of_le (hfr16 k hk) hb.size); replace hfr18 : ∀ k ∈ addrBlock A18, k < _ := (fun k hk => Nat.lt_of_lt_of_le (hfr18 k hk) hb.size); replace hcur := bthen hcur hb; go_wp2_with fail
      refine hK.out _ _ hcur (fun hHeld => ?_)
      clear hK K hHeld
      (try simp (config := {maxSteps := 2000000}) only [Act.put, List.setIfInBounds_toArray, List.set_cons_zero, List.set_cons_succ, List.getElem_toArray, List.getElem_cons_zero, List.getElem_cons_succ])
      refine wpAnyH_take (i := 10) (oi := _) (v := .int .i64 (0)) rfl (by kernel_rfl) (by kernel_rfl) (by kernel_rfl) (fun _ _ _ h => h) (Or.inl ⟨by kernel_rfl, fun W hSw => by ((try dsimp only at hSw); go_simp; try (with_reducible rfl); all_goals first | exact IntWalk.i64_in _ (by omega) | rfl | decide)⟩) hcur ?_
      (try simp (config := {maxSteps := 2000000}) only [Act.put, List.setIfInBounds_toArray, List.set_cons_zero, List.set_cons_succ, List.getElem_toArray, List.getElem_cons_zero, List.getElem_cons_succ])
      refine wpAnyH_take (i := 11) (oi := _) (v := .bool false) rfl (by kernel_rfl) (by kernel_rfl) (by kernel_rfl) (fun _ _ _ h => h) (Or.inl ⟨by kernel_rfl, fun W hSw => by ((try dsimp only at hSw); go_simp; try (with_reducible rfl))⟩) hcur ?_
      (try simp (config := {maxSteps := 2000000}) only [Act.put, List.setIfInBounds_toArray, List.set_cons_zero, List.set_cons_succ, List.getElem_toArray, List.getElem_cons_zero, List.getElem_cons_succ])
      refine wpAnyH_take (i := 12) (oi := _) (v := .bool false) rfl (by kernel_rfl) (by kernel_rfl) (by kernel_rfl) (fun _ _ _ h => h) (Or.inl ⟨by kernel_rfl, fun W hSw => by ((try dsimp only at hSw); go_simp; try (with_reducible rfl))⟩) hcur ?_
      (try simp (config := {maxSteps := 2000000}) only [Act.put, List.setIfInBounds_toArray, List.set_cons_zero, List.set_cons_succ, List.getElem_toArray, List.getElem_cons_zero, List.getElem_cons_succ])
      refine wpAnyH_take (i := 13) (oi := _) (v := .agg #[.bool n1, .slice A1 k1 c1]) rfl (by kernel_rfl) (by kernel_rfl) (by kernel_rfl) (fun _ _ _ h => h) (Or.inl ⟨by kernel_rfl, fun W hSw => by have Cb := (B3.below hSw).cells; ((try dsimp only at hSw); go_simp; try (with_reducible rfl))⟩) hcur ?_
      (try simp (config := {maxSteps := 2000000}) only [Act.put, List.setIfInBounds_toArray, List.set_cons_zero, List.set_cons_succ, List.getElem_toArray, List.getElem_cons_zero, List.getElem_cons_succ])
      refine wpAnyH_take (i := 15) (oi := _) (v := .agg #[.bool n3, .slice A3 k3 c3]) rfl (by kernel_rfl) (by kernel_rfl) (by kernel_rfl) (fun _ _ _ h => h) (Or.inl ⟨by kernel_rfl, fun W hSw => by have Cb := (B5.below hSw).cells; ((try dsimp only at hSw); go_simp; try (with_reducible rfl))⟩) hcur ?_
      (try simp (config := {maxSteps := 2000000}) only [Act.put, List.setIfInBounds_toArray, List.set_cons_zero, List.set_cons_succ, List.getElem_toArray, List.getElem_cons_zero, List.getElem_cons_succ])
      refine wpAnyH_take (i := 19) (oi := _) (v := .agg #[.bool n2, .slice A2 k2 c2]) rfl (by kernel_rfl) (by kernel_rfl) (by kernel_rfl) (fun _ _ _ h => h) (Or.inl ⟨by kernel_rfl, fun W hSw => by have Cb := (B4.below hSw).cells; ((try dsimp only at hSw); go_simp; try (with_reducible rfl))⟩) hcur ?_
      (try simp (config := {maxSteps := 2000000}) only [Act.put, List.setIfInBounds_toArray, List.set_cons_zero, List.set_cons_succ, List.getElem_toArray, List.getElem_cons_zero, List.getElem_cons_succ])
      refine wpAnyH_take (i := 21) (oi := _) (v := .agg #[.bool n3, .slice A3 k3 c3]) rfl (by kernel_rfl) (by kernel_rfl) (by kernel_rfl) (fun _ _ _ h => h) (Or.inl ⟨by kernel_rfl, fun W hSw => by have Cb := (B5.below hSw).cells; ((try dsimp only at hSw); go_simp; try (with_reducible rfl))⟩) hcur ?_
      (try simp (config := {maxSteps := 2000000}) only [Act.put, List.setIfInBounds_toArray, List.set_cons_zero, List.set_cons_succ, List.getElem_toArray, List.getElem_cons_zero, List.getElem_cons_succ])
      refine wpAnyH_take (i := 26) (oi := _) (v := .agg #[.bool n1, .slice A1 k1 c1]) rfl (by kernel_rfl) (by kernel_rfl) (by kernel_rfl) (fun _ _ _ h => h) (Or.inl ⟨by kernel_rfl, fun W hSw => by have Cb := (B3.below hSw).cells; ((try dsimp only at hSw); go_simp; try (with_reducible rfl))⟩) hcur ?_
      (try simp (config := {maxSteps := 2000000}) only [Act.put, List.setIfInBounds_toArray, List.set_cons_zero, List.set_cons_succ, List.getElem_toArray, List.getElem_cons_zero, List.getElem_cons_succ])
      refine wpAnyH_take (i := 28) (oi := _) (v := .agg #[.bool n2, .slice A2 k2 c2]) rfl (by kernel_rfl) (by kernel_rfl) (by kernel_rfl) (fun _ _ _ h => h) (Or.inl ⟨by kernel_rfl, fun W hSw => by have Cb := (B4.below hSw).cells; ((try dsimp only at hSw); go_simp; try (with_reducible rfl))⟩) hcur ?_
      (try simp (config := {maxSteps := 2000000}) only [Act.put, List.setIfInBounds_toArray, List.set_cons_zero, List.set_cons_succ, List.getElem_toArray, List.getElem_cons_zero, List.getElem_cons_succ])
      refine wpAnyH_ready (rs := [14]) (by kernel_rfl) (by simp) ?_
      refine AllReadyH.cons (o := _) rfl (fun K hK => ?_) AllReadyH.nil
      go_simp; (with_reducible refine (cF F (by repeat (first | exact List.mem_cons_self .. | apply List.mem_cons_of_mem))).mono ?_); rintro e wn ⟨vn, rfl, ⟨b24, A24, n24, c24, rfl, o, hf⟩, hb⟩; replace F := (F.below hb).cons o; have hfr24 : ∀ k ∈ addrBlock A24, k < _ := (fun k hk => (hf k hk).2); clear hf; replace hfr11 : ∀ k ∈ addrBlock A11, k < _ := (fun k hk => Nat.lt_of_lt_of_le (hfr11 k hk) hb.size); replace hfr13 : ∀ k ∈ addrBlock A13, k < _ := (fun k hk => Nat.lt_of_lt_of_le (hfr13 k hk) hb.size); replace hfr16 : ∀ k ∈ addrBlock A16, k < _ := (fun k hk => Nat.lt_of_lt_of_le (hfr16 k hk) hb.size); replace hfr18 : ∀ k ∈ addrBlock A18, k < _ := (fun k hk => Nat.lt_of_lt_of_le (hfr18 k hk) hb.size); replace hcur := bthen hcur hb; go_wp2_with fail
      refine hK.out _ _ hcur (fun hHeld => ?_)
      clear hK K hHeld
      (try simp (config := {maxSteps := 2000000}) only [Act.put, List.setIfInBounds_toArray, List.set_cons_zero, List.set_cons_succ, List.getElem_toArray, List.getElem_cons_zero, List.getElem_cons_succ])
      refine wpAnyH_ready (rs := [16]) (by kernel_rfl) (by simp) ?_
      refine AllReadyH.cons (o := _) rfl (fun K hK => ?_) AllReadyH.nil
      go_simp; (with_reducible refine (cF F (by repeat (first | exact List.mem_cons_self .. | apply List.mem_cons_of_mem))).mono ?_); rintro e wn ⟨vn, rfl, ⟨b26, A26, n26, c26, rfl, o, hf⟩, hb⟩; replace F := (F.below hb).cons o; have hfr26 : ∀ k ∈ addrBlock A26, k < _ := (fun k hk => (hf k hk).2); clear hf; replace hfr11 : ∀ k ∈ addrBlock A11, k < _ := (fun k hk => Nat.lt_of_lt_of_le (hfr11 k hk) hb.size); replace hfr13 : ∀ k ∈ addrBlock A13, k < _ := (fun k hk => Nat.lt_of_lt_of_le (hfr13 k hk) hb.size); replace hfr16 : ∀ k ∈ addrBlock A16, k < _ := (fun k hk => Nat.lt_of_lt_of_le (hfr16 k hk) hb.size); replace hfr18 : ∀ k ∈ addrBlock A18, k < _ := (fun k hk => Nat.lt_of_lt_of_le (hfr18 k hk) hb.size); replace hfr24 : ∀ k ∈ addrBlock A24, k < _ := (fun k hk => Nat.lt_of_lt_of_le (hfr24 k hk) hb.size); replace hcur := bthen hcur hb; go_wp2_with fail
      refine hK.out _ _ hcur (fun hHeld => ?_)
      clear hK K hHeld
      (try simp (config := {maxSteps := 2000000}) only [Act.put, List.setIfInBounds_toArray, List.set_cons_zero, List.set_cons_succ, List.getElem_toArray, List.getElem_cons_zero, List.getElem_cons_succ])
      refine wpAnyH_ready (rs := [17]) (by kernel_rfl) (by simp) ?_
      refine AllReadyH.cons (o := _) rfl (fun K hK => ?_) AllReadyH.nil
      refine st_lit (v := fun g => .slice (some ⟨g, 0, none⟩) 2 2) 27 rfl (cs := [.bool b24, .slice A24 n24 c24, .bool b26, .slice A26 n26 c26]) (t := 26) (by go_simp; try rfl) ?_; intro g27 wn hb Bl27 hg27; replace F := F.below hb; replace hfr11 : ∀ k ∈ addrBlock A11, k < _ := (fun k hk => Nat.lt_of_lt_of_le (hfr11 k hk) hb.size); replace hfr13 : ∀ k ∈ addrBlock A13, k < _ := (fun k hk => Nat.lt_of_lt_of_le (hfr13 k hk) hb.size); replace hfr16 : ∀ k ∈ addrBlock A16, k < _ := (fun k hk => Nat.lt_of_lt_of_le (hfr16 k hk) hb.size); replace hfr18 : ∀ k ∈ addrBlock A18, k < _ := (fun k hk => Nat.lt_of_lt_of_le (hfr18 k hk) hb.size); replace hfr24 : ∀ k ∈ addrBlock A24, k < _ := (fun k hk => Nat.lt_of_lt_of_le (hfr24 k hk) hb.size); replace hfr26 : ∀ k ∈ addrBlock A26, k < _ := (fun k hk => Nat.lt_of_lt_of_le (hfr26 k hk) hb.size); replace hcur := bthen hcur hb
      refine hK.out _ _ hcur (fun hHeld => ?_)
      clear hK K hHeld
      (try simp (config := {maxSteps := 2000000}) only [Act.put, List.setIfInBounds_toArray, List.set_cons_zero, List.set_cons_succ, List.getElem_toArray, List.getElem_cons_zero, List.getElem_cons_succ])
      refine wpAnyH_ready (rs := [18]) (by kernel_rfl) (by simp) ?_
      refine AllReadyH.cons (o := _) rfl (fun K hK => ?_) AllReadyH.nil
      go_simp; (with_reducible refine (addF F Bl27 (by repeat (first | exact List.mem_cons_self .. | apply List.mem_cons_of_mem)) (by repeat (first | exact List.mem_cons_self .. | apply List.mem_cons_of_mem)) (by omega)).mono ?_); rintro e wn ⟨vn, rfl, ⟨b28, A28, n28, c28, rfl, o, hf⟩, hb⟩; replace F := (F.below hb).cons o; have hfr28 : ∀ k ∈ addrBlock A28, k < _ := (fun k hk => (hf k hk).2); clear hf; replace Bl27 := Bl27.below hb; replace hfr11 : ∀ k ∈ addrBlock A11, k < _ := (fun k hk => Nat.lt_of_lt_of_le (hfr11 k hk) hb.size); replace hfr13 : ∀ k ∈ addrBlock A13, k < _ := (fun k hk => Nat.lt_of_lt_of_le (hfr13 k hk) hb.size); replace hfr16 : ∀ k ∈ addrBlock A16, k < _ := (fun k hk => Nat.lt_of_lt_of_le (hfr16 k hk) hb.size); replace hfr18 : ∀ k ∈ addrBlock A18, k < _ := (fun k hk => Nat.lt_of_lt_of_le (hfr18 k hk) hb.size); replace hfr24 : ∀ k ∈ addrBlock A24, k < _ := (fun k hk => Nat.lt_of_lt_of_le (hfr24 k hk) hb.size); replace hfr26 : ∀ k ∈ addrBlock A26, k < _ := (fun k hk => Nat.lt_of_lt_of_le (hfr26 k hk) hb.size); replace hcur := bthen hcur hb; go_wp2_with fail
      refine hK.out _ _ hcur (fun hHeld => ?_)
      clear hK K hHeld
      (try simp (config := {maxSteps := 2000000}) only [Act.put, List.setIfInBounds_toArray, List.set_cons_zero, List.set_cons_succ, List.getElem_toArray, List.getElem_cons_zero, List.getElem_cons_succ])
      refine wpAnyH_ready (rs := [20]) (by kernel_rfl) (by simp) ?_
      refine AllReadyH.cons (o := _) rfl (fun K hK => ?_) AllReadyH.nil
      go_simp; (with_reducible refine (cF F (by repeat (first | exact List.mem_cons_self .. | apply List.mem_cons_of_mem))).mono ?_); rintro e wn ⟨vn, rfl, ⟨b30, A30, n30, c30, rfl, o, hf⟩, hb⟩; replace F := (F.below hb).cons o; have hfr30 : ∀ k ∈ addrBlock A30, k < _ := (fun k hk => (hf k hk).2); clear hf; replace hfr11 : ∀ k ∈ addrBlock A11, k < _ := (fun k hk => Nat.lt_of_lt_of_le (hfr11 k hk) hb.size); replace hfr13 : ∀ k ∈ addrBlock A13, k < _ := (fun k hk => Nat.lt_of_lt_of_le (hfr13 k hk) hb.size); replace hfr16 : ∀ k ∈ addrBlock A16, k < _ := (fun k hk => Nat.lt_of_lt_of_le (hfr16 k hk) hb.size); replace hfr18 : ∀ k ∈ addrBlock A18, k < _ := (fun k hk => Nat.lt_of_lt_of_le (hfr18 k hk) hb.size); replace hfr24 : ∀ k ∈ addrBlock A24, k < _ := (fun k hk => Nat.lt_of_lt_of_le (hfr24 k hk) hb.size); replace hfr26 : ∀ k ∈ addrBlock A26, k < _ := (fun k hk => Nat.lt_of_lt_of_le (hfr26 k hk) hb.size); replace hfr28 : ∀ k ∈ addrBlock A28, k < _ := (fun k hk => Nat.lt_of_lt_of_le (hfr28 k hk) hb.size); replace hcur := bthen hcur hb; go_wp2_with fail
      refine hK.out _ _ hcur (fun hHeld => ?_)
      clear hK K hHeld
      (try simp (config := {maxSteps := 2000000}) only [Act.put, List.setIfInBounds_toArray, List.set_cons_zero, List.set_cons_succ, List.getElem_toArray, List.getElem_cons_zero, List.getElem_cons_succ])
      refine wpAnyH_ready (rs := [22]) (by kernel_rfl) (by simp) ?_
      refine AllReadyH.cons (o := _) rfl (fun K hK => ?_) AllReadyH.nil
      go_simp; (with_reducible refine (cF F (by repeat (first | exact List.mem_cons_self .. | apply List.mem_cons_of_mem))).mono ?_); rintro e wn ⟨vn, rfl, ⟨b32, A32, n32, c32, rfl, o, hf⟩, hb⟩; replace F := (F.below hb).cons o; have hfr32 : ∀ k ∈ addrBlock A32, k < _ := (fun k hk => (hf k hk).2); clear hf; replace hfr11 : ∀ k ∈ addrBlock A11, k < _ := (fun k hk => Nat.lt_of_lt_of_le (hfr11 k hk) hb.size); replace hfr13 : ∀ k ∈ addrBlock A13, k < _ := (fun k hk => Nat.lt_of_lt_of_le (hfr13 k hk) hb.size); replace hfr16 : ∀ k ∈ addrBlock A16, k < _ := (fun k hk => Nat.lt_of_lt_of_le (hfr16 k hk) hb.size); replace hfr18 : ∀ k ∈ addrBlock A18, k < _ := (fun k hk => Nat.lt_of_lt_of_le (hfr18 k hk) hb.size); replace hfr24 : ∀ k ∈ addrBlock A24, k < _ := (fun k hk => Nat.lt_of_lt_of_le (hfr24 k hk) hb.size); replace hfr26 : ∀ k ∈ addrBlock A26, k < _ := (fun k hk => Nat.lt_of_lt_of_le (hfr26 k hk) hb.size); replace hfr28 : ∀ k ∈ addrBlock A28, k < _ := (fun k hk => Nat.lt_of_lt_of_le (hfr28 k hk) hb.size); replace hfr30 : ∀ k ∈ addrBlock A30, k < _ := (fun k hk => Nat.lt_of_lt_of_le (hfr30 k hk) hb.size); replace hcur := bthen hcur hb; go_wp2_with fail
      refine hK.out _ _ hcur (fun hHeld => ?_)
      clear hK K hHeld
      (try simp (config := {maxSteps := 2000000}) only [Act.put, List.setIfInBounds_toArray, List.set_cons_zero, List.set_cons_succ, List.getElem_toArray, List.getElem_cons_zero, List.getElem_cons_succ])
      refine wpAnyH_ready (rs := [23]) (by kernel_rfl) (by simp) ?_
      refine AllReadyH.cons (o := _) rfl (fun K hK => ?_) AllReadyH.nil
      refine st_lit (v := fun g => .slice (some ⟨g, 0, none⟩) 2 2) 33 rfl (cs := [.bool b30, .slice A30 n30 c30, .bool b32, .slice A32 n32 c32]) (t := 26) (by go_simp; try rfl) ?_; intro g33 wn hb Bl33 hg33; replace F := F.below hb; replace hfr11 : ∀ k ∈ addrBlock A11, k < _ := (fun k hk => Nat.lt_of_lt_of_le (hfr11 k hk) hb.size); replace hfr13 : ∀ k ∈ addrBlock A13, k < _ := (fun k hk => Nat.lt_of_lt_of_le (hfr13 k hk) hb.size); replace hfr16 : ∀ k ∈ addrBlock A16, k < _ := (fun k hk => Nat.lt_of_lt_of_le (hfr16 k hk) hb.size); replace hfr18 : ∀ k ∈ addrBlock A18, k < _ := (fun k hk => Nat.lt_of_lt_of_le (hfr18 k hk) hb.size); replace hfr24 : ∀ k ∈ addrBlock A24, k < _ := (fun k hk => Nat.lt_of_lt_of_le (hfr24 k hk) hb.size); replace hfr26 : ∀ k ∈ addrBlock A26, k < _ := (fun k hk => Nat.lt_of_lt_of_le (hfr26 k hk) hb.size); replace hfr28 : ∀ k ∈ addrBlock A28, k < _ := (fun k hk => Nat.lt_of_lt_of_le (hfr28 k hk) hb.size); replace hfr30 : ∀ k ∈ addrBlock A30, k < _ := (fun k hk => Nat.lt_of_lt_of_le (hfr30 k hk) hb.size); replace hfr32 : ∀ k ∈ addrBlock A32, k < _ := (fun k hk => Nat.lt_of_lt_of_le (hfr32 k hk) hb.size); replace hcur := bthen hcur hb
      refine hK.out _ _ hcur (fun hHeld => ?_)
      clear hK K hHeld
      (try simp (config := {maxSteps := 2000000}) only [Act.put, List.setIfInBounds_toArray, List.set_cons_zero, List.set_cons_succ, List.getElem_toArray, List.getElem_cons_zero, List.getElem_cons_succ])
      refine wpAnyH_ready (rs := [24]) (by kernel_rfl) (by simp) ?_
      refine AllReadyH.cons (o := _) rfl (fun K hK => ?_) AllReadyH.nil
      go_simp; (with_reducible refine (addF F Bl33 (by repeat (first | exact List.mem_cons_self .. | apply List.mem_cons_of_mem)) (by repeat (first | exact List.mem_cons_self .. | apply List.mem_cons_of_mem)) (by omega)).mono ?_); rintro e wn ⟨vn, rfl, ⟨b34, A34, n34, c34, rfl, o, hf⟩, hb⟩; replace F := (F.below hb).cons o; have hfr34 : ∀ k ∈ addrBlock A34, k < _ := (fun k hk => (hf k hk).2); clear hf; replace Bl33 := Bl33.below hb; replace hfr11 : ∀ k ∈ addrBlock A11, k < _ := (fun k hk => Nat.lt_of_lt_of_le (hfr11 k hk) hb.size); replace hfr13 : ∀ k ∈ addrBlock A13, k < _ := (fun k hk => Nat.lt_of_lt_of_le (hfr13 k hk) hb.size); replace hfr16 : ∀ k ∈ addrBlock A16, k < _ := (fun k hk => Nat.lt_of_lt_of_le (hfr16 k hk) hb.size); replace hfr18 : ∀ k ∈ addrBlock A18, k < _ := (fun k hk => Nat.lt_of_lt_of_le (hfr18 k hk) hb.size); replace hfr24 : ∀ k ∈ addrBlock A24, k < _ := (fun k hk => Nat.lt_of_lt_of_le (hfr24 k hk) hb.size); replace hfr26 : ∀ k ∈ addrBlock A26, k < _ := (fun k hk => Nat.lt_of_lt_of_le (hfr26 k hk) hb.size); replace hfr28 : ∀ k ∈ addrBlock A28, k < _ := (fun k hk => Nat.lt_of_lt_of_le (hfr28 k hk) hb.size); replace hfr30 : ∀ k ∈ addrBlock A30, k < _ := (fun k hk => Nat.lt_of_lt_of_le (hfr30 k hk) hb.size); replace hfr32 : ∀ k ∈ addrBlock A32, k < _ := (fun k hk => Nat.lt_of_lt_of_le (hfr32 k hk) hb.size); replace hcur := bthen hcur hb; go_wp2_with fail
      refine hK.out _ _ hcur (fun hHeld => ?_)
      clear hK K hHeld
      (try simp (config := {maxSteps := 2000000}) only [Act.put, List.setIfInBounds_toArray, List.set_cons_zero, List.set_cons_succ, List.getElem_toArray, List.getElem_cons_zero, List.getElem_cons_succ])
      refine wpAnyH_ready (rs := [25]) (by kernel_rfl) (by simp) ?_
      refine AllReadyH.cons (o := _) rfl (fun K hK => ?_) AllReadyH.nil
      go_simp; (with_reducible refine (cmpF F (by repeat (first | exact List.mem_cons_self .. | apply List.mem_cons_of_mem)) (by repeat (first | exact List.mem_cons_self .. | apply List.mem_cons_of_mem)) (by omega) (0) HC3.out).mono ?_); rintro e wn ⟨vn, rfl, rfl, hb⟩; replace F := F.below hb; replace hfr11 : ∀ k ∈ addrBlock A11, k < _ := (fun k hk => Nat.lt_of_lt_of_le (hfr11 k hk) hb.size); replace hfr13 : ∀ k ∈ addrBlock A13, k < _ := (fun k hk => Nat.lt_of_lt_of_le (hfr13 k hk) hb.size); replace hfr16 : ∀ k ∈ addrBlock A16, k < _ := (fun k hk => Nat.lt_of_lt_of_le (hfr16 k hk) hb.size); replace hfr18 : ∀ k ∈ addrBlock A18, k < _ := (fun k hk => Nat.lt_of_lt_of_le (hfr18 k hk) hb.size); replace hfr24 : ∀ k ∈ addrBlock A24, k < _ := (fun k hk => Nat.lt_of_lt_of_le (hfr24 k hk) hb.size); replace hfr26 : ∀ k ∈ addrBlock A26, k < _ := (fun k hk => Nat.lt_of_lt_of_le (hfr26 k hk) hb.size); replace hfr28 : ∀ k ∈ addrBlock A28, k < _ := (fun k hk => Nat.lt_of_lt_of_le (hfr28 k hk) hb.size); replace hfr30 : ∀ k ∈ addrBlock A30, k < _ := (fun k hk => Nat.lt_of_lt_of_le (hfr30 k hk) hb.size); replace hfr32 : ∀ k ∈ addrBlock A32, k < _ := (fun k hk => Nat.lt_of_lt_of_le (hfr32 k hk) hb.size); replace hfr34 : ∀ k ∈ addrBlock A34, k < _ := (fun k hk => Nat.lt_of_lt_of_le (hfr34 k hk) hb.size); replace hcur := bthen hcur hb; go_wp2_with fail
      refine hK.out _ _ hcur (fun hHeld => ?_)
      clear hK K hHeld
      (try simp (config := {maxSteps := 2000000}) only [Act.put, List.setIfInBounds_toArray, List.set_cons_zero, List.set_cons_succ, List.getElem_toArray, List.getElem_cons_zero, List.getElem_cons_succ])
      refine wpAnyH_ready (rs := [27]) (by kernel_rfl) (by simp) ?_
      refine AllReadyH.cons (o := _) rfl (fun K hK => ?_) AllReadyH.nil
      go_simp; (with_reducible refine (cF F (by repeat (first | exact List.mem_cons_self .. | apply List.mem_cons_of_mem))).mono ?_); rintro e wn ⟨vn, rfl, ⟨b37, A37, n37, c37, rfl, o, hf⟩, hb⟩; replace F := (F.below hb).cons o; have hfr37 : ∀ k ∈ addrBlock A37, k < _ := (fun k hk => (hf k hk).2); clear hf; replace hfr11 : ∀ k ∈ addrBlock A11, k < _ := (fun k hk => Nat.lt_of_lt_of_le (hfr11 k hk) hb.size); replace hfr13 : ∀ k ∈ addrBlock A13, k < _ := (fun k hk => Nat.lt_of_lt_of_le (hfr13 k hk) hb.size); replace hfr16 : ∀ k ∈ addrBlock A16, k < _ := (fun k hk => Nat.lt_of_lt_of_le (hfr16 k hk) hb.size); replace hfr18 : ∀ k ∈ addrBlock A18, k < _ := (fun k hk => Nat.lt_of_lt_of_le (hfr18 k hk) hb.size); replace hfr24 : ∀ k ∈ addrBlock A24, k < _ := (fun k hk => Nat.lt_of_lt_of_le (hfr24 k hk) hb.size); replace hfr26 : ∀ k ∈ addrBlock A26, k < _ := (fun k hk => Nat.lt_of_lt_of_le (hfr26 k hk) hb.size); replace hfr28 : ∀ k ∈ addrBlock A28, k < _ := (fun k hk => Nat.lt_of_lt_of_le (hfr28 k hk) hb.size); replace hfr30 : ∀ k ∈ addrBlock A30, k < _ := (fun k hk => Nat.lt_of_lt_of_le (hfr30 k hk) hb.size); replace hfr32 : ∀ k ∈ addrBlock A32, k < _ := (fun k hk => Nat.lt_of_lt_of_le (hfr32 k hk) hb.size); replace hfr34 : ∀ k ∈ addrBlock A34, k < _ := (fun k hk => Nat.lt_of_lt_of_le (hfr34 k hk) hb.size); replace hcur := bthen hcur hb; go_wp2_with fail
      refine hK.out _ _ hcur (fun hHeld => ?_)
      clear hK K hHeld
      (try simp (config := {maxSteps := 2000000}) only [Act.put, List.setIfInBounds_toArray, List.set_cons_zero, List.set_cons_succ, List.getElem_toArray, List.getElem_cons_zero, List.getElem_cons_succ])
      refine wpAnyH_ready (rs := [29]) (by kernel_rfl) (by simp) ?_
      refine AllReadyH.cons (o := _) rfl (fun K hK => ?_) AllReadyH.nil
      go_simp; (with_reducible refine (cF F (by repeat (first | exact List.mem_cons_self .. | apply List.mem_cons_of_mem))).mono ?_); rintro e wn ⟨vn, rfl, ⟨b39, A39, n39, c39, rfl, o, hf⟩, hb⟩; replace F := (F.below hb).cons o; have hfr39 : ∀ k ∈ addrBlock A39, k < _ := (fun k hk => (hf k hk).2); clear hf; replace hfr11 : ∀ k ∈ addrBlock A11, k < _ := (fun k hk => Nat.lt_of_lt_of_le (hfr11 k hk) hb.size); replace hfr13 : ∀ k ∈ addrBlock A13, k < _ := (fun k hk => Nat.lt_of_lt_of_le (hfr13 k hk) hb.size); replace hfr16 : ∀ k ∈ addrBlock A16, k < _ := (fun k hk => Nat.lt_of_lt_of_le (hfr16 k hk) hb.size); replace hfr18 : ∀ k ∈ addrBlock A18, k < _ := (fun k hk => Nat.lt_of_lt_of_le (hfr18 k hk) hb.size); replace hfr24 : ∀ k ∈ addrBlock A24, k < _ := (fun k hk => Nat.lt_of_lt_of_le (hfr24 k hk) hb.size); replace hfr26 : ∀ k ∈ addrBlock A26, k < _ := (fun k hk => Nat.lt_of_lt_of_le (hfr26 k hk) hb.size); replace hfr28 : ∀ k ∈ addrBlock A28, k < _ := (fun k hk => Nat.lt_of_lt_of_le (hfr28 k hk) hb.size); replace hfr30 : ∀ k ∈ addrBlock A30, k < _ := (fun k hk => Nat.lt_of_lt_of_le (hfr30 k hk) hb.size); replace hfr32 : ∀ k ∈ addrBlock A32, k < _ := (fun k hk => Nat.lt_of_lt_of_le (hfr32 k hk) hb.size); replace hfr34 : ∀ k ∈ addrBlock A34, k < _ := (fun k hk => Nat.lt_of_lt_of_le (hfr34 k hk) hb.size); replace hfr37 : ∀ k ∈ addrBlock A37, k < _ := (fun k hk => Nat.lt_of_lt_of_le (hfr37 k hk) hb.size); replace hcur := bthen hcur hb; go_wp2_with fail
      refine hK.out _ _ hcur (fun hHeld => ?_)
      clear hK K hHeld
      (try simp (config := {maxSteps := 2000000}) only [Act.put, List.setIfInBounds_toArray, List.set_cons_zero, List.set_cons_succ, List.getElem_toArray, List.getElem_cons_zero, List.getElem_cons_succ])
      refine wpAnyH_ready (rs := [30]) (by kernel_rfl) (by simp) ?_
      refine AllReadyH.cons (o := _) rfl (fun K hK => ?_) AllReadyH.nil
      go_simp; (with_reducible refine (cmpF F (by repeat (first | exact List.mem_cons_self .. | apply List.mem_cons_of_mem)) (by repeat (first | exact List.mem_cons_self .. | apply List.mem_cons_of_mem)) (by omega) (0) HC1.out).mono ?_); rintro e wn ⟨vn, rfl, rfl, hb⟩; replace F := F.below hb; replace hfr11 : ∀ k ∈ addrBlock A11, k < _ := (fun k hk => Nat.lt_of_lt_of_le (hfr11 k hk) hb.size); replace hfr13 : ∀ k ∈ addrBlock A13, k < _ := (fun k hk => Nat.lt_of_lt_of_le (hfr13 k hk) hb.size); replace hfr16 : ∀ k ∈ addrBlock A16, k < _ := (fun k hk => Nat.lt_of_lt_of_le (hfr16 k hk) hb.size); replace hfr18 : ∀ k ∈ addrBlock A18, k < _ := (fun k hk => Nat.lt_of_lt_of_le (hfr18 k hk) hb.size); replace hfr24 : ∀ k ∈ addrBlock A24, k < _ := (fun k hk => Nat.lt_of_lt_of_le (hfr24 k hk) hb.size); replace hfr26 : ∀ k ∈ addrBlock A26, k < _ := (fun k hk => Nat.lt_of_lt_of_le (hfr26 k hk) hb.size); replace hfr28 : ∀ k ∈ addrBlock A28, k < _ := (fun k hk => Nat.lt_of_lt_of_le (hfr28 k hk) hb.size); replace hfr30 : ∀ k ∈ addrBlock A30, k < _ := (fun k hk => Nat.lt_of_lt_of_le (hfr30 k hk) hb.size); replace hfr32 : ∀ k ∈ addrBlock A32, k < _ := (fun k hk => Nat.lt_of_lt_of_le (hfr32 k hk) hb.size); replace hfr34 : ∀ k ∈ addrBlock A34, k < _ := (fun k hk => Nat.lt_of_lt_of_le (hfr34 k hk) hb.size); replace hfr37 : ∀ k ∈ addrBlock A37, k < _ := (fun k hk => Nat.lt_of_lt_of_le (hfr37 k hk) hb.size); replace hfr39 : ∀ k ∈ addrBlock A39, k < _ := (fun k hk => Nat.lt_of_lt_of_le (hfr39 k hk) hb.size); replace hcur := bthen hcur hb; go_wp2_with fail
      refine hK.out _ _ hcur (fun hHeld => ?_)
      clear hK K hHeld
      (try simp (config := {maxSteps := 2000000}) only [Act.put, List.setIfInBounds_toArray, List.set_cons_zero, List.set_cons_succ, List.getElem_toArray, List.getElem_cons_zero, List.getElem_cons_succ])
      refine wpAnyH_take (i := 31) (oi := _) (v := .bool false) rfl (by kernel_rfl) (by kernel_rfl) (by kernel_rfl) (fun _ _ _ h => h) (Or.inl ⟨by kernel_rfl, fun W hSw => by ((try dsimp only at hSw); go_simp; try (with_reducible rfl))⟩) hcur ?_
      (try simp (config := {maxSteps := 2000000}) only [Act.put, List.setIfInBounds_toArray, List.set_cons_zero, List.set_cons_succ, List.getElem_toArray, List.getElem_cons_zero, List.getElem_cons_succ])
      refine wpAnyH_take (i := 32) (oi := _) (v := .bool false) rfl (by kernel_rfl) (by kernel_rfl) (by kernel_rfl) (fun _ _ _ h => h) (Or.inl ⟨by kernel_rfl, fun W hSw => by ((try dsimp only at hSw); go_simp; try (with_reducible rfl))⟩) hcur ?_
      (try simp (config := {maxSteps := 2000000}) only [Act.put, List.setIfInBounds_toArray, List.set_cons_zero, List.set_cons_succ, List.getElem_toArray, List.getElem_cons_zero, List.getElem_cons_succ])
      refine wpAnyH_done (by kernel_rfl) ?_ _
      refine NoPanic.normal ?_
      obtain ⟨rfl⟩ := hQ7
      (go_wp2_with fail)
      go_meet
      exact ⟨0, rfl, rfl, hcur⟩
    · have HC1 : As (cmpZ z1 z2 = 1) := ⟨by rw [cmpZ, if_neg (by omega), if_neg (by omega)]⟩
      have HC2 : As (cmpZ z2 z1 = -1) := ⟨by rw [cmpZ, if_pos (by omega)]⟩
      have HC3 : As (cmpZ (z1 + z3) (z2 + z3) = 1) := ⟨by rw [cmpZ, if_neg (by omega), if_neg (by omega)]⟩
      clear hc
      have hw1 : IntKind.i64.wrap (1) = 1 := IntWalk.i64_in _ (by omega)
      have hw0 : IntKind.i64.wrap (0) = 0 := IntWalk.i64_in _ (by omega)
      have hwm : IntKind.i64.wrap (-1) = -1 := IntWalk.i64_in _ (by omega)
      have hcur := (Below.refl wb.heap.size wb).drew
      have F := F0.below hcur
      refine wp_gen2 (fun Q7 hQ7 => ?_)
      refine wp_region_held_drew (S := fun W => Below wb.heap.size wb W) (by kernel_rfl) hcur (fun hHeld => ?_)
      clear hHeld
      refine wpAnyH_take (i := 0) (oi := _) (v := .agg #[.bool n1, .slice A1 k1 c1]) rfl (by kernel_rfl) (by kernel_rfl) (by kernel_rfl) (fun _ _ _ h => h) (Or.inl ⟨by kernel_rfl, fun W hSw => by have Cb := (B3.below hSw).cells; ((try dsimp only at hSw); go_simp; try (with_reducible rfl))⟩) hcur ?_
      (try simp (config := {maxSteps := 2000000}) only [Act.put, List.setIfInBounds_toArray, List.set_cons_zero, List.set_cons_succ, List.getElem_toArray, List.getElem_cons_zero, List.getElem_cons_succ])
      refine wpAnyH_take (i := 2) (oi := _) (v := .agg #[.bool n2, .slice A2 k2 c2]) rfl (by kernel_rfl) (by kernel_rfl) (by kernel_rfl) (fun _ _ _ h => h) (Or.inl ⟨by kernel_rfl, fun W hSw => by have Cb := (B4.below hSw).cells; ((try dsimp only at hSw); go_simp; try (with_reducible rfl))⟩) hcur ?_
      (try simp (config := {maxSteps := 2000000}) only [Act.put, List.setIfInBounds_toArray, List.set_cons_zero, List.set_cons_succ, List.getElem_toArray, List.getElem_cons_zero, List.getElem_cons_succ])
      refine wpAnyH_take (i := 5) (oi := _) (v := .agg #[.bool n2, .slice A2 k2 c2]) rfl (by kernel_rfl) (by kernel_rfl) (by kernel_rfl) (fun _ _ _ h => h) (Or.inl ⟨by kernel_rfl, fun W hSw => by have Cb := (B4.below hSw).cells; ((try dsimp only at hSw); go_simp; try (with_reducible rfl))⟩) hcur ?_
      (try simp (config := {maxSteps := 2000000}) only [Act.put, List.setIfInBounds_toArray, List.set_cons_zero, List.set_cons_succ, List.getElem_toArray, List.getElem_cons_zero, List.getElem_cons_succ])
      refine wpAnyH_take (i := 7) (oi := _) (v := .agg #[.bool n1, .slice A1 k1 c1]) rfl (by kernel_rfl) (by kernel_rfl) (by kernel_rfl) (fun _ _ _ h => h) (Or.inl ⟨by kernel_rfl, fun W hSw => by have Cb := (B3.below hSw).cells; ((try dsimp only at hSw); go_simp; try (with_reducible rfl))⟩) hcur ?_
      (try simp (config := {maxSteps := 2000000}) only [Act.put, List.setIfInBounds_toArray, List.set_cons_zero, List.set_cons_succ, List.getElem_toArray, List.getElem_cons_zero, List.getElem_cons_succ])
      refine wpAnyH_ready (rs := [1]) (by kernel_rfl) (by simp) ?_
      refine AllReadyH.cons (o := _) rfl (fun K hK => ?_) AllReadyH.nil
      go_simp; (with_reducible refine (cF F (by repeat (first | exact List.mem_cons_self .. | apply List.mem_cons_of_mem))).mono ?_); rintro e wn ⟨vn, rfl, ⟨b11, A11, n11, c11, rfl, o, hf⟩, hb⟩; replace F := (F.below hb).cons o; have hfr11 : ∀ k ∈ addrBlock A11, k < _ := (fun k hk => (hf k hk).2); clear hf; replace hcur := bthen hcur hb; go_wp2_with fail
      refine hK.out _ _ hcur (fun hHeld => ?_)
      clear hK K hHeld
      (try simp (config := {maxSteps := 2000000}) only [Act.put, List.setIfInBounds_toArray, List.set_cons_zero, List.set_cons_succ, List.getElem_toArray, List.getElem_cons_zero, List.getElem_cons_succ])
      refine wpAnyH_ready (rs := [3]) (by kernel_rfl) (by simp) ?_
      refine AllReadyH.cons (o := _) rfl (fun K hK => ?_) AllReadyH.nil
      go_simp; (with_reducible refine (cF F (by repeat (first | exact List.mem_cons_self .. | apply List.mem_cons_of_mem))).mono ?_); rintro e wn ⟨vn, rfl, ⟨b13, A13, n13, c13, rfl, o, hf⟩, hb⟩; replace F := (F.below hb).cons o; have hfr13 : ∀ k ∈ addrBlock A13, k < _ := (fun k hk => (hf k hk).2); clear hf; replace hfr11 : ∀ k ∈ addrBlock A11, k < _ := (fun k hk => Nat.lt_of_lt_of_le (hfr11 k hk) hb.size); replace hcur := bthen hcur hb; go_wp2_with fail
      refine hK.out _ _ hcur (fun hHeld => ?_)
      clear hK K hHeld
      (try simp (config := {maxSteps := 2000000}) only [Act.put, List.setIfInBounds_toArray, List.set_cons_zero, List.set_cons_succ, List.getElem_toArray, List.getElem_cons_zero, List.getElem_cons_succ])
      refine wpAnyH_ready (rs := [4]) (by kernel_rfl) (by simp) ?_
      refine AllReadyH.cons (o := _) rfl (fun K hK => ?_) AllReadyH.nil
      go_simp; (with_reducible refine (cmpF F (by repeat (first | exact List.mem_cons_self .. | apply List.mem_cons_of_mem)) (by repeat (first | exact List.mem_cons_self .. | apply List.mem_cons_of_mem)) (by omega) (1) HC1.out).mono ?_); rintro e wn ⟨vn, rfl, rfl, hb⟩; replace F := F.below hb; replace hfr11 : ∀ k ∈ addrBlock A11, k < _ := (fun k hk => Nat.lt_of_lt_of_le (hfr11 k hk) hb.size); replace hfr13 : ∀ k ∈ addrBlock A13, k < _ := (fun k hk => Nat.lt_of_lt_of_le (hfr13 k hk) hb.size); replace hcur := bthen hcur hb; go_wp2_with fail
      refine hK.out _ _ hcur (fun hHeld => ?_)
      clear hK K hHeld
      (try simp (config := {maxSteps := 2000000}) only [Act.put, List.setIfInBounds_toArray, List.set_cons_zero, List.set_cons_succ, List.getElem_toArray, List.getElem_cons_zero, List.getElem_cons_succ])
      refine wpAnyH_ready (rs := [6]) (by kernel_rfl) (by simp) ?_
      refine AllReadyH.cons (o := _) rfl (fun K hK => ?_) AllReadyH.nil
      go_simp; (with_reducible refine (cF F (by repeat (first | exact List.mem_cons_self .. | apply List.mem_cons_of_mem))).mono ?_); rintro e wn ⟨vn, rfl, ⟨b16, A16, n16, c16, rfl, o, hf⟩, hb⟩; replace F := (F.below hb).cons o; have hfr16 : ∀ k ∈ addrBlock A16, k < _ := (fun k hk => (hf k hk).2); clear hf; replace hfr11 : ∀ k ∈ addrBlock A11, k < _ := (fun k hk => Nat.lt_of_lt_of_le (hfr11 k hk) hb.size); replace hfr13 : ∀ k ∈ addrBlock A13, k < _ := (fun k hk => Nat.lt_of_lt_of_le (hfr13 k hk) hb.size); replace hcur := bthen hcur hb; go_wp2_with fail
      refine hK.out _ _ hcur (fun hHeld => ?_)
      clear hK K hHeld
      (try simp (config := {maxSteps := 2000000}) only [Act.put, List.setIfInBounds_toArray, List.set_cons_zero, List.set_cons_succ, List.getElem_toArray, List.getElem_cons_zero, List.getElem_cons_succ])
      refine wpAnyH_ready (rs := [8]) (by kernel_rfl) (by simp) ?_
      refine AllReadyH.cons (o := _) rfl (fun K hK => ?_) AllReadyH.nil
      go_simp; (with_reducible refine (cF F (by repeat (first | exact List.mem_cons_self .. | apply List.mem_cons_of_mem))).mono ?_); rintro e wn ⟨vn, rfl, ⟨b18, A18, n18, c18, rfl, o, hf⟩, hb⟩; replace F := (F.below hb).cons o; have hfr18 : ∀ k ∈ addrBlock A18, k < _ := (fun k hk => (hf k hk).2); clear hf; replace hfr11 : ∀ k ∈ addrBlock A11, k < _ := (fun k hk => Nat.lt_of_lt_of_le (hfr11 k hk) hb.size); replace hfr13 : ∀ k ∈ addrBlock A13, k < _ := (fun k hk => Nat.lt_of_lt_of_le (hfr13 k hk) hb.size); replace hfr16 : ∀ k ∈ addrBlock A16, k < _ := (fun k hk => Nat.lt_of_lt_of_le (hfr16 k hk) hb.size); replace hcur := bthen hcur hb; go_wp2_with fail
      refine hK.out _ _ hcur (fun hHeld => ?_)
      clear hK K hHeld
      (try simp (config := {maxSteps := 2000000}) only [Act.put, List.setIfInBounds_toArray, List.set_cons_zero, List.set_cons_succ, List.getElem_toArray, List.getElem_cons_zero, List.getElem_cons_succ])
      refine wpAnyH_ready (rs := [9]) (by kernel_rfl) (by simp) ?_
      refine AllReadyH.cons (o := _) rfl (fun K hK => ?_) AllReadyH.nil
      go_simp; (with_reducible refine (cmpF F (by repeat (first | exact List.mem_cons_self .. | apply List.mem_cons_of_mem)) (by repeat (first | exact List.mem_cons_self .. | apply List.mem_cons_of_mem)) (by omega) (-1) HC2.out).mono ?_); rintro e wn ⟨vn, rfl, rfl, hb⟩; replace F := F.below hb; replace hfr11 : ∀ k ∈ addrBlock A11, k < _ := (fun k hk => Nat.lt_of_lt_of_le (hfr11 k hk) hb.size); replace hfr13 : ∀ k ∈ addrBlock A13, k < _ := (fun k hk => Nat.lt_of_lt_of_le (hfr13 k hk) hb.size); replace hfr16 : ∀ k ∈ addrBlock A16, k < _ := (fun k hk => Nat.lt_of_lt_of_le (hfr16 k hk) hb.size); replace hfr18 : ∀ k ∈ addrBlock A18, k < _ := (fun k hk => Nat.lt_of_lt_of_le (hfr18 k hk) hb.size); replace hcur := bthen hcur hb; go_wp2_with fail
      refine hK.out _ _ hcur (fun hHeld => ?_)
      clear hK K hHeld
      (try simp (config := {maxSteps := 2000000}) only [Act.put, List.setIfInBounds_toArray, List.set_cons_zero, List.set_cons_succ, List.getElem_toArray, List.getElem_cons_zero, List.getElem_cons_succ])
      refine wpAnyH_take (i := 10) (oi := _) (v := .int .i64 (1)) rfl (by kernel_rfl) (by kernel_rfl) (by kernel_rfl) (fun _ _ _ h => h) (Or.inl ⟨by kernel_rfl, fun W hSw => by ((try dsimp only at hSw); go_simp; try (with_reducible rfl); all_goals first | exact IntWalk.i64_in _ (by omega) | rfl | decide)⟩) hcur ?_
      (try simp (config := {maxSteps := 2000000}) only [Act.put, List.setIfInBounds_toArray, List.set_cons_zero, List.set_cons_succ, List.getElem_toArray, List.getElem_cons_zero, List.getElem_cons_succ])
      refine wpAnyH_take (i := 11) (oi := _) (v := .bool false) rfl (by kernel_rfl) (by kernel_rfl) (by kernel_rfl) (fun _ _ _ h => h) (Or.inl ⟨by kernel_rfl, fun W hSw => by ((try dsimp only at hSw); go_simp; try (with_reducible rfl))⟩) hcur ?_
      (try simp (config := {maxSteps := 2000000}) only [Act.put, List.setIfInBounds_toArray, List.set_cons_zero, List.set_cons_succ, List.getElem_toArray, List.getElem_cons_zero, List.getElem_cons_succ])
      refine wpAnyH_take (i := 12) (oi := _) (v := .bool false) rfl (by kernel_rfl) (by kernel_rfl) (by kernel_rfl) (fun _ _ _ h => h) (Or.inl ⟨by kernel_rfl, fun W hSw => by ((try dsimp only at hSw); go_simp; try (with_reducible rfl))⟩) hcur ?_
      (try simp (config := {maxSteps := 2000000}) only [Act.put, List.setIfInBounds_toArray, List.set_cons_zero, List.set_cons_succ, List.getElem_toArray, List.getElem_cons_zero, List.getElem_cons_succ])
      refine wpAnyH_take (i := 13) (oi := _) (v := .agg #[.bool n1, .slice A1 k1 c1]) rfl (by kernel_rfl) (by kernel_rfl) (by kernel_rfl) (fun _ _ _ h => h) (Or.inl ⟨by kernel_rfl, fun W hSw => by have Cb := (B3.below hSw).cells; ((try dsimp only at hSw); go_simp; try (with_reducible rfl))⟩) hcur ?_
      (try simp (config := {maxSteps := 2000000}) only [Act.put, List.setIfInBounds_toArray, List.set_cons_zero, List.set_cons_succ, List.getElem_toArray, List.getElem_cons_zero, List.getElem_cons_succ])
      refine wpAnyH_take (i := 15) (oi := _) (v := .agg #[.bool n3, .slice A3 k3 c3]) rfl (by kernel_rfl) (by kernel_rfl) (by kernel_rfl) (fun _ _ _ h => h) (Or.inl ⟨by kernel_rfl, fun W hSw => by have Cb := (B5.below hSw).cells; ((try dsimp only at hSw); go_simp; try (with_reducible rfl))⟩) hcur ?_
      (try simp (config := {maxSteps := 2000000}) only [Act.put, List.setIfInBounds_toArray, List.set_cons_zero, List.set_cons_succ, List.getElem_toArray, List.getElem_cons_zero, List.getElem_cons_succ])
      refine wpAnyH_take (i := 19) (oi := _) (v := .agg #[.bool n2, .slice A2 k2 c2]) rfl (by kernel_rfl) (by kernel_rfl) (by kernel_rfl) (fun _ _ _ h => h) (Or.inl ⟨by kernel_rfl, fun W hSw => by have Cb := (B4.below hSw).cells; ((try dsimp only at hSw); go_simp; try (with_reducible rfl))⟩) hcur ?_
      (try simp (config := {maxSteps := 2000000}) only [Act.put, List.setIfInBounds_toArray, List.set_cons_zero, List.set_cons_succ, List.getElem_toArray, List.getElem_cons_zero, List.getElem_cons_succ])
      refine wpAnyH_take (i := 21) (oi := _) (v := .agg #[.bool n3, .slice A3 k3 c3]) rfl (by kernel_rfl) (by kernel_rfl) (by kernel_rfl) (fun _ _ _ h => h) (Or.inl ⟨by kernel_rfl, fun W hSw => by have Cb := (B5.below hSw).cells; ((try dsimp only at hSw); go_simp; try (with_reducible rfl))⟩) hcur ?_
      (try simp (config := {maxSteps := 2000000}) only [Act.put, List.setIfInBounds_toArray, List.set_cons_zero, List.set_cons_succ, List.getElem_toArray, List.getElem_cons_zero, List.getElem_cons_succ])
      refine wpAnyH_take (i := 26) (oi := _) (v := .agg #[.bool n1, .slice A1 k1 c1]) rfl (by kernel_rfl) (by kernel_rfl) (by kernel_rfl) (fun _ _ _ h => h) (Or.inl ⟨by kernel_rfl, fun W hSw => by have Cb := (B3.below hSw).cells; ((try dsimp only at hSw); go_simp; try (with_reducible rfl))⟩) hcur ?_
      (try simp (config := {maxSteps := 2000000}) only [Act.put, List.setIfInBounds_toArray, List.set_cons_zero, List.set_cons_succ, List.getElem_toArray, List.getElem_cons_zero, List.getElem_cons_succ])
      refine wpAnyH_take (i := 28) (oi := _) (v := .agg #[.bool n2, .slice A2 k2 c2]) rfl (by kernel_rfl) (by kernel_rfl) (by kernel_rfl) (fun _ _ _ h => h) (Or.inl ⟨by kernel_rfl, fun W hSw => by have Cb := (B4.below hSw).cells; ((try dsimp only at hSw); go_simp; try (with_reducible rfl))⟩) hcur ?_
      (try simp (config := {maxSteps := 2000000}) only [Act.put, List.setIfInBounds_toArray, List.set_cons_zero, List.set_cons_succ, List.getElem_toArray, List.getElem_cons_zero, List.getElem_cons_succ])
      refine wpAnyH_ready (rs := [14]) (by kernel_rfl) (by simp) ?_
      refine AllReadyH.cons (o := _) rfl (fun K hK => ?_) AllReadyH.nil
      go_simp; (with_reducible refine (cF F (by repeat (first | exact List.mem_cons_self .. | apply List.mem_cons_of_mem))).mono ?_); rintro e wn ⟨vn, rfl, ⟨b24, A24, n24, c24, rfl, o, hf⟩, hb⟩; replace F := (F.below hb).cons o; have hfr24 : ∀ k ∈ addrBlock A24, k < _ := (fun k hk => (hf k hk).2); clear hf; replace hfr11 : ∀ k ∈ addrBlock A11, k < _ := (fun k hk => Nat.lt_of_lt_of_le (hfr11 k hk) hb.size); replace hfr13 : ∀ k ∈ addrBlock A13, k < _ := (fun k hk => Nat.lt_of_lt_of_le (hfr13 k hk) hb.size); replace hfr16 : ∀ k ∈ addrBlock A16, k < _ := (fun k hk => Nat.lt_of_lt_of_le (hfr16 k hk) hb.size); replace hfr18 : ∀ k ∈ addrBlock A18, k < _ := (fun k hk => Nat.lt_of_lt_of_le (hfr18 k hk) hb.size); replace hcur := bthen hcur hb; go_wp2_with fail
      refine hK.out _ _ hcur (fun hHeld => ?_)
      clear hK K hHeld
      (try simp (config := {maxSteps := 2000000}) only [Act.put, List.setIfInBounds_toArray, List.set_cons_zero, List.set_cons_succ, List.getElem_toArray, List.getElem_cons_zero, List.getElem_cons_succ])
      refine wpAnyH_ready (rs := [16]) (by kernel_rfl) (by simp) ?_
      refine AllReadyH.cons (o := _) rfl (fun K hK => ?_) AllReadyH.nil
      go_simp; (with_reducible refine (cF F (by repeat (first | exact List.mem_cons_self .. | apply List.mem_cons_of_mem))).mono ?_); rintro e wn ⟨vn, rfl, ⟨b26, A26, n26, c26, rfl, o, hf⟩, hb⟩; replace F := (F.below hb).cons o; have hfr26 : ∀ k ∈ addrBlock A26, k < _ := (fun k hk => (hf k hk).2); clear hf; replace hfr11 : ∀ k ∈ addrBlock A11, k < _ := (fun k hk => Nat.lt_of_lt_of_le (hfr11 k hk) hb.size); replace hfr13 : ∀ k ∈ addrBlock A13, k < _ := (fun k hk => Nat.lt_of_lt_of_le (hfr13 k hk) hb.size); replace hfr16 : ∀ k ∈ addrBlock A16, k < _ := (fun k hk => Nat.lt_of_lt_of_le (hfr16 k hk) hb.size); replace hfr18 : ∀ k ∈ addrBlock A18, k < _ := (fun k hk => Nat.lt_of_lt_of_le (hfr18 k hk) hb.size); replace hfr24 : ∀ k ∈ addrBlock A24, k < _ := (fun k hk => Nat.lt_of_lt_of_le (hfr24 k hk) hb.size); replace hcur := bthen hcur hb; go_wp2_with fail
      refine hK.out _ _ hcur (fun hHeld => ?_)
      clear hK K hHeld
      (try simp (config := {maxSteps := 2000000}) only [Act.put, List.setIfInBounds_toArray, List.set_cons_zero, List.set_cons_succ, List.getElem_toArray, List.getElem_cons_zero, List.getElem_cons_succ])
      refine wpAnyH_ready (rs := [17]) (by kernel_rfl) (by simp) ?_
      refine AllReadyH.cons (o := _) rfl (fun K hK => ?_) AllReadyH.nil
      refine st_lit (v := fun g => .slice (some ⟨g, 0, none⟩) 2 2) 27 rfl (cs := [.bool b24, .slice A24 n24 c24, .bool b26, .slice A26 n26 c26]) (t := 26) (by go_simp; try rfl) ?_; intro g27 wn hb Bl27 hg27; replace F := F.below hb; replace hfr11 : ∀ k ∈ addrBlock A11, k < _ := (fun k hk => Nat.lt_of_lt_of_le (hfr11 k hk) hb.size); replace hfr13 : ∀ k ∈ addrBlock A13, k < _ := (fun k hk => Nat.lt_of_lt_of_le (hfr13 k hk) hb.size); replace hfr16 : ∀ k ∈ addrBlock A16, k < _ := (fun k hk => Nat.lt_of_lt_of_le (hfr16 k hk) hb.size); replace hfr18 : ∀ k ∈ addrBlock A18, k < _ := (fun k hk => Nat.lt_of_lt_of_le (hfr18 k hk) hb.size); replace hfr24 : ∀ k ∈ addrBlock A24, k < _ := (fun k hk => Nat.lt_of_lt_of_le (hfr24 k hk) hb.size); replace hfr26 : ∀ k ∈ addrBlock A26, k < _ := (fun k hk => Nat.lt_of_lt_of_le (hfr26 k hk) hb.size); replace hcur := bthen hcur hb
      refine hK.out _ _ hcur (fun hHeld => ?_)
      clear hK K hHeld
      (try simp (config := {maxSteps := 2000000}) only [Act.put, List.setIfInBounds_toArray, List.set_cons_zero, List.set_cons_succ, List.getElem_toArray, List.getElem_cons_zero, List.getElem_cons_succ])
      refine wpAnyH_ready (rs := [18]) (by kernel_rfl) (by simp) ?_
      refine AllReadyH.cons (o := _) rfl (fun K hK => ?_) AllReadyH.nil
      go_simp; (with_reducible refine (addF F Bl27 (by repeat (first | exact List.mem_cons_self .. | apply List.mem_cons_of_mem)) (by repeat (first | exact List.mem_cons_self .. | apply List.mem_cons_of_mem)) (by omega)).mono ?_); rintro e wn ⟨vn, rfl, ⟨b28, A28, n28, c28, rfl, o, hf⟩, hb⟩; replace F := (F.below hb).cons o; have hfr28 : ∀ k ∈ addrBlock A28, k < _ := (fun k hk => (hf k hk).2); clear hf; replace Bl27 := Bl27.below hb; replace hfr11 : ∀ k ∈ addrBlock A11, k < _ := (fun k hk => Nat.lt_of_lt_of_le (hfr11 k hk) hb.size); replace hfr13 : ∀ k ∈ addrBlock A13, k < _ := (fun k hk => Nat.lt_of_lt_of_le (hfr13 k hk) hb.size); replace hfr16 : ∀ k ∈ addrBlock A16, k < _ := (fun k hk => Nat.lt_of_lt_of_le (hfr16 k hk) hb.size); replace hfr18 : ∀ k ∈ addrBlock A18, k < _ := (fun k hk => Nat.lt_of_lt_of_le (hfr18 k hk) hb.size); replace hfr24 : ∀ k ∈ addrBlock A24, k < _ := (fun k hk => Nat.lt_of_lt_of_le (hfr24 k hk) hb.size); replace hfr26 : ∀ k ∈ addrBlock A26, k < _ := (fun k hk => Nat.lt_of_lt_of_le (hfr26 k hk) hb.size); replace hcur := bthen hcur hb; go_wp2_with fail
      refine hK.out _ _ hcur (fun hHeld => ?_)
      clear hK K hHeld
      (try simp (config := {maxSteps := 2000000}) only [Act.put, List.setIfInBounds_toArray, List.set_cons_zero, List.set_cons_succ, List.getElem_toArray, List.getElem_cons_zero, List.getElem_cons_succ])
      refine wpAnyH_ready (rs := [20]) (by kernel_rfl) (by simp) ?_
      refine AllReadyH.cons (o := _) rfl (fun K hK => ?_) AllReadyH.nil
      go_simp; (with_reducible refine (cF F (by repeat (first | exact List.mem_cons_self .. | apply List.mem_cons_of_mem))).mono ?_); rintro e wn ⟨vn, rfl, ⟨b30, A30, n30, c30, rfl, o, hf⟩, hb⟩; replace F := (F.below hb).cons o; have hfr30 : ∀ k ∈ addrBlock A30, k < _ := (fun k hk => (hf k hk).2); clear hf; replace hfr11 : ∀ k ∈ addrBlock A11, k < _ := (fun k hk => Nat.lt_of_lt_of_le (hfr11 k hk) hb.size); replace hfr13 : ∀ k ∈ addrBlock A13, k < _ := (fun k hk => Nat.lt_of_lt_of_le (hfr13 k hk) hb.size); replace hfr16 : ∀ k ∈ addrBlock A16, k < _ := (fun k hk => Nat.lt_of_lt_of_le (hfr16 k hk) hb.size); replace hfr18 : ∀ k ∈ addrBlock A18, k < _ := (fun k hk => Nat.lt_of_lt_of_le (hfr18 k hk) hb.size); replace hfr24 : ∀ k ∈ addrBlock A24, k < _ := (fun k hk => Nat.lt_of_lt_of_le (hfr24 k hk) hb.size); replace hfr26 : ∀ k ∈ addrBlock A26, k < _ := (fun k hk => Nat.lt_of_lt_of_le (hfr26 k hk) hb.size); replace hfr28 : ∀ k ∈ addrBlock A28, k < _ := (fun k hk => Nat.lt_of_lt_of_le (hfr28 k hk) hb.size); replace hcur := bthen hcur hb; go_wp2_with fail
      refine hK.out _ _ hcur (fun hHeld => ?_)
      clear hK K hHeld
      (try simp (config := {maxSteps := 2000000}) only [Act.put, List.setIfInBounds_toArray, List.set_cons_zero, List.set_cons_succ, List.getElem_toArray, List.getElem_cons_zero, List.getElem_cons_succ])
      refine wpAnyH_ready (rs := [22]) (by kernel_rfl) (by simp) ?_
      refine AllReadyH.cons (o := _) rfl (fun K hK => ?_) AllReadyH.nil
      go_simp; (with_reducible refine (cF F (by repeat (first | exact List.mem_cons_self .. | apply List.mem_cons_of_mem))).mono ?_); rintro e wn ⟨vn, rfl, ⟨b32, A32, n32, c32, rfl, o, hf⟩, hb⟩; replace F := (F.below hb).cons o; have hfr32 : ∀ k ∈ addrBlock A32, k < _ := (fun k hk => (hf k hk).2); clear hf; replace hfr11 : ∀ k ∈ addrBlock A11, k < _ := (fun k hk => Nat.lt_of_lt_of_le (hfr11 k hk) hb.size); replace hfr13 : ∀ k ∈ addrBlock A13, k < _ := (fun k hk => Nat.lt_of_lt_of_le (hfr13 k hk) hb.size); replace hfr16 : ∀ k ∈ addrBlock A16, k < _ := (fun k hk => Nat.lt_of_lt_of_le (hfr16 k hk) hb.size); replace hfr18 : ∀ k ∈ addrBlock A18, k < _ := (fun k hk => Nat.lt_of_lt_of_le (hfr18 k hk) hb.size); replace hfr24 : ∀ k ∈ addrBlock A24, k < _ := (fun k hk => Nat.lt_of_lt_of_le (hfr24 k hk) hb.size); replace hfr26 : ∀ k ∈ addrBlock A26, k < _ := (fun k hk => Nat.lt_of_lt_of_le (hfr26 k hk) hb.size); replace hfr28 : ∀ k ∈ addrBlock A28, k < _ := (fun k hk => Nat.lt_of_lt_of_le (hfr28 k hk) hb.size); replace hfr30 : ∀ k ∈ addrBlock A30, k < _ := (fun k hk => Nat.lt_of_lt_of_le (hfr30 k hk) hb.size); replace hcur := bthen hcur hb; go_wp2_with fail
      refine hK.out _ _ hcur (fun hHeld => ?_)
      clear hK K hHeld
      (try simp (config := {maxSteps := 2000000}) only [Act.put, List.setIfInBounds_toArray, List.set_cons_zero, List.set_cons_succ, List.getElem_toArray, List.getElem_cons_zero, List.getElem_cons_succ])
      refine wpAnyH_ready (rs := [23]) (by kernel_rfl) (by simp) ?_
      refine AllReadyH.cons (o := _) rfl (fun K hK => ?_) AllReadyH.nil
      refine st_lit (v := fun g => .slice (some ⟨g, 0, none⟩) 2 2) 33 rfl (cs := [.bool b30, .slice A30 n30 c30, .bool b32, .slice A32 n32 c32]) (t := 26) (by go_simp; try rfl) ?_; intro g33 wn hb Bl33 hg33; replace F := F.below hb; replace hfr11 : ∀ k ∈ addrBlock A11, k < _ := (fun k hk => Nat.lt_of_lt_of_le (hfr11 k hk) hb.size); replace hfr13 : ∀ k ∈ addrBlock A13, k < _ := (fun k hk => Nat.lt_of_lt_of_le (hfr13 k hk) hb.size); replace hfr16 : ∀ k ∈ addrBlock A16, k < _ := (fun k hk => Nat.lt_of_lt_of_le (hfr16 k hk) hb.size); replace hfr18 : ∀ k ∈ addrBlock A18, k < _ := (fun k hk => Nat.lt_of_lt_of_le (hfr18 k hk) hb.size); replace hfr24 : ∀ k ∈ addrBlock A24, k < _ := (fun k hk => Nat.lt_of_lt_of_le (hfr24 k hk) hb.size); replace hfr26 : ∀ k ∈ addrBlock A26, k < _ := (fun k hk => Nat.lt_of_lt_of_le (hfr26 k hk) hb.size); replace hfr28 : ∀ k ∈ addrBlock A28, k < _ := (fun k hk => Nat.lt_of_lt_of_le (hfr28 k hk) hb.size); replace hfr30 : ∀ k ∈ addrBlock A30, k < _ := (fun k hk => Nat.lt_of_lt_of_le (hfr30 k hk) hb.size); replace hfr32 : ∀ k ∈ addrBlock A32, k < _ := (fun k hk => Nat.lt_of_lt_of_le (hfr32 k hk) hb.size); replace hcur := bthen hcur hb
      refine hK.out _ _ hcur (fun hHeld => ?_)
      clear hK K hHeld
      (try simp (config := {maxSteps := 2000000}) only [Act.put, List.setIfInBounds_toArray, List.set_cons_zero, List.set_cons_succ, List.getElem_toArray, List.getElem_cons_zero, List.getElem_cons_succ])
      refine wpAnyH_ready (rs := [24]) (by kernel_rfl) (by simp) ?_
      refine AllReadyH.cons (o := _) rfl (fun K hK => ?_) AllReadyH.nil
      go_simp; (with_reducible refine (addF F Bl33 (by repeat (first | exact List.mem_cons_self .. | apply List.mem_cons_of_mem)) (by repeat (first | exact List.mem_cons_self .. | apply List.mem_cons_of_mem)) (by omega)).mono ?_); rintro e wn ⟨vn, rfl, ⟨b34, A34, n34, c34, rfl, o, hf⟩, hb⟩; replace F := (F.below hb).cons o; have hfr34 : ∀ k ∈ addrBlock A34, k < _ := (fun k hk => (hf k hk).2); clear hf; replace Bl33 := Bl33.below hb; replace hfr11 : ∀ k ∈ addrBlock A11, k < _ := (fun k hk => Nat.lt_of_lt_of_le (hfr11 k hk) hb.size); replace hfr13 : ∀ k ∈ addrBlock A13, k < _ := (fun k hk => Nat.lt_of_lt_of_le (hfr13 k hk) hb.size); replace hfr16 : ∀ k ∈ addrBlock A16, k < _ := (fun k hk => Nat.lt_of_lt_of_le (hfr16 k hk) hb.size); replace hfr18 : ∀ k ∈ addrBlock A18, k < _ := (fun k hk => Nat.lt_of_lt_of_le (hfr18 k hk) hb.size); replace hfr24 : ∀ k ∈ addrBlock A24, k < _ := (fun k hk => Nat.lt_of_lt_of_le (hfr24 k hk) hb.size); replace hfr26 : ∀ k ∈ addrBlock A26, k < _ := (fun k hk => Nat.lt_of_lt_of_le (hfr26 k hk) hb.size); replace hfr28 : ∀ k ∈ addrBlock A28, k < _ := (fun k hk => Nat.lt_of_lt_of_le (hfr28 k hk) hb.size); replace hfr30 : ∀ k ∈ addrBlock A30, k < _ := (fun k hk => Nat.lt_of_lt_of_le (hfr30 k hk) hb.size); replace hfr32 : ∀ k ∈ addrBlock A32, k < _ := (fun k hk => Nat.lt_of_lt_of_le (hfr32 k hk) hb.size); replace hcur := bthen hcur hb; go_wp2_with fail
      refine hK.out _ _ hcur (fun hHeld => ?_)
      clear hK K hHeld
      (try simp (config := {maxSteps := 2000000}) only [Act.put, List.setIfInBounds_toArray, List.set_cons_zero, List.set_cons_succ, List.getElem_toArray, List.getElem_cons_zero, List.getElem_cons_succ])
      refine wpAnyH_ready (rs := [25]) (by kernel_rfl) (by simp) ?_
      refine AllReadyH.cons (o := _) rfl (fun K hK => ?_) AllReadyH.nil
      go_simp; (with_reducible refine (cmpF F (by repeat (first | exact List.mem_cons_self .. | apply List.mem_cons_of_mem)) (by repeat (first | exact List.mem_cons_self .. | apply List.mem_cons_of_mem)) (by omega) (1) HC3.out).mono ?_); rintro e wn ⟨vn, rfl, rfl, hb⟩; replace F := F.below hb; replace hfr11 : ∀ k ∈ addrBlock A11, k < _ := (fun k hk => Nat.lt_of_lt_of_le (hfr11 k hk) hb.size); replace hfr13 : ∀ k ∈ addrBlock A13, k < _ := (fun k hk => Nat.lt_of_lt_of_le (hfr13 k hk) hb.size); replace hfr16 : ∀ k ∈ addrBlock A16, k < _ := (fun k hk => Nat.lt_of_lt_of_le (hfr16 k hk) hb.size); replace hfr18 : ∀ k ∈ addrBlock A18, k < _ := (fun k hk => Nat.lt_of_lt_of_le (hfr18 k hk) hb.size); replace hfr24 : ∀ k ∈ addrBlock A24, k < _ := (fun k hk => Nat.lt_of_lt_of_le (hfr24 k hk) hb.size); replace hfr26 : ∀ k ∈ addrBlock A26, k < _ := (fun k hk => Nat.lt_of_lt_of_le (hfr26 k hk) hb.size); replace hfr28 : ∀ k ∈ addrBlock A28, k < _ := (fun k hk => Nat.lt_of_lt_of_le (hfr28 k hk) hb.size); replace hfr30 : ∀ k ∈ addrBlock A30, k < _ := (fun k hk => Nat.lt_of_lt_of_le (hfr30 k hk) hb.size); replace hfr32 : ∀ k ∈ addrBlock A32, k < _ := (fun k hk => Nat.lt_of_lt_of_le (hfr32 k hk) hb.size); replace hfr34 : ∀ k ∈ addrBlock A34, k < _ := (fun k hk => Nat.lt_of_lt_of_le (hfr34 k hk) hb.size); replace hcur := bthen hcur hb; go_wp2_with fail
      refine hK.out _ _ hcur (fun hHeld => ?_)
      clear hK K hHeld
      (try simp (config := {maxSteps := 2000000}) only [Act.put, List.setIfInBounds_toArray, List.set_cons_zero, List.set_cons_succ, List.getElem_toArray, List.getElem_cons_zero, List.getElem_cons_succ])
      refine wpAnyH_ready (rs := [27]) (by kernel_rfl) (by simp) ?_
      refine AllReadyH.cons (o := _) rfl (fun K hK => ?_) AllReadyH.nil
      go_simp; (with_reducible refine (cF F (by repeat (first | exact List.mem_cons_self .. | apply List.mem_cons_of_mem))).mono ?_); rintro e wn ⟨vn, rfl, ⟨b37, A37, n37, c37, rfl, o, hf⟩, hb⟩; replace F := (F.below hb).cons o; have hfr37 : ∀ k ∈ addrBlock A37, k < _ := (fun k hk => (hf k hk).2); clear hf; replace hfr11 : ∀ k ∈ addrBlock A11, k < _ := (fun k hk => Nat.lt_of_lt_of_le (hfr11 k hk) hb.size); replace hfr13 : ∀ k ∈ addrBlock A13, k < _ := (fun k hk => Nat.lt_of_lt_of_le (hfr13 k hk) hb.size); replace hfr16 : ∀ k ∈ addrBlock A16, k < _ := (fun k hk => Nat.lt_of_lt_of_le (hfr16 k hk) hb.size); replace hfr18 : ∀ k ∈ addrBlock A18, k < _ := (fun k hk => Nat.lt_of_lt_of_le (hfr18 k hk) hb.size); replace hfr24 : ∀ k ∈ addrBlock A24, k < _ := (fun k hk => Nat.lt_of_lt_of_le (hfr24 k hk) hb.size); replace hfr26 : ∀ k ∈ addrBlock A26, k < _ := (fun k hk => Nat.lt_of_lt_of_le (hfr26 k hk) hb.size); replace hfr28 : ∀ k ∈ addrBlock A28, k < _ := (fun k hk => Nat.lt_of_lt_of_le (hfr28 k hk) hb.size); replace hfr30 : ∀ k ∈ addrBlock A30, k < _ := (fun k hk => Nat.lt_of_lt_of_le (hfr30 k hk) hb.size); replace hfr32 : ∀ k ∈ addrBlock A32, k < _ := (fun k hk => Nat.lt_of_lt_of_le (hfr32 k hk) hb.size); replace hfr34 : ∀ k ∈ addrBlock A34, k < _ := (fun k hk => Nat.lt_of_lt_of_le (hfr34 k hk) hb.size); replace hcur := bthen hcur hb; go_wp2_with fail
      refine hK.out _ _ hcur (fun hHeld => ?_)
      clear hK K hHeld
      (try simp (config := {maxSteps := 2000000}) only [Act.put, List.setIfInBounds_toArray, List.set_cons_zero, List.set_cons_succ, List.getElem_toArray, List.getElem_cons_zero, List.getElem_cons_succ])
      refine wpAnyH_ready (rs := [29]) (by kernel_rfl) (by simp) ?_
      refine AllReadyH.cons (o := _) rfl (fun K hK => ?_) AllReadyH.nil
      go_simp; (with_reducible refine (cF F (by repeat (first | exact List.mem_cons_self .. | apply List.mem_cons_of_mem))).mono ?_); rintro e wn ⟨vn, rfl, ⟨b39, A39, n39, c39, rfl, o, hf⟩, hb⟩; replace F := (F.below hb).cons o; have hfr39 : ∀ k ∈ addrBlock A39, k < _ := (fun k hk => (hf k hk).2); clear hf; replace hfr11 : ∀ k ∈ addrBlock A11, k < _ := (fun k hk => Nat.lt_of_lt_of_le (hfr11 k hk) hb.size); replace hfr13 : ∀ k ∈ addrBlock A13, k < _ := (fun k hk => Nat.lt_of_lt_of_le (hfr13 k hk) hb.size); replace hfr16 : ∀ k ∈ addrBlock A16, k < _ := (fun k hk => Nat.lt_of_lt_of_le (hfr16 k hk) hb.size); replace hfr18 : ∀ k ∈ addrBlock A18, k < _ := (fun k hk => Nat.lt_of_lt_of_le (hfr18 k hk) hb.size); replace hfr24 : ∀ k ∈ addrBlock A24, k < _ := (fun k hk => Nat.lt_of_lt_of_le (hfr24 k hk) hb.size); replace hfr26 : ∀ k ∈ addrBlock A26, k < _ := (fun k hk => Nat.lt_of_lt_of_le (hfr26 k hk) hb.size); replace hfr28 : ∀ k ∈ addrBlock A28, k < _ := (fun k hk => Nat.lt_of_lt_of_le (hfr28 k hk) hb.size); replace hfr30 : ∀ k ∈ addrBlock A30, k < _ := (fun k hk => Nat.lt_of_lt_of_le (hfr30 k hk) hb.size); replace hfr32 : ∀ k ∈ addrBlock A32, k < _ := (fun k hk => Nat.lt_of_lt_of_le (hfr32 k hk) hb.size); replace hfr34 : ∀ k ∈ addrBlock A34, k < _ := (fun k hk => Nat.lt_of_lt_of_le (hfr34 k hk) hb.size); replace hfr37 : ∀ k ∈ addrBlock A37, k < _ := (fun k hk => Nat.lt_of_lt_of_le (hfr37 k hk) hb.size); replace hcur := bthen hcur hb; go_wp2_with fail
      refine hK.out _ _ hcur (fun hHeld => ?_)
      clear hK K hHeld
      (try simp (config := {maxSteps := 2000000}) only [Act.put, List.setIfInBounds_toArray, List.set_cons_zero, List.set_cons_succ, List.getElem_toArray, List.getElem_cons_zero, List.getElem_cons_succ])
      refine wpAnyH_ready (rs := [30]) (by kernel_rfl) (by simp) ?_
      refine AllReadyH.cons (o := _) rfl (fun K hK => ?_) AllReadyH.nil
      go_simp; (with_reducible refine (cmpF F (by repeat (first | exact List.mem_cons_self .. | apply List.mem_cons_of_mem)) (by repeat (first | exact List.mem_cons_self .. | apply List.mem_cons_of_mem)) (by omega) (1) HC1.out).mono ?_); rintro e wn ⟨vn, rfl, rfl, hb⟩; replace F := F.below hb; replace hfr11 : ∀ k ∈ addrBlock A11, k < _ := (fun k hk => Nat.lt_of_lt_of_le (hfr11 k hk) hb.size); replace hfr13 : ∀ k ∈ addrBlock A13, k < _ := (fun k hk => Nat.lt_of_lt_of_le (hfr13 k hk) hb.size); replace hfr16 : ∀ k ∈ addrBlock A16, k < _ := (fun k hk => Nat.lt_of_lt_of_le (hfr16 k hk) hb.size); replace hfr18 : ∀ k ∈ addrBlock A18, k < _ := (fun k hk => Nat.lt_of_lt_of_le (hfr18 k hk) hb.size); replace hfr24 : ∀ k ∈ addrBlock A24, k < _ := (fun k hk => Nat.lt_of_lt_of_le (hfr24 k hk) hb.size); replace hfr26 : ∀ k ∈ addrBlock A26, k < _ := (fun k hk => Nat.lt_of_lt_of_le (hfr26 k hk) hb.size); replace hfr28 : ∀ k ∈ addrBlock A28, k < _ := (fun k hk => Nat.lt_of_lt_of_le (hfr28 k hk) hb.size); replace hfr30 : ∀ k ∈ addrBlock A30, k < _ := (fun k hk => Nat.lt_of_lt_of_le (hfr30 k hk) hb.size); replace hfr32 : ∀ k ∈ addrBlock A32, k < _ := (fun k hk => Nat.lt_of_lt_of_le (hfr32 k hk) hb.size); replace hfr34 : ∀ k ∈ addrBlock A34, k < _ := (fun k hk => Nat.lt_of_lt_of_le (hfr34 k hk) hb.size); replace hfr37 : ∀ k ∈ addrBlock A37, k < _ := (fun k hk => Nat.lt_of_lt_of_le (hfr37 k hk) hb.size); replace hfr39 : ∀ k ∈ addrBlock A39, k < _ := (fun k hk => Nat.lt_of_lt_of_le (hfr39 k hk) hb.size); replace hcur := bthen hcur hb; go_wp2_with fail
      refine hK.out _ _ hcur (fun hHeld => ?_)
      clear hK K hHeld
      (try simp (config := {maxSteps := 2000000}) only [Act.put, List.setIfInBounds_toArray, List.set_cons_zero, List.set_cons_succ, List.getElem_toArray, List.getElem_cons_zero, List.getElem_cons_succ])
      refine wpAnyH_take (i := 31) (oi := _) (v := .bool false) rfl (by kernel_rfl) (by kernel_rfl) (by kernel_rfl) (fun _ _ _ h => h) (Or.inl ⟨by kernel_rfl, fun W hSw => by ((try dsimp only at hSw); go_simp; try (with_reducible rfl))⟩) hcur ?_
      (try simp (config := {maxSteps := 2000000}) only [Act.put, List.setIfInBounds_toArray, List.set_cons_zero, List.set_cons_succ, List.getElem_toArray, List.getElem_cons_zero, List.getElem_cons_succ])
      refine wpAnyH_take (i := 32) (oi := _) (v := .bool false) rfl (by kernel_rfl) (by kernel_rfl) (by kernel_rfl) (fun _ _ _ h => h) (Or.inl ⟨by kernel_rfl, fun W hSw => by ((try dsimp only at hSw); go_simp; try (with_reducible rfl))⟩) hcur ?_
      (try simp (config := {maxSteps := 2000000}) only [Act.put, List.setIfInBounds_toArray, List.set_cons_zero, List.set_cons_succ, List.getElem_toArray, List.getElem_cons_zero, List.getElem_cons_succ])
      refine wpAnyH_done (by kernel_rfl) ?_ _
      refine NoPanic.normal ?_
      obtain ⟨rfl⟩ := hQ7
      (go_wp2_with fail)
      go_meet
      exact ⟨0, rfl, rfl, hcur⟩
  case rest =>
    obtain ⟨_, _, rfl, hbx⟩ := hcut
    replace F0 := F0.below hbx
    replace B3 := B3.below hbx
    replace B4 := B4.below hbx
    replace B5 := B5.below hbx
    replace hbt := bthen hbt hbx
    clear hbx
    (go_wp2_with fail)
    go_cut [7] (fun s7 wx => ∃ (g7 : Nat) (bx : Bool) (Ax : Option Addr) (nx cx : Nat), s7 = .pointer (some ⟨g7, 0, none⟩) ∧ Below wc.heap.size wc wx ∧ Blk wx g7 [.bool bx, .slice Ax nx cx] 26 ∧ Fs wx [⟨bx, Ax, nx, cx, z1 + -z1, k1 + k1 + 1, true⟩])
    case first =>
      have hcur := (Below.refl wc.heap.size wc).drew
      have F := F0.below hcur
      refine wp_gen2 (fun Q7 hQ7 => ?_)
      refine wp_region_held_drew (S := fun W => Below wc.heap.size wc W) (by kernel_rfl) hcur (fun hHeld => ?_)
      clear hHeld
      refine wpAnyH_take (i := 0) (oi := _) (v := .agg #[.bool n1, .slice A1 k1 c1]) rfl (by kernel_rfl) (by kernel_rfl) (by kernel_rfl) (fun _ _ _ h => h) (Or.inl ⟨by kernel_rfl, fun W hSw => by have Cb := (B3.below hSw).cells; ((try dsimp only at hSw); go_simp; try (with_reducible rfl))⟩) hcur ?_
      (try simp (config := {maxSteps := 2000000}) only [Act.put, List.setIfInBounds_toArray, List.set_cons_zero, List.set_cons_succ, List.getElem_toArray, List.getElem_cons_zero, List.getElem_cons_succ])
      refine wpAnyH_take (i := 2) (oi := _) (v := .agg #[.bool n1, .slice A1 k1 c1]) rfl (by kernel_rfl) (by kernel_rfl) (by kernel_rfl) (fun _ _ _ h => h) (Or.inl ⟨by kernel_rfl, fun W hSw => by have Cb := (B3.below hSw).cells; ((try dsimp only at hSw); go_simp; try (with_reducible rfl))⟩) hcur ?_
      (try simp (config := {maxSteps := 2000000}) only [Act.put, List.setIfInBounds_toArray, List.set_cons_zero, List.set_cons_succ, List.getElem_toArray, List.getElem_cons_zero, List.getElem_cons_succ])
      refine wpAnyH_ready (rs := [1, 7]) (by kernel_rfl) (by simp) ?_
      refine AllReadyH.cons (o := _) rfl (fun K hK => ?_) ?_
      · go_simp; (with_reducible refine (cF F (by repeat (first | exact List.mem_cons_self .. | apply List.mem_cons_of_mem))).mono ?_); rintro e wn ⟨vn, rfl, ⟨b44, A44, n44, c44, rfl, o, hf⟩, hb⟩; replace F := (F.below hb).cons o; have hfr44 : ∀ k ∈ addrBlock A44, k < _ := (fun k hk => (hf k hk).2); clear hf; replace hcur := bthen hcur hb; go_wp2_with fail
        refine hK.out _ _ hcur (fun hHeld => ?_)
        clear hK K hHeld
        (try simp (config := {maxSteps := 2000000}) only [Act.put, List.setIfInBounds_toArray, List.set_cons_zero, List.set_cons_succ, List.getElem_toArray, List.getElem_cons_zero, List.getElem_cons_succ])
        refine wpAnyH_ready (rs := [3, 7]) (by kernel_rfl) (by simp) ?_
        refine AllReadyH.cons (o := _) rfl (fun K hK => ?_) ?_
        · go_simp; (with_reducible refine (cF F (by repeat (first | exact List.mem_cons_self .. | apply List.mem_cons_of_mem))).mono ?_); rintro e wn ⟨vn, rfl, ⟨b46, A46, n46, c46, rfl, o, hf⟩, hb⟩; replace F := (F.below hb).cons o; have hfr46 : ∀ k ∈ addrBlock A46, k < _ := (fun k hk => (hf k hk).2); clear hf; replace hfr44 : ∀ k ∈ addrBlock A44, k < _ := (fun k hk => Nat.lt_of_lt_of_le (hfr44 k hk) hb.size); replace hcur := bthen hcur hb; go_wp2_with fail
          refine hK.out _ _ hcur (fun hHeld => ?_)
          clear hK K hHeld
          (try simp (config := {maxSteps := 2000000}) only [Act.put, List.setIfInBounds_toArray, List.set_cons_zero, List.set_cons_succ, List.getElem_toArray, List.getElem_cons_zero, List.getElem_cons_succ])
          refine wpAnyH_ready (rs := [4, 7]) (by kernel_rfl) (by simp) ?_
          refine AllReadyH.cons (o := _) rfl (fun K hK => ?_) ?_
          · go_simp; (with_reducible refine (negF F (by repeat (first | exact List.mem_cons_self .. | apply List.mem_cons_of_mem)) (by omega)).mono ?_); rintro e wn ⟨vn, rfl, ⟨b47, A47, n47, c47, rfl, o, hf⟩, hb⟩; replace F := (F.below hb).cons o; have hfr47 : ∀ k ∈ addrBlock A47, k < _ := (fun k hk => (hf k hk).2); clear hf; replace hfr44 : ∀ k ∈ addrBlock A44, k < _ := (fun k hk => Nat.lt_of_lt_of_le (hfr44 k hk) hb.size); replace hfr46 : ∀ k ∈ addrBlock A46, k < _ := (fun k hk => Nat.lt_of_lt_of_le (hfr46 k hk) hb.size); replace hcur := bthen hcur hb; go_wp2_with fail
            refine hK.out _ _ hcur (fun hHeld => ?_)
            clear hK K hHeld
            (try simp (config := {maxSteps := 2000000}) only [Act.put, List.setIfInBounds_toArray, List.set_cons_zero, List.set_cons_succ, List.getElem_toArray, List.getElem_cons_zero, List.getElem_cons_succ])
            refine wpAnyH_ready (rs := [5, 7]) (by kernel_rfl) (by simp) ?_
            refine AllReadyH.cons (o := _) rfl (fun K hK => ?_) ?_
            · refine st_lit (v := fun g => .slice (some ⟨g, 0, none⟩) 2 2) 48 rfl (cs := [.bool b44, .slice A44 n44 c44, .bool b47, .slice A47 n47 c47]) (t := 26) (by go_simp; try rfl) ?_; intro g48 wn hb Bl48 hg48; replace F := F.below hb; replace hfr44 : ∀ k ∈ addrBlock A44, k < _ := (fun k hk => Nat.lt_of_lt_of_le (hfr44 k hk) hb.size); replace hfr46 : ∀ k ∈ addrBlock A46, k < _ := (fun k hk => Nat.lt_of_lt_of_le (hfr46 k hk) hb.size); replace hfr47 : ∀ k ∈ addrBlock A47, k < _ := (fun k hk => Nat.lt_of_lt_of_le (hfr47 k hk) hb.size); replace hcur := bthen hcur hb
              refine hK.out _ _ hcur (fun hHeld => ?_)
              clear hK K hHeld
              (try simp (config := {maxSteps := 2000000}) only [Act.put, List.setIfInBounds_toArray, List.set_cons_zero, List.set_cons_succ, List.getElem_toArray, List.getElem_cons_zero, List.getElem_cons_succ])
              refine wpAnyH_ready (rs := [6, 7]) (by kernel_rfl) (by simp) ?_
              refine AllReadyH.cons (o := _) rfl (fun K hK => ?_) ?_
              · go_simp; (with_reducible refine (addF F Bl48 (by repeat (first | exact List.mem_cons_self .. | apply List.mem_cons_of_mem)) (by repeat (first | exact List.mem_cons_self .. | apply List.mem_cons_of_mem)) (by omega)).mono ?_); rintro e wn ⟨vn, rfl, ⟨b49, A49, n49, c49, rfl, o, hf⟩, hb⟩; replace F := (F.below hb).cons o; have hfr49 : ∀ k ∈ addrBlock A49, k < _ := (fun k hk => (hf k hk).2); clear hf; replace Bl48 := Bl48.below hb; replace hfr44 : ∀ k ∈ addrBlock A44, k < _ := (fun k hk => Nat.lt_of_lt_of_le (hfr44 k hk) hb.size); replace hfr46 : ∀ k ∈ addrBlock A46, k < _ := (fun k hk => Nat.lt_of_lt_of_le (hfr46 k hk) hb.size); replace hfr47 : ∀ k ∈ addrBlock A47, k < _ := (fun k hk => Nat.lt_of_lt_of_le (hfr47 k hk) hb.size); replace hcur := bthen hcur hb; go_wp2_with fail
                refine hK.out _ _ hcur (fun hHeld => ?_)
                clear hK K hHeld
                (try simp (config := {maxSteps := 2000000}) only [Act.put, List.setIfInBounds_toArray, List.set_cons_zero, List.set_cons_succ, List.getElem_toArray, List.getElem_cons_zero, List.getElem_cons_succ])
                refine wpAnyH_ready (rs := [7]) (by kernel_rfl) (by simp) ?_
                refine AllReadyH.cons (o := _) rfl (fun K hK => ?_) AllReadyH.nil
                refine st_alloc 7 rfl infoNum (cs := [.bool false, .slice none 0 0]) rfl ?_; intro g7 wn hb B7 hgn; have hne44_7 : ∀ k ∈ addrBlock A44, k ≠ g7 := (fun k hk e => by (have h1 := hfr44 k hk; omega)); have hne46_7 : ∀ k ∈ addrBlock A46, k ≠ g7 := (fun k hk e => by (have h1 := hfr46 k hk; omega)); have hne47_7 : ∀ k ∈ addrBlock A47, k ≠ g7 := (fun k hk e => by (have h1 := hfr47 k hk; omega)); have hne49_7 : ∀ k ∈ addrBlock A49, k ≠ g7 := (fun k hk e => by (have h1 := hfr49 k hk; omega)); have hg7 := Nat.le_trans hcur.size hgn; replace F := F.below hb; replace hfr44 : ∀ k ∈ addrBlock A44, k < _ := (fun k hk => Nat.lt_of_lt_of_le (hfr44 k hk) hb.size); replace hfr46 : ∀ k ∈ addrBlock A46, k < _ := (fun k hk => Nat.lt_of_lt_of_le (hfr46 k hk) hb.size); replace hfr47 : ∀ k ∈ addrBlock A47, k < _ := (fun k hk => Nat.lt_of_lt_of_le (hfr47 k hk) hb.size); replace hfr49 : ∀ k ∈ addrBlock A49, k < _ := (fun k hk => Nat.lt_of_lt_of_le (hfr49 k hk) hb.size); replace hcur := bthen hcur hb
                refine hK.out _ _ hcur (fun hHeld => ?_)
                clear hK K hHeld
                (try simp (config := {maxSteps := 2000000}) only [Act.put, List.setIfInBounds_toArray, List.set_cons_zero, List.set_cons_succ, List.getElem_toArray, List.getElem_cons_zero, List.getElem_cons_succ])
                refine wpAnyH_ready (rs := [8]) (by kernel_rfl) (by simp) ?_
                refine AllReadyH.cons (o := _) rfl (fun K hK => ?_) AllReadyH.nil
                refine st_store rfl rfl B7 (news := [.bool b49, .slice A49 n49 c49]) (by rfl) infoNum (by simp) (by simp [Value.oneCell']) ?_; intro wn hon Bx; simp only [List.take_zero, List.nil_append, List.length_cons, List.length_nil, List.drop_succ_cons, List.drop_zero, List.append_nil, List.cons_append] at Bx; replace B7 := Bx; clear Bx; have oo7 : NR.Ok _ _ := (F.out _ (show (⟨b49, A49, n49, c49, _, _, _⟩ : NR) ∈ _ from (by repeat (first | exact List.mem_cons_self .. | apply List.mem_cons_of_mem)))).only hon hne49_7; have F1 := F; clear F; have F := F0.below (hcur.trans (hon.below hg7)); clear F1; replace hcur := hcur.trans (hon.below hg7); clear hon
                refine hK.out _ _ hcur (fun hHeld => ?_)
                clear hK K hHeld
                (try simp (config := {maxSteps := 2000000}) only [Act.put, List.setIfInBounds_toArray, List.set_cons_zero, List.set_cons_succ, List.getElem_toArray, List.getElem_cons_zero, List.getElem_cons_succ])
                refine wpAnyH_done (by kernel_rfl) ?_ _
                refine NoPanic.normal ?_
                obtain ⟨rfl⟩ := hQ7
                (go_wp2_with fail)
                go_meet
                exact ⟨g7, _, _, _, _, rfl, hcur, B7, (Fs.nil _).cons oo7⟩
              refine AllReadyH.cons (o := _) rfl (fun K hK => ?_) ?_
              · refine st_alloc 7 rfl infoNum (cs := [.bool false, .slice none 0 0]) rfl ?_; intro g7 wn hb B7 hgn; have hne44_7 : ∀ k ∈ addrBlock A44, k ≠ g7 := (fun k hk e => by (have h1 := hfr44 k hk; omega)); have hne46_7 : ∀ k ∈ addrBlock A46, k ≠ g7 := (fun k hk e => by (have h1 := hfr46 k hk; omega)); have hne47_7 : ∀ k ∈ addrBlock A47, k ≠ g7 := (fun k hk e => by (have h1 := hfr47 k hk; omega)); have hg7 := Nat.le_trans hcur.size hgn; replace F := F.below hb; replace Bl48 := Bl48.below hb; replace hfr44 : ∀ k ∈ addrBlock A44, k < _ := (fun k hk => Nat.lt_of_lt_of_le (hfr44 k hk) hb.size); replace hfr46 : ∀ k ∈ addrBlock A46, k < _ := (fun k hk => Nat.lt_of_lt_of_le (hfr46 k hk) hb.size); replace hfr47 : ∀ k ∈ addrBlock A47, k < _ := (fun k hk => Nat.lt_of_lt_of_le (hfr47 k hk) hb.size); replace hcur := bthen hcur hb
                refine hK.out _ _ hcur (fun hHeld => ?_)
                clear hK K hHeld
                (try simp (config := {maxSteps := 2000000}) only [Act.put, List.setIfInBounds_toArray, List.set_cons_zero, List.set_cons_succ, List.getElem_toArray, List.getElem_cons_zero, List.getElem_cons_succ])
                refine wpAnyH_ready (rs := [6]) (by kernel_rfl) (by simp) ?_
                refine AllReadyH.cons (o := _) rfl (fun K hK => ?_) AllReadyH.nil
                go_simp; (with_reducible refine (addF F Bl48 (by repeat (first | exact List.mem_cons_self .. | apply List.mem_cons_of_mem)) (by repeat (first | exact List.mem_cons_self .. | apply List.mem_cons_of_mem)) (by omega)).mono ?_); rintro e wn ⟨vn, rfl, ⟨b49, A49, n49, c49, rfl, o, hf⟩, hb⟩; replace F := (F.below hb).cons o; have hne49_7 : ∀ k ∈ addrBlock A49, k ≠ g7 := (fun k hk e => by (have h1 := (hf k hk).1; have h2 := B7.lt; omega)); have hfr49 : ∀ k ∈ addrBlock A49, k < _ := (fun k hk => (hf k hk).2); clear hf; replace B7 := B7.below hb; replace Bl48 := Bl48.below hb; replace hfr44 : ∀ k ∈ addrBlock A44, k < _ := (fun k hk => Nat.lt_of_lt_of_le (hfr44 k hk) hb.size); replace hfr46 : ∀ k ∈ addrBlock A46, k < _ := (fun k hk => Nat.lt_of_lt_of_le (hfr46 k hk) hb.size); replace hfr47 : ∀ k ∈ addrBlock A47, k < _ := (fun k hk => Nat.lt_of_lt_of_le (hfr47 k hk) hb.size); replace hcur := bthen hcur hb; go_wp2_with fail
                refine hK.out _ _ hcur (fun hHeld => ?_)
                clear hK K hHeld
                (try simp (config := {maxSteps := 2000000}) only [Act.put, List.setIfInBounds_toArray, List.set_cons_zero, List.set_cons_succ, List.getElem_toArray, List.getElem_cons_zero, List.getElem_cons_succ])
                refine wpAnyH_ready (rs := [8]) (by kernel_rfl) (by simp) ?_
                refine AllReadyH.cons (o := _) rfl (fun K hK => ?_) AllReadyH.nil
                refine st_store rfl rfl B7 (news := [.bool b49, .slice A49 n49 c49]) (by rfl) infoNum (by simp) (by simp [Value.oneCell']) ?_; intro wn hon Bx; simp only [List.take_zero, List.nil_append, List.length_cons, List.length_nil, List.drop_succ_cons, List.drop_zero, List.append_nil, List.cons_append] at Bx; replace B7 := Bx; clear Bx; have oo7 : NR.Ok _ _ := (F.out _ (show (⟨b49, A49, n49, c49, _, _, _⟩ : NR) ∈ _ from (by repeat (first | exact List.mem_cons_self .. | apply List.mem_cons_of_mem)))).only hon hne49_7; have F1 := F; clear F; have F := F0.below (hcur.trans (hon.below hg7)); clear F1; replace hcur := hcur.trans (hon.below hg7); clear hon
                refine hK.out _ _ hcur (fun hHeld => ?_)
                clear hK K hHeld
                (try simp (config := {maxSteps := 2000000}) only [Act.put, List.setIfInBounds_toArray, List.set_cons_zero, List.set_cons_succ, List.getElem_toArray, List.getElem_cons_zero, List.getElem_cons_succ])
                refine wpAnyH_done (by kernel_rfl) ?_ _
                refine NoPanic.normal ?_
                obtain ⟨rfl⟩ := hQ7
                (go_wp2_with fail)
                go_meet
                exact ⟨g7, _, _, _, _, rfl, hcur, B7, (Fs.nil _).cons oo7⟩
              exact AllReadyH.nil
            refine AllReadyH.cons (o := _) rfl (fun K hK => ?_) ?_
            · refine st_alloc 7 rfl infoNum (cs := [.bool false, .slice none 0 0]) rfl ?_; intro g7 wn hb B7 hgn; have hne44_7 : ∀ k ∈ addrBlock A44, k ≠ g7 := (fun k hk e => by (have h1 := hfr44 k hk; omega)); have hne46_7 : ∀ k ∈ addrBlock A46, k ≠ g7 := (fun k hk e => by (have h1 := hfr46 k hk; omega)); have hne47_7 : ∀ k ∈ addrBlock A47, k ≠ g7 := (fun k hk e => by (have h1 := hfr47 k hk; omega)); have hg7 := Nat.le_trans hcur.size hgn; replace F := F.below hb; replace hfr44 : ∀ k ∈ addrBlock A44, k < _ := (fun k hk => Nat.lt_of_lt_of_le (hfr44 k hk) hb.size); replace hfr46 : ∀ k ∈ addrBlock A46, k < _ := (fun k hk => Nat.lt_of_lt_of_le (hfr46 k hk) hb.size); replace hfr47 : ∀ k ∈ addrBlock A47, k < _ := (fun k hk => Nat.lt_of_lt_of_le (hfr47 k hk) hb.size); replace hcur := bthen hcur hb
              refine hK.out _ _ hcur (fun hHeld => ?_)
              clear hK K hHeld
              (try simp (config := {maxSteps := 2000000}) only [Act.put, List.setIfInBounds_toArray, List.set_cons_zero, List.set_cons_succ, List.getElem_toArray, List.getElem_cons_zero, List.getElem_cons_succ])
              refine wpAnyH_ready (rs := [5]) (by kernel_rfl) (by simp) ?_
              refine AllReadyH.cons (o := _) rfl (fun K hK => ?_) AllReadyH.nil
              refine st_lit (v := fun g => .slice (some ⟨g, 0, none⟩) 2 2) 48 rfl (cs := [.bool b44, .slice A44 n44 c44, .bool b47, .slice A47 n47 c47]) (t := 26) (by go_simp; try rfl) ?_; intro g48 wn hb Bl48 hg48; replace F := F.below hb; replace B7 := B7.below hb; replace hfr44 : ∀ k ∈ addrBlock A44, k < _ := (fun k hk => Nat.lt_of_lt_of_le (hfr44 k hk) hb.size); replace hfr46 : ∀ k ∈ addrBlock A46, k < _ := (fun k hk => Nat.lt_of_lt_of_le (hfr46 k hk) hb.size); replace hfr47 : ∀ k ∈ addrBlock A47, k < _ := (fun k hk => Nat.lt_of_lt_of_le (hfr47 k hk) hb.size); replace hcur := bthen hcur hb
              refine hK.out _ _ hcur (fun hHeld => ?_)
              clear hK K hHeld
              (try simp (config := {maxSteps := 2000000}) only [Act.put, List.setIfInBounds_toArray, List.set_cons_zero, List.set_cons_succ, List.getElem_toArray, List.getElem_cons_zero, List.getElem_cons_succ])
              refine wpAnyH_ready (rs := [6]) (by kernel_rfl) (by simp) ?_
              refine AllReadyH.cons (o := _) rfl (fun K hK => ?_) AllReadyH.nil
              go_simp; (with_reducible refine (addF F Bl48 (by repeat (first | exact List.mem_cons_self .. | apply List.mem_cons_of_mem)) (by repeat (first | exact List.mem_cons_self .. | apply List.mem_cons_of_mem)) (by omega)).mono ?_); rintro e wn ⟨vn, rfl, ⟨b49, A49, n49, c49, rfl, o, hf⟩, hb⟩; replace F := (F.below hb).cons o; have hne49_7 : ∀ k ∈ addrBlock A49, k ≠ g7 := (fun k hk e => by (have h1 := (hf k hk).1; have h2 := B7.lt; omega)); have hfr49 : ∀ k ∈ addrBlock A49, k < _ := (fun k hk => (hf k hk).2); clear hf; replace B7 := B7.below hb; replace Bl48 := Bl48.below hb; replace hfr44 : ∀ k ∈ addrBlock A44, k < _ := (fun k hk => Nat.lt_of_lt_of_le (hfr44 k hk) hb.size); replace hfr46 : ∀ k ∈ addrBlock A46, k < _ := (fun k hk => Nat.lt_of_lt_of_le (hfr46 k hk) hb.size); replace hfr47 : ∀ k ∈ addrBlock A47, k < _ := (fun k hk => Nat.lt_of_lt_of_le (hfr47 k hk) hb.size); replace hcur := bthen hcur hb; go_wp2_with fail
              refine hK.out _ _ hcur (fun hHeld => ?_)
              clear hK K hHeld
              (try simp (config := {maxSteps := 2000000}) only [Act.put, List.setIfInBounds_toArray, List.set_cons_zero, List.set_cons_succ, List.getElem_toArray, List.getElem_cons_zero, List.getElem_cons_succ])
              refine wpAnyH_ready (rs := [8]) (by kernel_rfl) (by simp) ?_
              refine AllReadyH.cons (o := _) rfl (fun K hK => ?_) AllReadyH.nil
              refine st_store rfl rfl B7 (news := [.bool b49, .slice A49 n49 c49]) (by rfl) infoNum (by simp) (by simp [Value.oneCell']) ?_; intro wn hon Bx; simp only [List.take_zero, List.nil_append, List.length_cons, List.length_nil, List.drop_succ_cons, List.drop_zero, List.append_nil, List.cons_append] at Bx; replace B7 := Bx; clear Bx; have oo7 : NR.Ok _ _ := (F.out _ (show (⟨b49, A49, n49, c49, _, _, _⟩ : NR) ∈ _ from (by repeat (first | exact List.mem_cons_self .. | apply List.mem_cons_of_mem)))).only hon hne49_7; have F1 := F; clear F; have F := F0.below (hcur.trans (hon.below hg7)); clear F1; replace hcur := hcur.trans (hon.below hg7); clear hon
              refine hK.out _ _ hcur (fun hHeld => ?_)
              clear hK K hHeld
              (try simp (config := {maxSteps := 2000000}) only [Act.put, List.setIfInBounds_toArray, List.set_cons_zero, List.set_cons_succ, List.getElem_toArray, List.getElem_cons_zero, List.getElem_cons_succ])
              refine wpAnyH_done (by kernel_rfl) ?_ _
              refine NoPanic.normal ?_
              obtain ⟨rfl⟩ := hQ7
              (go_wp2_with fail)
              go_meet
              exact ⟨g7, _, _, _, _, rfl, hcur, B7, (Fs.nil _).cons oo7⟩
            exact AllReadyH.nil
          refine AllReadyH.cons (o := _) rfl (fun K hK => ?_) ?_
          · refine st_alloc 7 rfl infoNum (cs := [.bool false, .slice none 0 0]) rfl ?_; intro g7 wn hb B7 hgn; have hne44_7 : ∀ k ∈ addrBlock A44, k ≠ g7 := (fun k hk e => by (have h1 := hfr44 k hk; omega)); have hne46_7 : ∀ k ∈ addrBlock A46, k ≠ g7 := (fun k hk e => by (have h1 := hfr46 k hk; omega)); have hg7 := Nat.le_trans hcur.size hgn; replace F := F.below hb; replace hfr44 : ∀ k ∈ addrBlock A44, k < _ := (fun k hk => Nat.lt_of_lt_of_le (hfr44 k hk) hb.size); replace hfr46 : ∀ k ∈ addrBlock A46, k < _ := (fun k hk => Nat.lt_of_lt_of_le (hfr46 k hk) hb.size); replace hcur := bthen hcur hb
            refine hK.out _ _ hcur (fun hHeld => ?_)
            clear hK K hHeld
            (try simp (config := {maxSteps := 2000000}) only [Act.put, List.setIfInBounds_toArray, List.set_cons_zero, List.set_cons_succ, List.getElem_toArray, List.getElem_cons_zero, List.getElem_cons_succ])
            refine wpAnyH_ready (rs := [4]) (by kernel_rfl) (by simp) ?_
            refine AllReadyH.cons (o := _) rfl (fun K hK => ?_) AllReadyH.nil
            go_simp; (with_reducible refine (negF F (by repeat (first | exact List.mem_cons_self .. | apply List.mem_cons_of_mem)) (by omega)).mono ?_); rintro e wn ⟨vn, rfl, ⟨b47, A47, n47, c47, rfl, o, hf⟩, hb⟩; replace F := (F.below hb).cons o; have hne47_7 : ∀ k ∈ addrBlock A47, k ≠ g7 := (fun k hk e => by (have h1 := (hf k hk).1; have h2 := B7.lt; omega)); have hfr47 : ∀ k ∈ addrBlock A47, k < _ := (fun k hk => (hf k hk).2); clear hf; replace B7 := B7.below hb; replace hfr44 : ∀ k ∈ addrBlock A44, k < _ := (fun k hk => Nat.lt_of_lt_of_le (hfr44 k hk) hb.size); replace hfr46 : ∀ k ∈ addrBlock A46, k < _ := (fun k hk => Nat.lt_of_lt_of_le (hfr46 k hk) hb.size); replace hcur := bthen hcur hb; go_wp2_with fail
            refine hK.out _ _ hcur (fun hHeld => ?_)
            clear hK K hHeld
            (try simp (config := {maxSteps := 2000000}) only [Act.put, List.setIfInBounds_toArray, List.set_cons_zero, List.set_cons_succ, List.getElem_toArray, List.getElem_cons_zero, List.getElem_cons_succ])
            refine wpAnyH_ready (rs := [5]) (by kernel_rfl) (by simp) ?_
            refine AllReadyH.cons (o := _) rfl (fun K hK => ?_) AllReadyH.nil
            refine st_lit (v := fun g => .slice (some ⟨g, 0, none⟩) 2 2) 48 rfl (cs := [.bool b44, .slice A44 n44 c44, .bool b47, .slice A47 n47 c47]) (t := 26) (by go_simp; try rfl) ?_; intro g48 wn hb Bl48 hg48; replace F := F.below hb; replace B7 := B7.below hb; replace hfr44 : ∀ k ∈ addrBlock A44, k < _ := (fun k hk => Nat.lt_of_lt_of_le (hfr44 k hk) hb.size); replace hfr46 : ∀ k ∈ addrBlock A46, k < _ := (fun k hk => Nat.lt_of_lt_of_le (hfr46 k hk) hb.size); replace hfr47 : ∀ k ∈ addrBlock A47, k < _ := (fun k hk => Nat.lt_of_lt_of_le (hfr47 k hk) hb.size); replace hcur := bthen hcur hb
            refine hK.out _ _ hcur (fun hHeld => ?_)
            clear hK K hHeld
            (try simp (config := {maxSteps := 2000000}) only [Act.put, List.setIfInBounds_toArray, List.set_cons_zero, List.set_cons_succ, List.getElem_toArray, List.getElem_cons_zero, List.getElem_cons_succ])
            refine wpAnyH_ready (rs := [6]) (by kernel_rfl) (by simp) ?_
            refine AllReadyH.cons (o := _) rfl (fun K hK => ?_) AllReadyH.nil
            go_simp; (with_reducible refine (addF F Bl48 (by repeat (first | exact List.mem_cons_self .. | apply List.mem_cons_of_mem)) (by repeat (first | exact List.mem_cons_self .. | apply List.mem_cons_of_mem)) (by omega)).mono ?_); rintro e wn ⟨vn, rfl, ⟨b49, A49, n49, c49, rfl, o, hf⟩, hb⟩; replace F := (F.below hb).cons o; have hne49_7 : ∀ k ∈ addrBlock A49, k ≠ g7 := (fun k hk e => by (have h1 := (hf k hk).1; have h2 := B7.lt; omega)); have hfr49 : ∀ k ∈ addrBlock A49, k < _ := (fun k hk => (hf k hk).2); clear hf; replace B7 := B7.below hb; replace Bl48 := Bl48.below hb; replace hfr44 : ∀ k ∈ addrBlock A44, k < _ := (fun k hk => Nat.lt_of_lt_of_le (hfr44 k hk) hb.size); replace hfr46 : ∀ k ∈ addrBlock A46, k < _ := (fun k hk => Nat.lt_of_lt_of_le (hfr46 k hk) hb.size); replace hfr47 : ∀ k ∈ addrBlock A47, k < _ := (fun k hk => Nat.lt_of_lt_of_le (hfr47 k hk) hb.size); replace hcur := bthen hcur hb; go_wp2_with fail
            refine hK.out _ _ hcur (fun hHeld => ?_)
            clear hK K hHeld
            (try simp (config := {maxSteps := 2000000}) only [Act.put, List.setIfInBounds_toArray, List.set_cons_zero, List.set_cons_succ, List.getElem_toArray, List.getElem_cons_zero, List.getElem_cons_succ])
            refine wpAnyH_ready (rs := [8]) (by kernel_rfl) (by simp) ?_
            refine AllReadyH.cons (o := _) rfl (fun K hK => ?_) AllReadyH.nil
            refine st_store rfl rfl B7 (news := [.bool b49, .slice A49 n49 c49]) (by rfl) infoNum (by simp) (by simp [Value.oneCell']) ?_; intro wn hon Bx; simp only [List.take_zero, List.nil_append, List.length_cons, List.length_nil, List.drop_succ_cons, List.drop_zero, List.append_nil, List.cons_append] at Bx; replace B7 := Bx; clear Bx; have oo7 : NR.Ok _ _ := (F.out _ (show (⟨b49, A49, n49, c49, _, _, _⟩ : NR) ∈ _ from (by repeat (first | exact List.mem_cons_self .. | apply List.mem_cons_of_mem)))).only hon hne49_7; have F1 := F; clear F; have F := F0.below (hcur.trans (hon.below hg7)); clear F1; replace hcur := hcur.trans (hon.below hg7); clear hon
            refine hK.out _ _ hcur (fun hHeld => ?_)
            clear hK K hHeld
            (try simp (config := {maxSteps := 2000000}) only [Act.put, List.setIfInBounds_toArray, List.set_cons_zero, List.set_cons_succ, List.getElem_toArray, List.getElem_cons_zero, List.getElem_cons_succ])
            refine wpAnyH_done (by kernel_rfl) ?_ _
            refine NoPanic.normal ?_
            obtain ⟨rfl⟩ := hQ7
            (go_wp2_with fail)
            go_meet
            exact ⟨g7, _, _, _, _, rfl, hcur, B7, (Fs.nil _).cons oo7⟩
          exact AllReadyH.nil
        refine AllReadyH.cons (o := _) rfl (fun K hK => ?_) ?_
        · refine st_alloc 7 rfl infoNum (cs := [.bool false, .slice none 0 0]) rfl ?_; intro g7 wn hb B7 hgn; have hne44_7 : ∀ k ∈ addrBlock A44, k ≠ g7 := (fun k hk e => by (have h1 := hfr44 k hk; omega)); have hg7 := Nat.le_trans hcur.size hgn; replace F := F.below hb; replace hfr44 : ∀ k ∈ addrBlock A44, k < _ := (fun k hk => Nat.lt_of_lt_of_le (hfr44 k hk) hb.size); replace hcur := bthen hcur hb
          refine hK.out _ _ hcur (fun hHeld => ?_)
          clear hK K hHeld
          (try simp (config := {maxSteps := 2000000}) only [Act.put, List.setIfInBounds_toArray, List.set_cons_zero, List.set_cons_succ, List.getElem_toArray, List.getElem_cons_zero, List.getElem_cons_succ])
          refine wpAnyH_ready (rs := [3]) (by kernel_rfl) (by simp) ?_
          refine AllReadyH.cons (o := _) rfl (fun K hK => ?_) AllReadyH.nil
          go_simp; (with_reducible refine (cF F (by repeat (first | exact List.mem_cons_self .. | apply List.mem_cons_of_mem))).mono ?_); rintro e wn ⟨vn, rfl, ⟨b46, A46, n46, c46, rfl, o, hf⟩, hb⟩; replace F := (F.below hb).cons o; have hne46_7 : ∀ k ∈ addrBlock A46, k ≠ g7 := (fun k hk e => by (have h1 := (hf k hk).1; have h2 := B7.lt; omega)); have hfr46 : ∀ k ∈ addrBlock A46, k < _ := (fun k hk => (hf k hk).2); clear hf; replace B7 := B7.below hb; replace hfr44 : ∀ k ∈ addrBlock A44, k < _ := (fun k hk => Nat.lt_of_lt_of_le (hfr44 k hk) hb.size); replace hcur := bthen hcur hb; go_wp2_with fail
          refine hK.out _ _ hcur (fun hHeld => ?_)
          clear hK K hHeld
          (try simp (config := {maxSteps := 2000000}) only [Act.put, List.setIfInBounds_toArray, List.set_cons_zero, List.set_cons_succ, List.getElem_toArray, List.getElem_cons_zero, List.getElem_cons_succ])
          refine wpAnyH_ready (rs := [4]) (by kernel_rfl) (by simp) ?_
          refine AllReadyH.cons (o := _) rfl (fun K hK => ?_) AllReadyH.nil
          go_simp; (with_reducible refine (negF F (by repeat (first | exact List.mem_cons_self .. | apply List.mem_cons_of_mem)) (by omega)).mono ?_); rintro e wn ⟨vn, rfl, ⟨b47, A47, n47, c47, rfl, o, hf⟩, hb⟩; replace F := (F.below hb).cons o; have hne47_7 : ∀ k ∈ addrBlock A47, k ≠ g7 := (fun k hk e => by (have h1 := (hf k hk).1; have h2 := B7.lt; omega)); have hfr47 : ∀ k ∈ addrBlock A47, k < _ := (fun k hk => (hf k hk).2); clear hf; replace B7 := B7.below hb; replace hfr44 : ∀ k ∈ addrBlock A44, k < _ := (fun k hk => Nat.lt_of_lt_of_le (hfr44 k hk) hb.size); replace hfr46 : ∀ k ∈ addrBlock A46, k < _ := (fun k hk => Nat.lt_of_lt_of_le (hfr46 k hk) hb.size); replace hcur := bthen hcur hb; go_wp2_with fail
          refine hK.out _ _ hcur (fun hHeld => ?_)
          clear hK K hHeld
          (try simp (config := {maxSteps := 2000000}) only [Act.put, List.setIfInBounds_toArray, List.set_cons_zero, List.set_cons_succ, List.getElem_toArray, List.getElem_cons_zero, List.getElem_cons_succ])
          refine wpAnyH_ready (rs := [5]) (by kernel_rfl) (by simp) ?_
          refine AllReadyH.cons (o := _) rfl (fun K hK => ?_) AllReadyH.nil
          refine st_lit (v := fun g => .slice (some ⟨g, 0, none⟩) 2 2) 48 rfl (cs := [.bool b44, .slice A44 n44 c44, .bool b47, .slice A47 n47 c47]) (t := 26) (by go_simp; try rfl) ?_; intro g48 wn hb Bl48 hg48; replace F := F.below hb; replace B7 := B7.below hb; replace hfr44 : ∀ k ∈ addrBlock A44, k < _ := (fun k hk => Nat.lt_of_lt_of_le (hfr44 k hk) hb.size); replace hfr46 : ∀ k ∈ addrBlock A46, k < _ := (fun k hk => Nat.lt_of_lt_of_le (hfr46 k hk) hb.size); replace hfr47 : ∀ k ∈ addrBlock A47, k < _ := (fun k hk => Nat.lt_of_lt_of_le (hfr47 k hk) hb.size); replace hcur := bthen hcur hb
          refine hK.out _ _ hcur (fun hHeld => ?_)
          clear hK K hHeld
          (try simp (config := {maxSteps := 2000000}) only [Act.put, List.setIfInBounds_toArray, List.set_cons_zero, List.set_cons_succ, List.getElem_toArray, List.getElem_cons_zero, List.getElem_cons_succ])
          refine wpAnyH_ready (rs := [6]) (by kernel_rfl) (by simp) ?_
          refine AllReadyH.cons (o := _) rfl (fun K hK => ?_) AllReadyH.nil
          go_simp; (with_reducible refine (addF F Bl48 (by repeat (first | exact List.mem_cons_self .. | apply List.mem_cons_of_mem)) (by repeat (first | exact List.mem_cons_self .. | apply List.mem_cons_of_mem)) (by omega)).mono ?_); rintro e wn ⟨vn, rfl, ⟨b49, A49, n49, c49, rfl, o, hf⟩, hb⟩; replace F := (F.below hb).cons o; have hne49_7 : ∀ k ∈ addrBlock A49, k ≠ g7 := (fun k hk e => by (have h1 := (hf k hk).1; have h2 := B7.lt; omega)); have hfr49 : ∀ k ∈ addrBlock A49, k < _ := (fun k hk => (hf k hk).2); clear hf; replace B7 := B7.below hb; replace Bl48 := Bl48.below hb; replace hfr44 : ∀ k ∈ addrBlock A44, k < _ := (fun k hk => Nat.lt_of_lt_of_le (hfr44 k hk) hb.size); replace hfr46 : ∀ k ∈ addrBlock A46, k < _ := (fun k hk => Nat.lt_of_lt_of_le (hfr46 k hk) hb.size); replace hfr47 : ∀ k ∈ addrBlock A47, k < _ := (fun k hk => Nat.lt_of_lt_of_le (hfr47 k hk) hb.size); replace hcur := bthen hcur hb; go_wp2_with fail
          refine hK.out _ _ hcur (fun hHeld => ?_)
          clear hK K hHeld
          (try simp (config := {maxSteps := 2000000}) only [Act.put, List.setIfInBounds_toArray, List.set_cons_zero, List.set_cons_succ, List.getElem_toArray, List.getElem_cons_zero, List.getElem_cons_succ])
          refine wpAnyH_ready (rs := [8]) (by kernel_rfl) (by simp) ?_
          refine AllReadyH.cons (o := _) rfl (fun K hK => ?_) AllReadyH.nil
          refine st_store rfl rfl B7 (news := [.bool b49, .slice A49 n49 c49]) (by rfl) infoNum (by simp) (by simp [Value.oneCell']) ?_; intro wn hon Bx; simp only [List.take_zero, List.nil_append, List.length_cons, List.length_nil, List.drop_succ_cons, List.drop_zero, List.append_nil, List.cons_append] at Bx; replace B7 := Bx; clear Bx; have oo7 : NR.Ok _ _ := (F.out _ (show (⟨b49, A49, n49, c49, _, _, _⟩ : NR) ∈ _ from (by repeat (first | exact List.mem_cons_self .. | apply List.mem_cons_of_mem)))).only hon hne49_7; have F1 := F; clear F; have F := F0.below (hcur.trans (hon.below hg7)); clear F1; replace hcur := hcur.trans (hon.below hg7); clear hon
          refine hK.out _ _ hcur (fun hHeld => ?_)
          clear hK K hHeld
          (try simp (config := {maxSteps := 2000000}) only [Act.put, List.setIfInBounds_toArray, List.set_cons_zero, List.set_cons_succ, List.getElem_toArray, List.getElem_cons_zero, List.getElem_cons_succ])
          refine wpAnyH_done (by kernel_rfl) ?_ _
          refine NoPanic.normal ?_
          obtain ⟨rfl⟩ := hQ7
          (go_wp2_with fail)
          go_meet
          exact ⟨g7, _, _, _, _, rfl, hcur, B7, (Fs.nil _).cons oo7⟩
        exact AllReadyH.nil
      refine AllReadyH.cons (o := _) rfl (fun K hK => ?_) ?_
      · refine st_alloc 7 rfl infoNum (cs := [.bool false, .slice none 0 0]) rfl ?_; intro g7 wn hb B7 hgn; have hg7 := Nat.le_trans hcur.size hgn; replace F := F.below hb; replace hcur := bthen hcur hb
        refine hK.out _ _ hcur (fun hHeld => ?_)
        clear hK K hHeld
        (try simp (config := {maxSteps := 2000000}) only [Act.put, List.setIfInBounds_toArray, List.set_cons_zero, List.set_cons_succ, List.getElem_toArray, List.getElem_cons_zero, List.getElem_cons_succ])
        refine wpAnyH_ready (rs := [1]) (by kernel_rfl) (by simp) ?_
        refine AllReadyH.cons (o := _) rfl (fun K hK => ?_) AllReadyH.nil
        go_simp; (with_reducible refine (cF F (by repeat (first | exact List.mem_cons_self .. | apply List.mem_cons_of_mem))).mono ?_); rintro e wn ⟨vn, rfl, ⟨b44, A44, n44, c44, rfl, o, hf⟩, hb⟩; replace F := (F.below hb).cons o; have hne44_7 : ∀ k ∈ addrBlock A44, k ≠ g7 := (fun k hk e => by (have h1 := (hf k hk).1; have h2 := B7.lt; omega)); have hfr44 : ∀ k ∈ addrBlock A44, k < _ := (fun k hk => (hf k hk).2); clear hf; replace B7 := B7.below hb; replace hcur := bthen hcur hb; go_wp2_with fail
        refine hK.out _ _ hcur (fun hHeld => ?_)
        clear hK K hHeld
        (try simp (config := {maxSteps := 2000000}) only [Act.put, List.setIfInBounds_toArray, List.set_cons_zero, List.set_cons_succ, List.getElem_toArray, List.getElem_cons_zero, List.getElem_cons_succ])
        refine wpAnyH_ready (rs := [3]) (by kernel_rfl) (by simp) ?_
        refine AllReadyH.cons (o := _) rfl (fun K hK => ?_) AllReadyH.nil
        go_simp; (with_reducible refine (cF F (by repeat (first | exact List.mem_cons_self .. | apply List.mem_cons_of_mem))).mono ?_); rintro e wn ⟨vn, rfl, ⟨b46, A46, n46, c46, rfl, o, hf⟩, hb⟩; replace F := (F.below hb).cons o; have hne46_7 : ∀ k ∈ addrBlock A46, k ≠ g7 := (fun k hk e => by (have h1 := (hf k hk).1; have h2 := B7.lt; omega)); have hfr46 : ∀ k ∈ addrBlock A46, k < _ := (fun k hk => (hf k hk).2); clear hf; replace B7 := B7.below hb; replace hfr44 : ∀ k ∈ addrBlock A44, k < _ := (fun k hk => Nat.lt_of_lt_of_le (hfr44 k hk) hb.size); replace hcur := bthen hcur hb; go_wp2_with fail
        refine hK.out _ _ hcur (fun hHeld => ?_)
        clear hK K hHeld
        (try simp (config := {maxSteps := 2000000}) only [Act.put, List.setIfInBounds_toArray, List.set_cons_zero, List.set_cons_succ, List.getElem_toArray, List.getElem_cons_zero, List.getElem_cons_succ])
        refine wpAnyH_ready (rs := [4]) (by kernel_rfl) (by simp) ?_
        refine AllReadyH.cons (o := _) rfl (fun K hK => ?_) AllReadyH.nil
        go_simp; (with_reducible refine (negF F (by repeat (first | exact List.mem_cons_self .. | apply List.mem_cons_of_mem)) (by omega)).mono ?_); rintro e wn ⟨vn, rfl, ⟨b47, A47, n47, c47, rfl, o, hf⟩, hb⟩; replace F := (F.below hb).cons o; have hne47_7 : ∀ k ∈ addrBlock A47, k ≠ g7 := (fun k hk e => by (have h1 := (hf k hk).1; have h2 := B7.lt; omega)); have hfr47 : ∀ k ∈ addrBlock A47, k < _ := (fun k hk => (hf k hk).2); clear hf; replace B7 := B7.below hb; replace hfr44 : ∀ k ∈ addrBlock A44, k < _ := (fun k hk => Nat.lt_of_lt_of_le (hfr44 k hk) hb.size); replace hfr46 : ∀ k ∈ addrBlock A46, k < _ := (fun k hk => Nat.lt_of_lt_of_le (hfr46 k hk) hb.size); replace hcur := bthen hcur hb; go_wp2_with fail
        refine hK.out _ _ hcur (fun hHeld => ?_)
        clear hK K hHeld
        (try simp (config := {maxSteps := 2000000}) only [Act.put, List.setIfInBounds_toArray, List.set_cons_zero, List.set_cons_succ, List.getElem_toArray, List.getElem_cons_zero, List.getElem_cons_succ])
        refine wpAnyH_ready (rs := [5]) (by kernel_rfl) (by simp) ?_
        refine AllReadyH.cons (o := _) rfl (fun K hK => ?_) AllReadyH.nil
        refine st_lit (v := fun g => .slice (some ⟨g, 0, none⟩) 2 2) 48 rfl (cs := [.bool b44, .slice A44 n44 c44, .bool b47, .slice A47 n47 c47]) (t := 26) (by go_simp; try rfl) ?_; intro g48 wn hb Bl48 hg48; replace F := F.below hb; replace B7 := B7.below hb; replace hfr44 : ∀ k ∈ addrBlock A44, k < _ := (fun k hk => Nat.lt_of_lt_of_le (hfr44 k hk) hb.size); replace hfr46 : ∀ k ∈ addrBlock A46, k < _ := (fun k hk => Nat.lt_of_lt_of_le (hfr46 k hk) hb.size); replace hfr47 : ∀ k ∈ addrBlock A47, k < _ := (fun k hk => Nat.lt_of_lt_of_le (hfr47 k hk) hb.size); replace hcur := bthen hcur hb
        refine hK.out _ _ hcur (fun hHeld => ?_)
        clear hK K hHeld
        (try simp (config := {maxSteps := 2000000}) only [Act.put, List.setIfInBounds_toArray, List.set_cons_zero, List.set_cons_succ, List.getElem_toArray, List.getElem_cons_zero, List.getElem_cons_succ])
        refine wpAnyH_ready (rs := [6]) (by kernel_rfl) (by simp) ?_
        refine AllReadyH.cons (o := _) rfl (fun K hK => ?_) AllReadyH.nil
        go_simp; (with_reducible refine (addF F Bl48 (by repeat (first | exact List.mem_cons_self .. | apply List.mem_cons_of_mem)) (by repeat (first | exact List.mem_cons_self .. | apply List.mem_cons_of_mem)) (by omega)).mono ?_); rintro e wn ⟨vn, rfl, ⟨b49, A49, n49, c49, rfl, o, hf⟩, hb⟩; replace F := (F.below hb).cons o; have hne49_7 : ∀ k ∈ addrBlock A49, k ≠ g7 := (fun k hk e => by (have h1 := (hf k hk).1; have h2 := B7.lt; omega)); have hfr49 : ∀ k ∈ addrBlock A49, k < _ := (fun k hk => (hf k hk).2); clear hf; replace B7 := B7.below hb; replace Bl48 := Bl48.below hb; replace hfr44 : ∀ k ∈ addrBlock A44, k < _ := (fun k hk => Nat.lt_of_lt_of_le (hfr44 k hk) hb.size); replace hfr46 : ∀ k ∈ addrBlock A46, k < _ := (fun k hk => Nat.lt_of_lt_of_le (hfr46 k hk) hb.size); replace hfr47 : ∀ k ∈ addrBlock A47, k < _ := (fun k hk => Nat.lt_of_lt_of_le (hfr47 k hk) hb.size); replace hcur := bthen hcur hb; go_wp2_with fail
        refine hK.out _ _ hcur (fun hHeld => ?_)
        clear hK K hHeld
        (try simp (config := {maxSteps := 2000000}) only [Act.put, List.setIfInBounds_toArray, List.set_cons_zero, List.set_cons_succ, List.getElem_toArray, List.getElem_cons_zero, List.getElem_cons_succ])
        refine wpAnyH_ready (rs := [8]) (by kernel_rfl) (by simp) ?_
        refine AllReadyH.cons (o := _) rfl (fun K hK => ?_) AllReadyH.nil
        refine st_store rfl rfl B7 (news := [.bool b49, .slice A49 n49 c49]) (by rfl) infoNum (by simp) (by simp [Value.oneCell']) ?_; intro wn hon Bx; simp only [List.take_zero, List.nil_append, List.length_cons, List.length_nil, List.drop_succ_cons, List.drop_zero, List.append_nil, List.cons_append] at Bx; replace B7 := Bx; clear Bx; have oo7 : NR.Ok _ _ := (F.out _ (show (⟨b49, A49, n49, c49, _, _, _⟩ : NR) ∈ _ from (by repeat (first | exact List.mem_cons_self .. | apply List.mem_cons_of_mem)))).only hon hne49_7; have F1 := F; clear F; have F := F0.below (hcur.trans (hon.below hg7)); clear F1; replace hcur := hcur.trans (hon.below hg7); clear hon
        refine hK.out _ _ hcur (fun hHeld => ?_)
        clear hK K hHeld
        (try simp (config := {maxSteps := 2000000}) only [Act.put, List.setIfInBounds_toArray, List.set_cons_zero, List.set_cons_succ, List.getElem_toArray, List.getElem_cons_zero, List.getElem_cons_succ])
        refine wpAnyH_done (by kernel_rfl) ?_ _
        refine NoPanic.normal ?_
        obtain ⟨rfl⟩ := hQ7
        (go_wp2_with fail)
        go_meet
        exact ⟨g7, _, _, _, _, rfl, hcur, B7, (Fs.nil _).cons oo7⟩
      exact AllReadyH.nil
    case rest =>
      obtain ⟨g7, b7x, A7x, n7x, c7x, rfl, hbx, B7, Fx⟩ := hcut
      replace F0 := (F0.below hbx).cons (Fx.out _ (List.mem_cons_self ..))
      replace B3 := B3.below hbx
      replace B4 := B4.below hbx
      replace B5 := B5.below hbx
      replace hbt := bthen hbt hbx
      clear hbx Fx
      obtain ⟨rfl, rfl⟩ := (F0.out _ (List.mem_cons_self ..)).zero (by omega)
      obtain ⟨T, hT⟩ : ∃ T, numZ z1 = T := ⟨_, rfl⟩
      have HTx := As.mk hT
      have HP := As.mk (fun W => parseZ z1 k1 W Hsm.out (by omega) T hT)
      have HCs : As (cmpZ z1 z1 = 0) := ⟨by rw [cmpZ, if_neg (by omega), if_pos (by omega)]⟩
      clear hT
      have C3 := B3.cells
      go_wp2_with (first
        | (go_at_call 21; (with_reducible refine (cF F0 (by repeat (first | exact List.mem_cons_self .. | apply List.mem_cons_of_mem))).mono ?_); rintro e wn ⟨vn, rfl, ⟨b52, A52, n52, c52, rfl, o52, _⟩, hbn⟩; clear C3; replace F0 := (F0.below hbn).cons o52; replace B3 := B3.below hbn; replace B4 := B4.below hbn; replace B5 := B5.below hbn; replace B7 := B7.below hbn; replace hbt := bthen hbt hbn; clear o52 hbn)
        | (go_at_call 43; (with_reducible refine (textF F0 (by repeat (first | exact List.mem_cons_self .. | apply List.mem_cons_of_mem)) (HT.out.below hbt) T HTx.out).mono ?_); rintro e wn ⟨vn, rfl, rfl, hbn⟩; replace F0 := F0.below hbn; replace B3 := B3.below hbn; replace B4 := B4.below hbn; replace B5 := B5.below hbn; replace B7 := B7.below hbn; replace hbt := bthen hbt hbn; clear hbn)
        | (go_at_call 41; (refine (HP.out _).mono ?_); rintro e wn ⟨vn, rfl, ⟨qn, rfl, ⟨b8, A8, n8, c8, rfl, o8, _⟩⟩, hbn⟩; replace F0 := (F0.below hbn).cons o8; replace B3 := B3.below hbn; replace B4 := B4.below hbn; replace B5 := B5.below hbn; replace B7 := B7.below hbn; replace hbt := bthen hbt hbn; clear o8 hbn)
        | ((with_reducible refine g_dst 8 ?_); go_must (refine ev_alloc 8 rfl infoNum (cs := [.bool false, .slice none 0 0]) rfl ?_); intro g8 wn hb8 B8 hg8)
        | ((with_reducible refine g_store 8 ?_); go_must (refine ev_store rfl rfl B8 (news := [.bool b8, .slice A8 n8 c8]) (by rfl) infoNum (by simp) (by simp [Value.oneCell']) ?_); intro wn hon Bn; simp only [List.take_zero, List.nil_append, List.length_cons, List.length_nil, List.drop_succ_cons, List.drop_zero, List.append_nil, List.cons_append] at Bn; have hbn := hb8.trans (hon.below hg8); replace B8 := Bn; clear Bn; replace F0 := F0.below hbn; replace B3 := B3.below hbn; replace B4 := B4.below hbn; replace B5 := B5.below hbn; replace B7 := B7.below hbn; replace hbt := bthen hbt hbn; clear hb8 hon))
      obtain ⟨wd, rfl⟩ : ∃ wd : World, wd = wn := ⟨_, rfl⟩
      have hcur := (Below.refl wd.heap.size wd).drew
      have F := F0.below hcur
      refine wp_gen2 (fun Q7 hQ7 => ?_)
      refine wp_region_held_drew (S := fun W => Below wd.heap.size wd W) (by kernel_rfl) hcur (fun hHeld => ?_)
      clear hHeld
      refine wpAnyH_take (i := 0) (oi := _) (v := .pointer (some ⟨g7, 1, none⟩)) rfl (by kernel_rfl) (by kernel_rfl) (by kernel_rfl) (fun _ _ _ h => h) (Or.inl ⟨by kernel_rfl, fun W hSw => by ((try dsimp only at hSw); go_simp; try (with_reducible rfl))⟩) hcur ?_
      (try simp (config := {maxSteps := 2000000}) only [Act.put, List.setIfInBounds_toArray, List.set_cons_zero, List.set_cons_succ, List.getElem_toArray, List.getElem_cons_zero, List.getElem_cons_succ])
      refine wpAnyH_take (i := 1) (oi := _) (v := .slice A7x 0 c7x) rfl (by kernel_rfl) (by kernel_rfl) (by kernel_rfl) (fun _ _ _ h => h) (Or.inl ⟨by kernel_rfl, fun W hSw => by have Cb := (B7.below hSw).cells; ((try dsimp only at hSw); go_simp; try (with_reducible rfl))⟩) hcur ?_
      (try simp (config := {maxSteps := 2000000}) only [Act.put, List.setIfInBounds_toArray, List.set_cons_zero, List.set_cons_succ, List.getElem_toArray, List.getElem_cons_zero, List.getElem_cons_succ])
      refine wpAnyH_take (i := 2) (oi := _) (v := .int .i64 (0)) rfl (by kernel_rfl) (by kernel_rfl) (by kernel_rfl) (fun _ _ _ h => h) (Or.inl ⟨by kernel_rfl, fun W hSw => by ((try dsimp only at hSw); go_simp; try (with_reducible rfl))⟩) hcur ?_
      (try simp (config := {maxSteps := 2000000}) only [Act.put, List.setIfInBounds_toArray, List.set_cons_zero, List.set_cons_succ, List.getElem_toArray, List.getElem_cons_zero, List.getElem_cons_succ])
      refine wpAnyH_take (i := 3) (oi := _) (v := .bool true) rfl (by kernel_rfl) (by kernel_rfl) (by kernel_rfl) (fun _ _ _ h => h) (Or.inl ⟨by kernel_rfl, fun W hSw => by ((try dsimp only at hSw); go_simp; try (with_reducible rfl))⟩) hcur ?_
      (try simp (config := {maxSteps := 2000000}) only [Act.put, List.setIfInBounds_toArray, List.set_cons_zero, List.set_cons_succ, List.getElem_toArray, List.getElem_cons_zero, List.getElem_cons_succ])
      refine wpAnyH_take (i := 4) (oi := _) (v := .bool true) rfl (by kernel_rfl) (by kernel_rfl) (by kernel_rfl) (fun _ _ _ h => h) (Or.inl ⟨by kernel_rfl, fun W hSw => by ((try dsimp only at hSw); go_simp; try (with_reducible rfl))⟩) hcur ?_
      (try simp (config := {maxSteps := 2000000}) only [Act.put, List.setIfInBounds_toArray, List.set_cons_zero, List.set_cons_succ, List.getElem_toArray, List.getElem_cons_zero, List.getElem_cons_succ])
      refine wpAnyH_take (i := 5) (oi := _) (v := .pointer (some ⟨g7, 0, none⟩)) rfl (by kernel_rfl) (by kernel_rfl) (by kernel_rfl) (fun _ _ _ h => h) (Or.inl ⟨by kernel_rfl, fun W hSw => by ((try dsimp only at hSw); go_simp; try (with_reducible rfl))⟩) hcur ?_
      (try simp (config := {maxSteps := 2000000}) only [Act.put, List.setIfInBounds_toArray, List.set_cons_zero, List.set_cons_succ, List.getElem_toArray, List.getElem_cons_zero, List.getElem_cons_succ])
      refine wpAnyH_take (i := 6) (oi := _) (v := .bool false) rfl (by kernel_rfl) (by kernel_rfl) (by kernel_rfl) (fun _ _ _ h => h) (Or.inl ⟨by kernel_rfl, fun W hSw => by have Cb := (B7.below hSw).cells; ((try dsimp only at hSw); go_simp; try (with_reducible rfl))⟩) hcur ?_
      (try simp (config := {maxSteps := 2000000}) only [Act.put, List.setIfInBounds_toArray, List.set_cons_zero, List.set_cons_succ, List.getElem_toArray, List.getElem_cons_zero, List.getElem_cons_succ])
      refine wpAnyH_take (i := 7) (oi := _) (v := .bool true) rfl (by kernel_rfl) (by kernel_rfl) (by kernel_rfl) (fun _ _ _ h => h) (Or.inl ⟨by kernel_rfl, fun W hSw => by ((try dsimp only at hSw); go_simp; try (with_reducible rfl))⟩) hcur ?_
      (try simp (config := {maxSteps := 2000000}) only [Act.put, List.setIfInBounds_toArray, List.set_cons_zero, List.set_cons_succ, List.getElem_toArray, List.getElem_cons_zero, List.getElem_cons_succ])
      refine wpAnyH_take (i := 8) (oi := _) (v := .bool true) rfl (by kernel_rfl) (by kernel_rfl) (by kernel_rfl) (fun _ _ _ h => h) (Or.inl ⟨by kernel_rfl, fun W hSw => by ((try dsimp only at hSw); go_simp; try (with_reducible rfl))⟩) hcur ?_
      (try simp (config := {maxSteps := 2000000}) only [Act.put, List.setIfInBounds_toArray, List.set_cons_zero, List.set_cons_succ, List.getElem_toArray, List.getElem_cons_zero, List.getElem_cons_succ])
      refine wpAnyH_take (i := 9) (oi := _) (v := .bool true) rfl (by kernel_rfl) (by kernel_rfl) (by kernel_rfl) (fun _ _ _ h => h) (Or.inl ⟨by kernel_rfl, fun W hSw => by ((try dsimp only at hSw); go_simp; try (with_reducible rfl))⟩) hcur ?_
      (try simp (config := {maxSteps := 2000000}) only [Act.put, List.setIfInBounds_toArray, List.set_cons_zero, List.set_cons_succ, List.getElem_toArray, List.getElem_cons_zero, List.getElem_cons_succ])
      refine wpAnyH_take (i := 10) (oi := _) (v := .bool true) rfl (by kernel_rfl) (by kernel_rfl) (by kernel_rfl) (fun _ _ _ h => h) (Or.inl ⟨by kernel_rfl, fun W hSw => by ((try dsimp only at hSw); go_simp; try (with_reducible rfl))⟩) hcur ?_
      (try simp (config := {maxSteps := 2000000}) only [Act.put, List.setIfInBounds_toArray, List.set_cons_zero, List.set_cons_succ, List.getElem_toArray, List.getElem_cons_zero, List.getElem_cons_succ])
      refine wpAnyH_take (i := 11) (oi := _) (v := .bool true) rfl (by kernel_rfl) (by kernel_rfl) (by kernel_rfl) (fun _ _ _ h => h) (Or.inl ⟨by kernel_rfl, fun W hSw => by ((try dsimp only at hSw); go_simp; try (with_reducible rfl))⟩) hcur ?_
      (try simp (config := {maxSteps := 2000000}) only [Act.put, List.setIfInBounds_toArray, List.set_cons_zero, List.set_cons_succ, List.getElem_toArray, List.getElem_cons_zero, List.getElem_cons_succ])
      refine wpAnyH_take (i := 12) (oi := _) (v := .bool true) rfl (by kernel_rfl) (by kernel_rfl) (by kernel_rfl) (fun _ _ _ h => h) (Or.inl ⟨by kernel_rfl, fun W hSw => by ((try dsimp only at hSw); go_simp; try (with_reducible rfl))⟩) hcur ?_
      (try simp (config := {maxSteps := 2000000}) only [Act.put, List.setIfInBounds_toArray, List.set_cons_zero, List.set_cons_succ, List.getElem_toArray, List.getElem_cons_zero, List.getElem_cons_succ])
      refine wpAnyH_take (i := 13) (oi := _) (v := .agg #[.bool b8, .slice A8 n8 c8]) rfl (by kernel_rfl) (by kernel_rfl) (by kernel_rfl) (fun _ _ _ h => h) (Or.inl ⟨by kernel_rfl, fun W hSw => by have Cb := (B8.below hSw).cells; ((try dsimp only at hSw); go_simp; try (with_reducible rfl))⟩) hcur ?_
      (try simp (config := {maxSteps := 2000000}) only [Act.put, List.setIfInBounds_toArray, List.set_cons_zero, List.set_cons_succ, List.getElem_toArray, List.getElem_cons_zero, List.getElem_cons_succ])
      refine wpAnyH_take (i := 14) (oi := _) (v := .agg #[.bool n1, .slice A1 k1 c1]) rfl (by kernel_rfl) (by kernel_rfl) (by kernel_rfl) (fun _ _ _ h => h) (Or.inl ⟨by kernel_rfl, fun W hSw => by have Cb := (B3.below hSw).cells; ((try dsimp only at hSw); go_simp; try (with_reducible rfl))⟩) hcur ?_
      (try simp (config := {maxSteps := 2000000}) only [Act.put, List.setIfInBounds_toArray, List.set_cons_zero, List.set_cons_succ, List.getElem_toArray, List.getElem_cons_zero, List.getElem_cons_succ])
      refine wpAnyH_ready (rs := [15]) (by kernel_rfl) (by simp) ?_
      refine AllReadyH.cons (o := _) rfl (fun K hK => ?_) AllReadyH.nil
      go_simp; (with_reducible refine (cF F (by repeat (first | exact List.mem_cons_self .. | apply List.mem_cons_of_mem))).mono ?_); rintro e wn ⟨vn, rfl, ⟨b72, A72, n72, c72, rfl, o, hf⟩, hb⟩; replace F := (F.below hb).cons o; have hfr72 : ∀ k ∈ addrBlock A72, k < _ := (fun k hk => (hf k hk).2); clear hf; replace hcur := bthen hcur hb; go_wp2_with fail
      refine hK.out _ _ hcur (fun hHeld => ?_)
      clear hK K hHeld
      (try simp (config := {maxSteps := 2000000}) only [Act.put, List.setIfInBounds_toArray, List.set_cons_zero, List.set_cons_succ, List.getElem_toArray, List.getElem_cons_zero, List.getElem_cons_succ])
      refine wpAnyH_ready (rs := [16]) (by kernel_rfl) (by simp) ?_
      refine AllReadyH.cons (o := _) rfl (fun K hK => ?_) AllReadyH.nil
      go_simp; (with_reducible refine (cmpF F (by repeat (first | exact List.mem_cons_self .. | apply List.mem_cons_of_mem)) (by repeat (first | exact List.mem_cons_self .. | apply List.mem_cons_of_mem)) (by omega) (0) HCs.out).mono ?_); rintro e wn ⟨vn, rfl, rfl, hb⟩; replace F := F.below hb; replace hfr72 : ∀ k ∈ addrBlock A72, k < _ := (fun k hk => Nat.lt_of_lt_of_le (hfr72 k hk) hb.size); replace hcur := bthen hcur hb; go_wp2_with fail
      refine hK.out _ _ hcur (fun hHeld => ?_)
      clear hK K hHeld
      (try simp (config := {maxSteps := 2000000}) only [Act.put, List.setIfInBounds_toArray, List.set_cons_zero, List.set_cons_succ, List.getElem_toArray, List.getElem_cons_zero, List.getElem_cons_succ])
      refine wpAnyH_take (i := 17) (oi := _) (v := .bool true) rfl (by kernel_rfl) (by kernel_rfl) (by kernel_rfl) (fun _ _ _ h => h) (Or.inl ⟨by kernel_rfl, fun W hSw => by ((try dsimp only at hSw); go_simp; try (with_reducible rfl))⟩) hcur ?_
      (try simp (config := {maxSteps := 2000000}) only [Act.put, List.setIfInBounds_toArray, List.set_cons_zero, List.set_cons_succ, List.getElem_toArray, List.getElem_cons_zero, List.getElem_cons_succ])
      refine wpAnyH_take (i := 18) (oi := _) (v := .bool true) rfl (by kernel_rfl) (by kernel_rfl) (by kernel_rfl) (fun _ _ _ h => h) (Or.inl ⟨by kernel_rfl, fun W hSw => by ((try dsimp only at hSw); go_simp; try (with_reducible rfl))⟩) hcur ?_
      (try simp (config := {maxSteps := 2000000}) only [Act.put, List.setIfInBounds_toArray, List.set_cons_zero, List.set_cons_succ, List.getElem_toArray, List.getElem_cons_zero, List.getElem_cons_succ])
      refine wpAnyH_take (i := 19) (oi := _) (v := .bool true) rfl (by kernel_rfl) (by kernel_rfl) (by kernel_rfl) (fun _ _ _ h => h) (Or.inl ⟨by kernel_rfl, fun W hSw => by ((try dsimp only at hSw); go_simp; try (with_reducible rfl))⟩) hcur ?_
      (try simp (config := {maxSteps := 2000000}) only [Act.put, List.setIfInBounds_toArray, List.set_cons_zero, List.set_cons_succ, List.getElem_toArray, List.getElem_cons_zero, List.getElem_cons_succ])
      refine wpAnyH_take (i := 20) (oi := _) (v := .agg #[.bool b8, .slice A8 n8 c8]) rfl (by kernel_rfl) (by kernel_rfl) (by kernel_rfl) (fun _ _ _ h => h) (Or.inl ⟨by kernel_rfl, fun W hSw => by have Cb := (B8.below hSw).cells; ((try dsimp only at hSw); go_simp; try (with_reducible rfl))⟩) hcur ?_
      (try simp (config := {maxSteps := 2000000}) only [Act.put, List.setIfInBounds_toArray, List.set_cons_zero, List.set_cons_succ, List.getElem_toArray, List.getElem_cons_zero, List.getElem_cons_succ])
      refine wpAnyH_take (i := 21) (oi := _) (v := .agg #[.bool n1, .slice A1 k1 c1]) rfl (by kernel_rfl) (by kernel_rfl) (by kernel_rfl) (fun _ _ _ h => h) (Or.inl ⟨by kernel_rfl, fun W hSw => by have Cb := (B3.below hSw).cells; ((try dsimp only at hSw); go_simp; try (with_reducible rfl))⟩) hcur ?_
      (try simp (config := {maxSteps := 2000000}) only [Act.put, List.setIfInBounds_toArray, List.set_cons_zero, List.set_cons_succ, List.getElem_toArray, List.getElem_cons_zero, List.getElem_cons_succ])
      refine wpAnyH_ready (rs := [22]) (by kernel_rfl) (by simp) ?_
      refine AllReadyH.cons (o := _) rfl (fun K hK => ?_) AllReadyH.nil
      go_simp; (with_reducible refine (cF F (by repeat (first | exact List.mem_cons_self .. | apply List.mem_cons_of_mem))).mono ?_); rintro e wn ⟨vn, rfl, ⟨b79, A79, n79, c79, rfl, o, hf⟩, hb⟩; replace F := (F.below hb).cons o; have hfr79 : ∀ k ∈ addrBlock A79, k < _ := (fun k hk => (hf k hk).2); clear hf; replace hfr72 : ∀ k ∈ addrBlock A72, k < _ := (fun k hk => Nat.lt_of_lt_of_le (hfr72 k hk) hb.size); replace hcur := bthen hcur hb; go_wp2_with fail
      refine hK.out _ _ hcur (fun hHeld => ?_)
      clear hK K hHeld
      (try simp (config := {maxSteps := 2000000}) only [Act.put, List.setIfInBounds_toArray, List.set_cons_zero, List.set_cons_succ, List.getElem_toArray, List.getElem_cons_zero, List.getElem_cons_succ])
      refine wpAnyH_ready (rs := [23]) (by kernel_rfl) (by simp) ?_
      refine AllReadyH.cons (o := _) rfl (fun K hK => ?_) AllReadyH.nil
      refine st_lit (v := fun g => .slice (some ⟨g, 0, none⟩) 1 1) 80 rfl (cs := [.bool b79, .slice A79 n79 c79]) (t := 26) (by go_simp; try rfl) ?_; intro g80 wn hb Bl80 hg80; replace F := F.below hb; replace hfr72 : ∀ k ∈ addrBlock A72, k < _ := (fun k hk => Nat.lt_of_lt_of_le (hfr72 k hk) hb.size); replace hfr79 : ∀ k ∈ addrBlock A79, k < _ := (fun k hk => Nat.lt_of_lt_of_le (hfr79 k hk) hb.size); replace hcur := bthen hcur hb
      refine hK.out _ _ hcur (fun hHeld => ?_)
      clear hK K hHeld
      (try simp (config := {maxSteps := 2000000}) only [Act.put, List.setIfInBounds_toArray, List.set_cons_zero, List.set_cons_succ, List.getElem_toArray, List.getElem_cons_zero, List.getElem_cons_succ])
      refine wpAnyH_ready (rs := [24]) (by kernel_rfl) (by simp) ?_
      refine AllReadyH.cons (o := _) rfl (fun K hK => ?_) AllReadyH.nil
      go_simp; (with_reducible refine (addF1 F Bl80 (by repeat (first | exact List.mem_cons_self .. | apply List.mem_cons_of_mem)) (by omega)).mono ?_); rintro e wn ⟨vn, rfl, ⟨b81, A81, n81, c81, rfl, o, hf⟩, hb⟩; replace F := (F.below hb).cons o; have hfr81 : ∀ k ∈ addrBlock A81, k < _ := (fun k hk => (hf k hk).2); clear hf; replace Bl80 := Bl80.below hb; replace hfr72 : ∀ k ∈ addrBlock A72, k < _ := (fun k hk => Nat.lt_of_lt_of_le (hfr72 k hk) hb.size); replace hfr79 : ∀ k ∈ addrBlock A79, k < _ := (fun k hk => Nat.lt_of_lt_of_le (hfr79 k hk) hb.size); replace hcur := bthen hcur hb; go_wp2_with fail
      refine hK.out _ _ hcur (fun hHeld => ?_)
      clear hK K hHeld
      (try simp (config := {maxSteps := 2000000}) only [Act.put, List.setIfInBounds_toArray, List.set_cons_zero, List.set_cons_succ, List.getElem_toArray, List.getElem_cons_zero, List.getElem_cons_succ])
      refine wpAnyH_ready (rs := [25]) (by kernel_rfl) (by simp) ?_
      refine AllReadyH.cons (o := _) rfl (fun K hK => ?_) AllReadyH.nil
      go_simp; (with_reducible refine (sameF F (by repeat (first | exact List.mem_cons_self .. | apply List.mem_cons_of_mem)) (by repeat (first | exact List.mem_cons_self .. | apply List.mem_cons_of_mem)) (by first | with_reducible rfl | fail)).mono ?_); rintro e wn ⟨vn, rfl, rfl, hb⟩; replace F := F.below hb; replace hfr72 : ∀ k ∈ addrBlock A72, k < _ := (fun k hk => Nat.lt_of_lt_of_le (hfr72 k hk) hb.size); replace hfr79 : ∀ k ∈ addrBlock A79, k < _ := (fun k hk => Nat.lt_of_lt_of_le (hfr79 k hk) hb.size); replace hfr81 : ∀ k ∈ addrBlock A81, k < _ := (fun k hk => Nat.lt_of_lt_of_le (hfr81 k hk) hb.size); replace hcur := bthen hcur hb; go_wp2_with fail
      refine hK.out _ _ hcur (fun hHeld => ?_)
      clear hK K hHeld
      (try simp (config := {maxSteps := 2000000}) only [Act.put, List.setIfInBounds_toArray, List.set_cons_zero, List.set_cons_succ, List.getElem_toArray, List.getElem_cons_zero, List.getElem_cons_succ])
      refine wpAnyH_take (i := 26) (oi := _) (v := .bool true) rfl (by kernel_rfl) (by kernel_rfl) (by kernel_rfl) (fun _ _ _ h => h) (Or.inl ⟨by kernel_rfl, fun W hSw => by ((try dsimp only at hSw); go_simp; try (with_reducible rfl))⟩) hcur ?_
      (try simp (config := {maxSteps := 2000000}) only [Act.put, List.setIfInBounds_toArray, List.set_cons_zero, List.set_cons_succ, List.getElem_toArray, List.getElem_cons_zero, List.getElem_cons_succ])
      refine wpAnyH_take (i := 27) (oi := _) (v := .bool true) rfl (by kernel_rfl) (by kernel_rfl) (by kernel_rfl) (fun _ _ _ h => h) (Or.inl ⟨by kernel_rfl, fun W hSw => by ((try dsimp only at hSw); go_simp; try (with_reducible rfl))⟩) hcur ?_
      (try simp (config := {maxSteps := 2000000}) only [Act.put, List.setIfInBounds_toArray, List.set_cons_zero, List.set_cons_succ, List.getElem_toArray, List.getElem_cons_zero, List.getElem_cons_succ])
      refine wpAnyH_ready (rs := [28]) (by kernel_rfl) (by simp) ?_
      refine AllReadyH.cons (o := _) rfl (fun K hK => ?_) AllReadyH.nil
      go_simp; (with_reducible refine (awake02_any _ (HT.out.below (bthen hbt hcur))).mono ?_); rintro e wn ⟨vn, rfl, rfl, hb⟩; replace F := F.below hb; replace hfr72 : ∀ k ∈ addrBlock A72, k < _ := (fun k hk => Nat.lt_of_lt_of_le (hfr72 k hk) hb.size); replace hfr79 : ∀ k ∈ addrBlock A79, k < _ := (fun k hk => Nat.lt_of_lt_of_le (hfr79 k hk) hb.size); replace hfr81 : ∀ k ∈ addrBlock A81, k < _ := (fun k hk => Nat.lt_of_lt_of_le (hfr81 k hk) hb.size); replace hcur := bthen hcur hb; go_wp2_with fail
      refine hK.out _ _ hcur (fun hHeld => ?_)
      clear hK K hHeld
      (try simp (config := {maxSteps := 2000000}) only [Act.put, List.setIfInBounds_toArray, List.set_cons_zero, List.set_cons_succ, List.getElem_toArray, List.getElem_cons_zero, List.getElem_cons_succ])
      refine wpAnyH_take (i := 29) (oi := _) (v := .bool true) rfl (by kernel_rfl) (by kernel_rfl) (by kernel_rfl) (fun _ _ _ h => h) (Or.inl ⟨by kernel_rfl, fun W hSw => by ((try dsimp only at hSw); go_simp; try (with_reducible rfl))⟩) hcur ?_
      (try simp (config := {maxSteps := 2000000}) only [Act.put, List.setIfInBounds_toArray, List.set_cons_zero, List.set_cons_succ, List.getElem_toArray, List.getElem_cons_zero, List.getElem_cons_succ])
      refine wpAnyH_ready (rs := [30]) (by kernel_rfl) (by simp) ?_
      refine AllReadyH.cons (o := _) rfl (fun K hK => ?_) AllReadyH.nil
      go_simp
      refine hK.out _ _ hcur (fun hHeld => ?_)
      clear hK K hHeld
      (try simp (config := {maxSteps := 2000000}) only [Act.put, List.setIfInBounds_toArray, List.set_cons_zero, List.set_cons_succ, List.getElem_toArray, List.getElem_cons_zero, List.getElem_cons_succ])
      refine wpAnyH_done (by kernel_rfl) ?_ _
      refine NoPanic.normal ?_
      obtain ⟨rfl⟩ := hQ7
      (go_wp2_with fail)
      go_ret
      exact ⟨_, rfl, rfl, bthen hbt hcur⟩
end Go.Proofs.YtigoofeodbbbhaaDoor
