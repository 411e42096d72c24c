/- A part of the proof. -/
import Derived.Test.YtdapbegadhcpcaaGreatDoorRfO0
set_option linter.unusedVariables false
set_option linter.unusedSimpArgs false
namespace Go.Proofs.YtdapbegadhcpcaaGreatDoor
open Go.RowKit Go.Proofs.YtdapbegadhcpcaaGreatDoorL Go.Proofs.YtdapbegadhcpcaaGreatDoorM
set_option maxRecDepth 16000 in
set_option maxHeartbeats 40000000 in
theorem rlist_vec {w : World} {g i D : Nat} {T : ByteArray} (R : RR w g T i 0 0) (hT : T.size ≤ 65536) (hin : i + 2 ≤ T.size) (hD : D ≤ 100)
 (IHb : As (∀ k, i < k → PCr T (.blanks D k))) (IHn : As (∀ k, i < k → PCr T (.next D k))) (r : Rs) (hr : Run T.data.toList (.items true D (i + 2) []) r) :
 Calls Tryz.prog 32 #[.pointer (some ⟨g, 0, none⟩), .int .i64 (D : Int), .bool true] w fun x w' => ∃ v, x = .returned v ∧ Upg g w w' ∧ AftR w' g T r ∧ IsD w.heap.size w' r v := by
 have C := R.out.cells
 have hu := Upg.refl g w
 have hsl := size_list T
 have hi2 : i ≤ T.size := by omega
 have hg0 := R.lt
 have Hr0 := As.mk hr
 have hDi : ¬ (100 : Int) < (D : Int) := by omega
 clear hr
 go_enter Tryz.func32, Tryz.ntmps32
 go_wp2_with (first
  | ((with_reducible refine g_dst 6 ?_); go_must (refine ev_alloc 6 rfl infoD (cs := [.int .i64 0, .int .i64 0, .bool false, .slice none 0 0, .string ⟨#[]⟩, .slice none 0 0, .slice none 0 0]) rfl ?_); intro g4 wn hb B4 hg4; have hs4 := Nat.le_trans hu.size hg4; have hne4 : g4 ≠ g := (fun h => by have := R.lt; omega); clear hg4; replace R := R.below hb; clear C; have C := R.out.cells; replace hu := hu.trans (Upg.of_below hb); clear hb)
  | ((with_reducible refine g_store 23 ?_); go_must (refine ev_store rfl rfl R.out (news := [.int .i64 ((i + 1 : Nat) : Int)]) (by first | rfl | (go_simp; first | rfl | go_num | (simp; omega))) infoI (by simp) (by simp [Value.oneCell']) ?_); intro wn ho Bn; simp only [zI, zA, zC, zD, zE, zF, zH, zB, zG, Nat.reduceAdd] at Bn; have R2 : RR wn g T (i + 1) 0 0 := ⟨Bn⟩; clear Bn; have hq := Upg.of_only ho; clear C R; have R := R2; clear R2; have C := R.out.cells; replace hu := hu.trans hq; replace B4 := blk_upg B4 hq hne4; clear hq; clear ho)
  | ((with_reducible refine g_dst 7 ?_); go_must (refine ev_alloc 7 rfl infoD (cs := [.int .i64 0, .int .i64 0, .bool false, .slice none 0 0, .string ⟨#[]⟩, .slice none 0 0, .slice none 0 0]) rfl ?_); intro g5 wn hb B5 hg5; have hs5 := Nat.le_trans hu.size hg5; have hne5 : g5 ≠ g := (fun h => by have := R.lt; omega); have hn54 : g4 < g5 := Nat.lt_of_lt_of_le B4.lt hg5; clear hg5; replace R := R.below hb; clear C; have C := R.out.cells; replace hu := hu.trans (Upg.of_below hb); replace B4 := B4.below hb; clear hb)
  | ((with_reducible refine g_store 7 ?_); go_must (refine ev_store rfl rfl B5 (news := [.int .i64 6, .int .i64 0, .bool false, .slice none 0 0, .string ⟨#[]⟩, .slice none 0 0, .slice none 0 0]) (by rfl) infoD (by simp) (by simp [Value.oneCell']) ?_); intro wn ho Bn; simp only [encD, zA, zB, zC, zD, zE, zF, zG, zH] at Bn; replace hu := hu.only_new ho hs5; have R2 : RR wn g T _ _ _ := ⟨R.out.only ho (Ne.symm hne5)⟩; replace B4 := B4.only ho (by omega); clear C R; have R := R2; clear R2; have C := R.out.cells; replace B5 := Bn; clear Bn ho)
  | ((with_reducible refine g_store 32 ?_); go_must (refine ev_store rfl rfl R.out (news := [.int .i64 ((i + 2 : Nat) : Int)]) (by first | rfl | (go_simp; first | rfl | go_num | (simp; omega))) infoI (by simp) (by simp [Value.oneCell']) ?_); intro wn ho Bn; simp only [zI, zA, zC, zD, zE, zF, zH, zB, zG, Nat.reduceAdd] at Bn; have R2 : RR wn g T (i + 2) 0 0 := ⟨Bn⟩; clear Bn; have hq := Upg.of_only ho; clear C R; have R := R2; clear R2; have C := R.out.cells; replace hu := hu.trans hq; replace B4 := blk_upg B4 hq hne4; replace B5 := blk_upg B5 hq hne5; clear hq; clear ho)
  | ((with_reducible refine g_store 33 ?_); go_must (refine ev_store rfl rfl B5 (news := [.int .i64 7]) (by rfl) infoI (by simp) (by simp [Value.oneCell']) ?_); intro wn ho Bn; simp only [zI, zA, zC, zD, zE, zF, zH, zB, zG, Nat.reduceAdd] at Bn; replace hu := hu.only_new ho hs5; have R2 : RR wn g T _ _ _ := ⟨R.out.only ho (Ne.symm hne5)⟩; replace B4 := B4.only ho (by omega); clear C R; have R := R2; clear R2; have C := R.out.cells; replace B5 := Bn; clear Bn ho))
 have hgb : g < g5 + 1 := by omega
 go_loopw [] (fun wr => ∃ A c m acc, LJr w wr g g4 g5 T true D i r 7 A c m acc) (fun wr => muR T wr g)
 case atStart => exact ⟨none, 0, [], [], Its.nil _ _ _, hu, B4, B5, .inl ⟨i + 2, by omega, hin, by simp, R, Hr0.out⟩⟩
 case round =>
  clear R C hu B4 B5
  obtain ⟨A, c, m, acc, HI, hu, B4, B5, hst⟩ := hrel
  have hsW := Nat.le_refl (World.heap wr).size
  have h5W := B5.lt
  rcases hst with ⟨j, hij, hj, hml, R, hr⟩ | ⟨j, p, c0, hr, hc0, R⟩
  · have C := R.out.cells
    have Hat := As.mk R.at_
    have Her := As.mk R.err
    have Hml : As (m.length ≤ j ∧ j ≤ 65536) := ⟨hml, by omega⟩
    have HB := As.mk (IHb.out j hij)
    obtain ⟨q, hq, hrr⟩ := inv_items hr
    have Hq := As.mk hq
    cases q with
    | error pc =>
      obtain ⟨p, c0⟩ := pc
      have Hr : As (r = .error (p, c0)) := ⟨hrr⟩
      clear hr hrr hq hml
      go_wp2_with (first
       | (go_at_call 15; (with_reducible refine (PCr.blanksc HB.out hj hD R Hq.out).mono ?_); rintro e9 wn ⟨rfl, hq, haf⟩; clear C R; obtain ⟨j2, R, hc2⟩ : ∃ j2, RR wn g T j2 (p : Int) (c0 : Int) ∧ c0 ≠ 0 := haf; have hz : ((c0 : Int) != 0) = true := (by simpa using hc2); have hz2 : ((c0 : Int) == 0) = false := (by simpa using hc2); have HC2 := As.mk hc2; clear hc2; have C := R.out.cells; replace HI := HI.upg hq hgb hsW; replace hsW := Nat.le_trans hsW hq.size; replace hu := hu.trans hq; replace B4 := blk_upg B4 hq hne4; replace B5 := blk_upg B5 hq hne5; clear hq)
       | ((with_reducible refine g_store 6 ?_); go_must (refine ev_store rfl rfl B4 (news := [.int .i64 0, .int .i64 0, .bool false, .slice none 0 0, .string ⟨#[]⟩, .slice none 0 0, .slice none 0 0]) (by first | rfl | (go_simp; try rfl)) infoD (by simp [encD]) (by simp [encD, Value.oneCell']) ?_); intro wn ho Bn; simp only [encD, zA, zB, zC, zD, zE, zF, zG, zH] at Bn; replace hu := hu.only_new ho hs4; have R2 : RR wn g T _ _ _ := ⟨R.out.only ho (Ne.symm hne4)⟩; clear C R; have R := R2; clear R2; have C := R.out.cells; replace B4 := Bn; clear Bn))
      refine bodyPost_ret (results_cell_row rfl _ _ g4 35 ([.int .i64 0, .int .i64 0, .bool false, .slice none 0 0, .string ⟨#[]⟩, .slice none 0 0, .slice none 0 0] : List Value).toArray (0, 0) _ rfl B4.h Tryz.underlying35 rfl (by kernel_rfl)) rfl ?_
      exact ⟨_, rfl, hu, by rw [Hr.out]; exact ⟨_, R, HC2.out⟩, ldZ, rfl, good_z _ _ _ (by decide) (by decide) _, fun b hb => (by rw [ldZ, foot_z] at hb; cases hb), fun x e h => by rw [Hr.out] at h; cases h⟩
    | ok xe =>
      obtain ⟨x, e⟩ := xe
      have hje : j ≤ e := run_goes hq rfl
      have hel : e ≤ T.data.toList.length := run_le hq rfl (by simp only; omega)
      have hel2 : e ≤ T.size := by omega
      simp only at hrr
      have hf := icls_facts (s := T.data.toList) (v := true) (acc := acc) (e := e)
      cases hic : icls T.data.toList true acc e with
      | fin =>
        rw [hic] at hrr hf
        simp only at hrr hf
        have Hr : As (r = .error (T.size, 10)) := ⟨by rw [hrr, hsl]⟩
        have d1 : decide (T.size ≤ e) = true := decide_eq_true (by omega)
        clear hr hrr hq hml hic hf
        go_wp2_with (first
         | (go_at_call 15; (with_reducible refine (PCr.blanksc HB.out hj hD R Hq.out).mono ?_); rintro e9 wn ⟨rfl, hq, haf⟩; clear C R; obtain ⟨R, _⟩ : RR wn g T e 0 0 ∧ e ≤ T.size := haf; have C := R.out.cells; replace HI := HI.upg hq hgb hsW; replace hsW := Nat.le_trans hsW hq.size; replace hu := hu.trans hq; replace B4 := blk_upg B4 hq hne4; replace B5 := blk_upg B5 hq hne5; clear hq)
         | (go_at_call 16; (with_reducible refine (rend_b R true d1).mono ?_); rintro e9 wn ⟨vn, rfl, rfl, hb⟩; replace R := R.below hb; clear C; have C := R.out.cells; replace HI := HI.below hb hsW; replace hsW := Nat.le_trans hsW hb.size; replace hu := hu.trans (Upg.of_below hb); replace B4 := B4.below hb; replace B5 := B5.below hb; clear hb)
         | (go_at_call 31; (with_reducible refine (rfail_ok R 10 T.size).mono ?_); rintro e9 wn ⟨rfl, ho, R2⟩; have hq := Upg.of_only ho; clear C R; have R := R2; clear R2; have C := R.out.cells; replace HI := HI.upg hq hgb hsW; replace hsW := Nat.le_trans hsW hq.size; replace hu := hu.trans hq; replace B4 := blk_upg B4 hq hne4; replace B5 := blk_upg B5 hq hne5; clear hq; clear ho)
         | ((with_reducible refine g_store 6 ?_); go_must (refine ev_store rfl rfl B4 (news := [.int .i64 0, .int .i64 0, .bool false, .slice none 0 0, .string ⟨#[]⟩, .slice none 0 0, .slice none 0 0]) (by first | rfl | (go_simp; try rfl)) infoD (by simp [encD]) (by simp [encD, Value.oneCell']) ?_); intro wn ho Bn; simp only [encD, zA, zB, zC, zD, zE, zF, zG, zH] at Bn; replace hu := hu.only_new ho hs4; have R2 : RR wn g T _ _ _ := ⟨R.out.only ho (Ne.symm hne4)⟩; clear C R; have R := R2; clear R2; have C := R.out.cells; replace B4 := Bn; clear Bn))
        refine bodyPost_ret (results_cell_row rfl _ _ g4 35 ([.int .i64 0, .int .i64 0, .bool false, .slice none 0 0, .string ⟨#[]⟩, .slice none 0 0, .slice none 0 0] : List Value).toArray (0, 0) _ rfl B4.h Tryz.underlying35 rfl (by kernel_rfl)) rfl ?_
        exact ⟨_, rfl, hu, by rw [Hr.out]; exact ⟨_, R, by decide⟩, ldZ, rfl, good_z _ _ _ (by decide) (by decide) _, fun b hb => (by rw [ldZ, foot_z] at hb; cases hb), fun x e h => by rw [Hr.out] at h; cases h⟩
      | close =>
        rw [hic] at hrr hf
        simp only at hrr hf
        have f41 := hf.2
        have helT : e < T.size := by omega
        have Hr : As (r = .ok (dVec acc, e + 1)) := ⟨hrr⟩
        have d1 : decide (T.size ≤ e) = false := decide_eq_false (by omega)
        obtain ⟨c1, hc1⟩ := get_size T helT
        have hcx1 := get_c helT hc1
        have hei : (e : Int) < (T.size : Int) := by omega
        have e41 := c_pre hc1 41 (by omega)
        have e41' : ((c1.toNat : Int) == 41) = true := by rw [← f41]; exact e41
        clear hr hrr hq hml hic hf e41 hc1
        go_wp2_with (first
         | (go_at_call 15; (with_reducible refine (PCr.blanksc HB.out hj hD R Hq.out).mono ?_); rintro e9 wn ⟨rfl, hq, haf⟩; clear C R; obtain ⟨R, _⟩ : RR wn g T e 0 0 ∧ e ≤ T.size := haf; have C := R.out.cells; replace HI := HI.upg hq hgb hsW; replace hsW := Nat.le_trans hsW hq.size; replace hu := hu.trans hq; replace B4 := blk_upg B4 hq hne4; replace B5 := blk_upg B5 hq hne5; clear hq)
         | (go_at_call 16; (with_reducible refine (rend_b R false d1).mono ?_); rintro e9 wn ⟨vn, rfl, rfl, hb⟩; replace R := R.below hb; clear C; have C := R.out.cells; replace HI := HI.below hb hsW; replace hsW := Nat.le_trans hsW hb.size; replace hu := hu.trans (Upg.of_below hb); replace B4 := B4.below hb; replace B5 := B5.below hb; clear hb))
        (try go_wp2)
        have hb := (Below.refl (World.heap wn).size wn).drew
        replace R := R.below hb
        clear C
        have C := R.out.cells
        replace HI := HI.below hb hsW
        replace hsW := Nat.le_trans hsW hb.size
        replace hu := hu.trans (Upg.of_below hb)
        replace B4 := B4.below hb
        replace B5 := B5.below hb
        clear hb
        have hS : ∀ W, RR W g T e 0 0 → W.cell? ⟨g, 0, none⟩ = some (.string T) ∧ W.cell? ⟨g, 1, none⟩ = some (.int .i64 (e : Int)) := fun W R => ⟨R.out.cells 0, R.out.cells 1⟩
        have hS0 := hS _ R
        refine wp_gen2 (fun Q7 hQ7 => ?_)
        refine wp_region_held_drew (S := fun W => W.cell? ⟨g, 0, none⟩ = some (.string T) ∧ W.cell? ⟨g, 1, none⟩ = some (.int .i64 (e : Int))) (by kernel_rfl) (hS0) (fun hHeld => ?_)
        refine ta 0 (.pointer (some ⟨g, 0, none⟩)) ?_
        refine ta 1 (.pointer (some ⟨g, 0, none⟩)) ?_
        refine ta 2 (.pointer (some ⟨g, 0, none⟩)) ?_
        refine ta 3 (.string T) ?_
        refine ta 4 (.pointer (some ⟨g, 0, none⟩)) ?_
        refine ta 5 (.pointer (some ⟨g, 0, none⟩)) ?_
        refine ta 6 (.pointer (some ⟨g, 1, none⟩)) ?_
        refine ta 7 (.int .i64 (e : Int)) ?_
        refine ta 8 (.int .u8 (c1.toNat : Int)) ?_
        refine ta 9 (.bool true) ?_
        refine wpAnyH_done (by kernel_rfl) ?_ _
        refine NoPanic.normal ?_
        obtain ⟨rfl⟩ := hQ7
        clear hS hS0
        have C5 := B5.cells
        go_wp2_with (first
         | ((with_reducible refine g_store 75 ?_); go_must (refine ev_store rfl rfl R.out (news := [.int .i64 ((e + 1 : Nat) : Int)]) (by first | rfl | (go_simp; first | rfl | go_num | (simp; omega))) infoI (by simp) (by simp [Value.oneCell']) ?_); intro wn ho Bn; simp only [zI, zA, zC, zD, zE, zF, zH, zB, zG, Nat.reduceAdd] at Bn; have R2 : RR wn g T (e + 1) 0 0 := ⟨Bn⟩; clear Bn; have hq := Upg.of_only ho; clear C R; have R := R2; clear R2; have C := R.out.cells; replace HI := HI.upg hq hgb hsW; replace hsW := Nat.le_trans hsW hq.size; replace hu := hu.trans hq; replace B4 := blk_upg B4 hq hne4; replace B5 := blk_upg B5 hq hne5; clear hq; clear ho; clear C5; have C5 := B5.cells)
         | ((with_reducible refine g_store 6 ?_); go_must (refine ev_store rfl rfl B4 (news := [.int .i64 7, .int .i64 0, .bool false, .slice none 0 0, .string ⟨#[]⟩, .slice A m.length c, .slice none 0 0]) (by first | rfl | (go_simp; try rfl)) infoD (by simp [encD]) (by simp [encD, Value.oneCell']) ?_); intro wn ho Bn; simp only [encD, zA, zB, zC, zD, zE, zF, zG, zH] at Bn; replace hu := hu.only_new ho hs4; have R2 : RR wn g T _ _ _ := ⟨R.out.only ho (Ne.symm hne4)⟩; clear C R; have R := R2; clear R2; have C := R.out.cells; replace HI := HI.only ho (.inl (by omega)); replace B4 := Bn; clear Bn))
        refine bodyPost_ret (results_cell_row rfl _ _ g4 35 ([.int .i64 7, .int .i64 0, .bool false, .slice none 0 0, .string ⟨#[]⟩, .slice A m.length c, .slice none 0 0] : List Value).toArray (0, 0) _ rfl B4.h Tryz.underlying35 rfl (by kernel_rfl)) rfl ?_
        obtain ⟨A', c', hv', hc1, hc2⟩ := HI.ow.form
        simp only [Value.slice.injEq] at hv'
        obtain ⟨rfl, _, rfl⟩ := hv'
        refine ⟨_, rfl, hu, by rw [Hr.out]; exact ⟨R, by omega⟩, .mk 7 0 false none 0 [] [] A c m none 0 [], rfl, ?_, ?_, ?_⟩
        · exact .mk (by omega) (by omega) ⟨Rd.nil _ _ _ _, fun x hx => (nomatch hx), by simp, fun _ => rfl, by simp⟩ (HI.ow.rd lenD) hc1 HI.ow.none (Rd.nil _ _ _ _) (by simp) (fun _ => rfl) HI.good (fun x hx => (nomatch hx))
        · intro b hb
          rw [footD] at hb
          simp only [List.length_nil, if_true, List.nil_append, footAll, List.append_nil] at hb
          rcases List.mem_append.1 hb with hb | hb
          · split at hb
            · cases hb
            · have := own_block_ge HI.ow b hb; omega
          · have := (HI.low b hb).1; omega
        · intro x e he
          rw [Hr.out] at he
          cases he
          simp [erD, erAll, dList, dVec, HI.same]
      | bad =>
        rw [hic] at hrr hf
        simp only at hrr hf
        have helT : e < T.size := by omega
        have d1 : decide (T.size ≤ e) = false := decide_eq_false (by omega)
        obtain ⟨c1, hc1⟩ := get_size T helT
        have hcx1 := get_c helT hc1
        have hei : (e : Int) < (T.size : Int) := by omega
        have e41 := c_pre hc1 41 (by omega)
        have f41 := hf.2.1
        have fdot := hf.2.2.1
        have e41' : ((c1.toNat : Int) == 41) = false := by rw [← f41]; exact e41
        have Hr : As (r = .error (e, 15)) := ⟨hrr⟩
        clear hr hrr hq hml hic hf e41 hc1
        go_wp2_with (first
         | (go_at_call 15; (with_reducible refine (PCr.blanksc HB.out hj hD R Hq.out).mono ?_); rintro e9 wn ⟨rfl, hq, haf⟩; clear C R; obtain ⟨R, _⟩ : RR wn g T e 0 0 ∧ e ≤ T.size := haf; have C := R.out.cells; replace HI := HI.upg hq hgb hsW; replace hsW := Nat.le_trans hsW hq.size; replace hu := hu.trans hq; replace B4 := blk_upg B4 hq hne4; replace B5 := blk_upg B5 hq hne5; clear hq)
         | (go_at_call 16; (with_reducible refine (rend_b R false d1).mono ?_); rintro e9 wn ⟨vn, rfl, rfl, hb⟩; replace R := R.below hb; clear C; have C := R.out.cells; replace HI := HI.below hb hsW; replace hsW := Nat.le_trans hsW hb.size; replace hu := hu.trans (Upg.of_below hb); replace B4 := B4.below hb; replace B5 := B5.below hb; clear hb))
        (try go_wp2)
        have hb := (Below.refl (World.heap wn).size wn).drew
        replace R := R.below hb
        clear C
        have C := R.out.cells
        replace HI := HI.below hb hsW
        replace hsW := Nat.le_trans hsW hb.size
        replace hu := hu.trans (Upg.of_below hb)
        replace B4 := B4.below hb
        replace B5 := B5.below hb
        clear hb
        have hS : ∀ W, RR W g T e 0 0 → W.cell? ⟨g, 0, none⟩ = some (.string T) ∧ W.cell? ⟨g, 1, none⟩ = some (.int .i64 (e : Int)) := fun W R => ⟨R.out.cells 0, R.out.cells 1⟩
        have hS0 := hS _ R
        refine wp_gen2 (fun Q7 hQ7 => ?_)
        refine wp_region_held_drew (S := fun W => W.cell? ⟨g, 0, none⟩ = some (.string T) ∧ W.cell? ⟨g, 1, none⟩ = some (.int .i64 (e : Int))) (by kernel_rfl) (hS0) (fun hHeld => ?_)
        refine ta 0 (.pointer (some ⟨g, 0, none⟩)) ?_
        refine ta 1 (.pointer (some ⟨g, 0, none⟩)) ?_
        refine ta 2 (.pointer (some ⟨g, 0, none⟩)) ?_
        refine ta 3 (.string T) ?_
        refine ta 4 (.pointer (some ⟨g, 0, none⟩)) ?_
        refine ta 5 (.pointer (some ⟨g, 0, none⟩)) ?_
        refine ta 6 (.pointer (some ⟨g, 1, none⟩)) ?_
        refine ta 7 (.int .i64 (e : Int)) ?_
        refine ta 8 (.int .u8 (c1.toNat : Int)) ?_
        refine ta 9 (.bool false) ?_
        refine wpAnyH_done (by kernel_rfl) ?_ _
        refine NoPanic.normal ?_
        obtain ⟨rfl⟩ := hQ7
        clear hS hS0
        have C5 := B5.cells
        go_wp2_with (first
         | (go_at_call 47; (with_reducible refine (rdot_b R helT hT true fdot).mono ?_); rintro e9 wn ⟨vn, rfl, rfl, hb⟩; (try clear C5); replace R := R.below hb; clear C; have C := R.out.cells; replace HI := HI.below hb hsW; replace hsW := Nat.le_trans hsW hb.size; replace hu := hu.trans (Upg.of_below hb); replace B4 := B4.below hb; replace B5 := B5.below hb; clear hb; have C5 := B5.cells)
         | (go_at_call 48; have hsz := B4.lt; have hsu := hu.size; (with_reducible refine (rrest_bad R 7 A m.length c _ (.inl rfl)).mono ?_); rintro e9 wn ⟨vn, rfl, hq, haf, ⟨y, rfl, hgy, hfy, hey⟩⟩; replace hu := hu.trans hq; replace B4 := blk_upg B4 hq hne4; have hf1 : ∀ b ∈ footD y, w.heap.size ≤ b ∧ b ≠ g4 := (fun b hb => by have := hfy b hb; omega); have Haf := As.mk haf; clear C C5 R HI B5 hsW hfy hey haf hq hsz hsu; obtain ⟨kind, n0, neg, mA, mc, mag, text, Ai, ci, items, Ar, cr, rest⟩ := y)
         | ((with_reducible refine g_store 6 ?_); go_must (refine ev_store rfl rfl B4 (news := encD (.mk kind n0 neg mA mc mag text Ai ci items Ar cr rest)) (by first | rfl | (go_simp; try rfl)) infoD (by simp [encD]) (by simp [encD, Value.oneCell']) ?_); intro wn ho Bn; simp only [encD, zA, zB, zC, zD, zE, zF, zG, zH] at Bn; replace hu := hu.only_new ho hs4; replace hgy := good_only hgy ho (fun b hb => (hf1 b hb).2); replace Haf := As.mk (Haf.out.only ho (Ne.symm hne4)); replace B4 := Bn; clear Bn))
        refine bodyPost_ret (results_cell_row rfl _ _ g4 35 (encD (.mk kind n0 neg mA mc mag text Ai ci items Ar cr rest)).toArray (0, 0) _ rfl B4.h Tryz.underlying35 rfl (by kernel_rfl)) rfl ?_
        exact ⟨_, rfl, hu, by rw [Hr.out]; exact Haf.out, (.mk kind n0 neg mA mc mag text Ai ci items Ar cr rest), rfl, hgy, fun b hb => (hf1 b hb).1, fun x e h => by rw [Hr.out] at h; cases h⟩
      | more =>
        rw [hic] at hrr hf
        simp only at hrr hf
        have helT : e < T.size := by omega
        have d1 : decide (T.size ≤ e) = false := decide_eq_false (by omega)
        obtain ⟨c1, hc1⟩ := get_size T helT
        have hcx1 := get_c helT hc1
        have hei : (e : Int) < (T.size : Int) := by omega
        have e41 := c_pre hc1 41 (by omega)
        have f41 := hf.2.1
        have e41' : ((c1.toNat : Int) == 41) = false := by rw [← f41]; exact e41
        have HDe := As.mk (IHn.out e (by omega))
        obtain ⟨q2, hq2, hr2⟩ := hrr
        have Hq2 := As.mk (next_of (run_end hq (by omega)) hq2)
        have Hr2 : As (NextI T.data.toList true D acc r q2) := ⟨by cases q2 <;> exact hr2⟩
        have hrr := hr2
        clear hq2 hr2
        clear hr hrr hq hml e41 hc1
        have fdot := hf.2.2
        clear hic hf
        go_wp2_with (first
         | (go_at_call 15; (with_reducible refine (PCr.blanksc HB.out hj hD R Hq.out).mono ?_); rintro e9 wn ⟨rfl, hq, haf⟩; clear C R; obtain ⟨R, _⟩ : RR wn g T e 0 0 ∧ e ≤ T.size := haf; have C := R.out.cells; replace HI := HI.upg hq hgb hsW; replace hsW := Nat.le_trans hsW hq.size; replace hu := hu.trans hq; replace B4 := blk_upg B4 hq hne4; replace B5 := blk_upg B5 hq hne5; clear hq)
         | (go_at_call 16; (with_reducible refine (rend_b R false d1).mono ?_); rintro e9 wn ⟨vn, rfl, rfl, hb⟩; replace R := R.below hb; clear C; have C := R.out.cells; replace HI := HI.below hb hsW; replace hsW := Nat.le_trans hsW hb.size; replace hu := hu.trans (Upg.of_below hb); replace B4 := B4.below hb; replace B5 := B5.below hb; clear hb))
        (try go_wp2)
        have hb := (Below.refl (World.heap wn).size wn).drew
        replace R := R.below hb
        clear C
        have C := R.out.cells
        replace HI := HI.below hb hsW
        replace hsW := Nat.le_trans hsW hb.size
        replace hu := hu.trans (Upg.of_below hb)
        replace B4 := B4.below hb
        replace B5 := B5.below hb
        clear hb
        have hS : ∀ W, RR W g T e 0 0 → W.cell? ⟨g, 0, none⟩ = some (.string T) ∧ W.cell? ⟨g, 1, none⟩ = some (.int .i64 (e : Int)) := fun W R => ⟨R.out.cells 0, R.out.cells 1⟩
        have hS0 := hS _ R
        refine wp_gen2 (fun Q7 hQ7 => ?_)
        refine wp_region_held_drew (S := fun W => W.cell? ⟨g, 0, none⟩ = some (.string T) ∧ W.cell? ⟨g, 1, none⟩ = some (.int .i64 (e : Int))) (by kernel_rfl) (hS0) (fun hHeld => ?_)
        refine ta 0 (.pointer (some ⟨g, 0, none⟩)) ?_
        refine ta 1 (.pointer (some ⟨g, 0, none⟩)) ?_
        refine ta 2 (.pointer (some ⟨g, 0, none⟩)) ?_
        refine ta 3 (.string T) ?_
        refine ta 4 (.pointer (some ⟨g, 0, none⟩)) ?_
        refine ta 5 (.pointer (some ⟨g, 0, none⟩)) ?_
        refine ta 6 (.pointer (some ⟨g, 1, none⟩)) ?_
        refine ta 7 (.int .i64 (e : Int)) ?_
        refine ta 8 (.int .u8 (c1.toNat : Int)) ?_
        refine ta 9 (.bool false) ?_
        refine wpAnyH_done (by kernel_rfl) ?_ _
        refine NoPanic.normal ?_
        obtain ⟨rfl⟩ := hQ7
        clear hS hS0
        have C5 := B5.cells
        go_wp2_with (first
         | (go_at_call 47; (with_reducible refine (rdot_b R helT hT false fdot).mono ?_); rintro e9 wn ⟨vn, rfl, rfl, hb⟩; (try clear C5); replace R := R.below hb; clear C; have C := R.out.cells; replace HI := HI.below hb hsW; replace hsW := Nat.le_trans hsW hb.size; replace hu := hu.trans (Upg.of_below hb); replace B4 := B4.below hb; replace B5 := B5.below hb; clear hb; have C5 := B5.cells))
        refine wp_gen2 (fun Q7 hQ7 => ?_)
        refine wp_region_held_drew (S := fun _ => True) (by kernel_rfl) trivial (fun hHeld => ?_)
        clear hHeld
        have hb := (Below.refl (World.heap wn).size wn).drew
        generalize World.drew wn = w9 at hb ⊢
        clear C5
        replace R := R.below hb
        clear C
        have C := R.out.cells
        replace HI := HI.below hb hsW
        replace hsW := Nat.le_trans hsW hb.size
        replace hu := hu.trans (Upg.of_below hb)
        replace B4 := B4.below hb
        replace B5 := B5.below hb
        clear hb
        have C5 := B5.cells
        repeat' (first
         | ((with_reducible refine gI ?_); first
              | ((with_reducible refine s_dst 84 ?_); go_simp; refine hK.out _ _ trivial (fun hHeld => ?_); clear hK K hHeld; (try simp only [Act.put, pA, pB, pC, pD, pE, pF]))
              | ((with_reducible refine s_dst 87 ?_); go_simp; (with_reducible refine (PCr.nextc HDe.out hel2 hD R Hq2.out).mono ?_); rintro e9 wn ⟨vn, rfl, hq, haf, ⟨y, rfl, hgy, hfy0, hey⟩⟩; have hfy : ∀ b ∈ footD y, wr.heap.size ≤ b := (fun b hb => Nat.le_trans hsW (hfy0 b hb)); have Hey := As.mk hey; have Haf := As.mk haf; clear hfy0 hey haf C C5 R; obtain ⟨kind, n0, neg, mA, mc, mag, text, Ai, ci, items, Ar, cr, rest⟩ := y; replace HI := HI.upg hq hgb hsW; replace hsW := Nat.le_trans hsW hq.size; replace hu := hu.trans hq; replace B4 := blk_upg B4 hq hne4; replace B5 := blk_upg B5 hq hne5; clear hq; have C5 := B5.cells; refine hK.out _ _ trivial (fun hHeld => ?_); clear hK K hHeld; (try simp only [Act.put, pA, pB, pC, pD, pE, pF]))
              | ((with_reducible refine s_dst 88 ?_); refine st_lit (v := fun g => .slice (some ⟨g, 0, none⟩) 1 1) 88 rfl (cs := encD (.mk kind n0 neg mA mc mag text Ai ci items Ar cr rest)) (t := 35) (by go_simp; rfl) ?_; intro g6 wn hb B6 hg6; clear C5; replace HI := HI.below hb hsW; replace hsW := Nat.le_trans hsW hb.size; replace hu := hu.trans (Upg.of_below hb); replace B4 := B4.below hb; replace B5 := B5.below hb; replace Haf := As.mk (Haf.out.below hb); replace hgy := hgy.to hb; clear hb hg6; have C5 := B5.cells; refine hK.out _ _ trivial (fun hHeld => ?_); clear hK K hHeld; (try simp only [Act.put, pA, pB, pC, pD, pE, pF]))
              | ((with_reducible refine s_dst 89 ?_); refine st_append1 89 Tryz.underlying22 infoD rfl (by decide) rfl HI.ow (.mk kind n0 neg mA mc mag text Ai ci items Ar cr rest) rfl B6 rfl (oneD _) (by have := Hml.out; omega) (by have := Hml.out; simp only [maxLen]; omega) (Nat.succ_le_of_lt B5.lt) ?_; intro A9 c9 wn how hg9 hor9; have hb9 := HI.ow.grown (Below.refl (g5 + 1) _) hg9 (Nat.le_refl _) (Nat.succ_le_of_lt B5.lt); have HI9 := HI.append (l := [(.mk kind n0 neg mA mc mag text Ai ci items Ar cr rest)]) (accl := [erD (.mk kind n0 neg mA mc mag text Ai ci items Ar cr rest)]) hsW (by omega) (fun y hy => by rw [List.mem_singleton] at hy; subst hy; exact hgy) (fun b hb => by rw [footAll, footAll, List.append_nil] at hb; exact ⟨hfy b hb, good_lt hgy b hb⟩) (by simp [erAll]) how hg9 hor9; replace hu := hu.trans_B (UpB.of_belowB hb9) (by omega); replace B4 := blkB B4 hb9 (by omega); replace B5 := blkB B5 hb9 (by omega); replace Haf := As.mk (Haf.out.belowB hb9 hgb); clear C5 B6 HI hgy how hg9 hor9 hb9; have C5 := B5.cells; refine hK.out _ _ trivial (fun hHeld => ?_); clear hK K hHeld; (try simp only [Act.put, pA, pB, pC, pD, pE, pF]))
              | ((with_reducible refine s_dst 90 ?_); go_simp; refine hK.out _ _ trivial (fun hHeld => ?_); clear hK K hHeld; (try simp only [Act.put, pA, pB, pC, pD, pE, pF]))
              | (refine st_store rfl rfl B5 (news := [.slice A9 (m.length + 1) c9]) (by first | rfl | (go_simp; try rfl) | simp) infoLD (by simp) (by simp [Value.oneCell']) ?_; intro wn ho Bn; simp only [zI, zA, zC, zD, zE, zF, zH, zB, zG, Nat.reduceAdd] at Bn; have HI := (HI9.only ho (.inl (Nat.lt_succ_self _))).more (Nat.le_of_eq ho.size.symm); replace hu := hu.only_new ho (by omega); replace B4 := B4.only ho (by omega); replace Haf := As.mk (Haf.out.only ho (Ne.symm hne5)); clear C5 HI9; replace B5 := Bn; clear Bn ho; refine hK.out _ _ trivial (fun hHeld => ?_); clear hK K hHeld; (try simp only [Act.put, pA, pB, pC, pD, pE, pF])))
         | ((with_reducible refine gW ?_); first
              | (refine ta 0 (.pointer (some ⟨g5, 5, none⟩)) ?_)
              | (refine ta 2 (.pointer (some ⟨g, 0, none⟩)) ?_)
              | (refine ta 3 (.int .i64 (D : Int)) ?_)
              | refine wpAnyH_ready (rs := [1, 4]) (by decide +kernel) (by simp) ?_
              | refine wpAnyH_ready (rs := [4]) (by decide +kernel) (by simp) ?_
              | refine wpAnyH_ready (rs := [1, 5]) (by decide +kernel) (by simp) ?_
              | refine wpAnyH_ready (rs := [5]) (by decide +kernel) (by simp) ?_
              | refine wpAnyH_ready (rs := [1]) (by decide +kernel) (by simp) ?_
              | refine wpAnyH_ready (rs := [6]) (by decide +kernel) (by simp) ?_
              | refine wpAnyH_ready (rs := [7]) (by decide +kernel) (by simp) ?_
              | refine wpAnyH_ready (rs := [8]) (by decide +kernel) (by simp) ?_)
         | ((with_reducible refine gA ?_); first
              | exact AllReadyH.nil
              | (refine AllReadyH.cons (o := _) (by simp only [List.getElem?_toArray, List.getElem?_cons_succ, List.getElem?_cons_zero]; rfl) (fun K hK => ?_) ?_)))
        all_goals
         refine wpAnyH_done (by kernel_rfl) ?_ _
         refine NoPanic.normal ?_
         obtain ⟨rfl⟩ := hQ7
         go_wp2
         go_roundw
         case rel =>
          refine ⟨A9, c9, m ++ [(.mk kind n0 neg mA mc mag text Ai ci items Ar cr rest)], acc ++ [erD (.mk kind n0 neg mA mc mag text Ai ci items Ar cr rest)], HI, hu, B4, by simpa using B5, ?_⟩
          have hq2r := Hr2.out
          cases q2 with
          | error pc =>
            obtain ⟨p, c0⟩ := pc
            obtain ⟨j2, R, hc2⟩ := Haf.out
            exact .inr ⟨j2, p, c0, hq2r, hc2, R⟩
          | ok xf =>
            obtain ⟨x, f⟩ := xf
            obtain ⟨R, hf2⟩ := Haf.out
            have hef : e < f := run_goes Hq2.out rfl
            refine .inl ⟨f, by omega, hf2, by rw [List.length_append, List.length_singleton]; have := Hml.out; omega, R, ?_⟩
            rw [Hey.out x f rfl]
            exact hq2r
         case measure =>
          rw [show muR T wr g = T.size - j + 1 by rw [muR, Her.out, if_pos rfl, Hat.out], muR]
          cases q2 with
          | error pc =>
            obtain ⟨p, c0⟩ := pc
            obtain ⟨j2, R, hc2⟩ := Haf.out
            rw [R.err, if_neg (by omega)]; omega
          | ok xf =>
            obtain ⟨x, f⟩ := xf
            obtain ⟨R, hf2⟩ := Haf.out
            have hef : e < f := run_goes Hq2.out rfl
            rw [R.err, if_pos rfl, R.at_]; omega
      | dot =>
        rw [hic] at hf
        exact absurd hf.2.2.2.1 (by decide)
  · have C := R.out.cells
    have Hr : As (r = .error (p, c0)) := ⟨hr⟩
    have hz : ((c0 : Int) != 0) = true := by simpa using hc0
    have hz2 : ((c0 : Int) == 0) = false := by simpa using hc0
    have HC : As ((c0 : Int) ≠ 0) := ⟨by omega⟩
    have HC2 := As.mk hc0
    clear hr hc0
    go_wp2_with (first
     | (go_at_call 15; (with_reducible refine (skip_err R HC.out _).mono ?_); rintro e9 wn ⟨rfl, hb⟩; replace R := R.below hb; clear C; have C := R.out.cells; replace HI := HI.below hb hsW; replace hsW := Nat.le_trans hsW hb.size; replace hu := hu.trans (Upg.of_below hb); replace B4 := B4.below hb; replace B5 := B5.below hb; clear hb)
     | ((with_reducible refine g_store 6 ?_); go_must (refine ev_store rfl rfl B4 (news := [.int .i64 0, .int .i64 0, .bool false, .slice none 0 0, .string ⟨#[]⟩, .slice none 0 0, .slice none 0 0]) (by first | rfl | (go_simp; try rfl)) infoD (by simp [encD]) (by simp [encD, Value.oneCell']) ?_); intro wn ho Bn; simp only [encD, zA, zB, zC, zD, zE, zF, zG, zH] at Bn; replace hu := hu.only_new ho hs4; have R2 : RR wn g T _ _ _ := ⟨R.out.only ho (Ne.symm hne4)⟩; clear C R; have R := R2; clear R2; have C := R.out.cells; replace B4 := Bn; clear Bn))
    refine bodyPost_ret (results_cell_row rfl _ _ g4 35 ([.int .i64 0, .int .i64 0, .bool false, .slice none 0 0, .string ⟨#[]⟩, .slice none 0 0, .slice none 0 0] : List Value).toArray (0, 0) _ rfl B4.h Tryz.underlying35 rfl (by kernel_rfl)) rfl ?_
    exact ⟨_, rfl, hu, by rw [Hr.out]; exact ⟨_, R, HC2.out⟩, ldZ, rfl, good_z _ _ _ (by decide) (by decide) _, fun b hb => (by rw [ldZ, foot_z] at hb; cases hb), fun x e h => by rw [Hr.out] at h; cases h⟩
end Go.Proofs.YtdapbegadhcpcaaGreatDoor
