/- A part of the proof. -/
import Derived.Test.YtdapbegadhcpcaaGreatDoorRfC
import Derived.Test.YtdapbegadhcpcaaGreatDoorMH
import Derived.Test.YtdapbegadhcpcaaGreatDoorRdJ
set_option linter.unusedVariables false
set_option linter.unusedSimpArgs false
namespace Go.Proofs.YtdapbegadhcpcaaGreatDoor
open Go.RowKit Go.Proofs.YtdapbegadhcpcaaGreatDoorL Go.Proofs.YtdapbegadhcpcaaGreatDoorM
theorem AftR.below {w w1 : World} {g : Nat} {T : ByteArray} {r : Rs} (h : AftR w g T r) (hb : Below w.heap.size w w1) : AftR w1 g T r := by
 cases r with
 | ok xe => exact ⟨h.1.below hb, h.2⟩
 | error pc =>
   obtain ⟨j, R, hc⟩ := h
   exact ⟨j, R.below hb, hc⟩
theorem AftR.to {w : World} {g : Nat} {T : ByteArray} {q r : Rs} (h : AftR w g T q) (hr : match q with | .error p => r = .error p | .ok (x, e) => ∃ y, r = .ok (y, e)) : AftR w g T r := by
 cases q with
 | ok xe =>
   obtain ⟨x, e⟩ := xe
   obtain ⟨y, rfl⟩ := hr
   exact h
 | error pc =>
   simp only at hr
   subst hr
   exact h
theorem AftR.lt {w : World} {g : Nat} {T : ByteArray} {r : Rs} (h : AftR w g T r) : g < w.heap.size := by
 cases r with
 | ok xe => exact h.1.lt
 | error pc => obtain ⟨j, R, _⟩ := h; exact R.lt
theorem AftR.only {w w1 : World} {g k : Nat} {T : ByteArray} {r : Rs} (h : AftR w g T r) (ho : Only k w w1) (hne : g ≠ k) : AftR w1 g T r := by
 cases r with
 | ok xe => exact ⟨⟨h.1.out.only ho hne⟩, h.2⟩
 | error pc =>
   obtain ⟨j, R, hc⟩ := h
   exact ⟨j, ⟨R.out.only ho hne⟩, hc⟩
theorem AftR.belowB {w w1 : World} {g B : Nat} {T : ByteArray} {r : Rs} (h : AftR w g T r) (hb : Below B w w1) (hg : g < B) : AftR w1 g T r := by
 cases r with
 | ok xe => exact ⟨⟨blkB h.1.out hb hg⟩, h.2⟩
 | error pc =>
   obtain ⟨j, R, hc⟩ := h
   exact ⟨j, ⟨blkB R.out hb hg⟩, hc⟩
set_option maxRecDepth 8000 in
set_option maxHeartbeats 2000000 in
theorem rshort_deep {w : World} {g i : Nat} {T : ByteArray} (R : RR w g T i 0 0) (D : Nat) (hD : 100 < D) (n : Nat) (nm : List UInt8) (r : Rs) (hr : r = .error (i, 16)) :
 Calls Tryz.prog 34 #[.pointer (some ⟨g, 0, none⟩), .string ⟨nm.toArray⟩, .int .i64 (n : Int), .int .i64 (D : Int)] w fun x w' => ∃ v, x = .returned v ∧ Upg g w w' ∧ AftR w' g T r ∧ IsD w.heap.size w' r v := by
 have C := R.out.cells
 have hu := Upg.refl g w
 have Hr := As.mk hr
 have hDi : (100 : Int) < (D : Int) := by omega
 clear hr
 go_enter Tryz.func34, Tryz.ntmps34
 go_wp2_with (first
  | ((with_reducible refine g_dst 8 ?_); go_must (refine ev_alloc 8 rfl infoD (cs := [.int .i64 0, .int .i64 0, .bool false, .slice none 0 0, .string ⟨#[]⟩, .slice none 0 0, .slice none 0 0]) rfl ?_); intro g8 wn hb B8 hg8; have hs8 := Nat.le_trans hu.size hg8; have hne8 : g8 ≠ g := (fun h => by have := R.lt; omega); clear hg8; replace R := R.below hb; clear C; have C := R.out.cells; replace hu := hu.trans (Upg.of_below hb); clear hb)
  | (go_at_call 31; (with_reducible refine (rfail_ok R 16 (i : Int)).mono ?_); rintro e wn ⟨rfl, ho, R2⟩; have hq := Upg.of_only ho; clear C R; have R := R2; clear R2; have C := R.out.cells; replace hu := hu.trans hq; replace B8 := blk_upg B8 hq hne8; clear hq)
  | ((with_reducible refine g_store 8 ?_); go_must (refine ev_store rfl rfl B8 (news := [.int .i64 0, .int .i64 0, .bool false, .slice none 0 0, .string ⟨#[]⟩, .slice none 0 0, .slice none 0 0]) (by first | rfl | (go_simp; try rfl)) infoD (by simp) (by simp [Value.oneCell']) ?_); intro wn ho Bn; simp only [encD, zA, zB, zC, zD, zE, zF, zG, zH] at Bn; replace hu := hu.only_new ho hs8; have R2 : RR wn g T _ _ _ := ⟨R.out.only ho (Ne.symm hne8)⟩; clear C R; have R := R2; clear R2; have C := R.out.cells; replace B8 := Bn; clear Bn ho))
 refine bodyPost_ret (results_cell_row rfl _ _ g8 35 ([.int .i64 0, .int .i64 0, .bool false, .slice none 0 0, .string ⟨#[]⟩, .slice none 0 0, .slice none 0 0] : List Value).toArray (0, 0) _ rfl B8.h Tryz.underlying35 rfl (by kernel_rfl)) rfl ?_
 exact ⟨_, rfl, hu, by rw [Hr.out]; exact ⟨_, R, by decide⟩, ldZ, rfl, good_z _ _ _ (by decide) (by decide) _, fun b hb => (by rw [ldZ, foot_z] at hb; cases hb), fun x e h => by rw [Hr.out] at h; cases h⟩
set_option maxRecDepth 16000 in
set_option maxHeartbeats 8000000 in
theorem rshort_any {w : World} {g i n D : Nat} {T : ByteArray} (R : RR w g T i 0 0) (hT : T.size ≤ 65536) (hin : i + n ≤ T.size) (hD : D ≤ 100) (nm : List UInt8) (hN : PCr T (.next D (i + n)))
 (q r : Rs) (hq : Run T.data.toList (.next D (i + n)) q) (hr : r = shortR nm q) :
 Calls Tryz.prog 34 #[.pointer (some ⟨g, 0, none⟩), .string ⟨nm.toArray⟩, .int .i64 (n : Int), .int .i64 (D : Int)] w fun x w' => ∃ v, x = .returned v ∧ Upg g w w' ∧ AftR w' g T r ∧ IsD w.heap.size w' r v := by
 have C := R.out.cells
 have hu := Upg.refl g w
 have Hr := As.mk hr
 have HN := As.mk hN
 have Hq := As.mk hq
 have hDi : ¬ (100 : Int) < (D : Int) := by omega
 obtain ⟨j, hj⟩ : ∃ j, j = i + n := ⟨_, rfl⟩
 rw [← hj] at HN Hq hin
 have hi2 := hin
 have hij : (i : Int) + (n : Int) = (j : Int) := by omega
 have hg0 := R.lt
 clear hr hN hq hj
 go_enter Tryz.func34, Tryz.ntmps34
 go_wp2_with (first
  | ((with_reducible refine g_dst 8 ?_); go_must (refine ev_alloc 8 rfl infoD (cs := [.int .i64 0, .int .i64 0, .bool false, .slice none 0 0, .string ⟨#[]⟩, .slice none 0 0, .slice none 0 0]) rfl ?_); intro g8 wn hb B8 hg8; have hs8 := Nat.le_trans hu.size hg8; have hne8 : g8 ≠ g := (fun h => by have := R.lt; omega); clear hg8; replace R := R.below hb; clear C; have C := R.out.cells; replace hu := hu.trans (Upg.of_below hb); clear hb)
  | ((with_reducible refine g_store 26 ?_); go_must (refine ev_store rfl rfl R.out (news := [.int .i64 ((j : Nat) : Int)]) (by first | rfl | (go_simp; first | rfl | go_num | (simp; omega))) infoI (by simp) (by simp [Value.oneCell']) ?_); intro wn ho Bn; simp only [zI, zA, zC, zD, zE, zF, zH, zB, zG, Nat.reduceAdd] at Bn; have R2 : RR wn g T (j) 0 0 := ⟨Bn⟩; clear Bn; have hq := Upg.of_only ho; clear C R; have R := R2; clear R2; have C := R.out.cells; replace hu := hu.trans hq; replace B8 := blk_upg B8 hq hne8; clear hq; clear ho)
  | (go_at_call 17; have hsz := B8.lt; have hsu := hu.size; (with_reducible refine (PCr.nextc HN.out hi2 hD R Hq.out).mono ?_); rintro e wn ⟨vn, rfl, hq, haf, ⟨y, rfl, hgy, hfy, hey⟩⟩; replace hu := hu.trans hq; replace B8 := blk_upg B8 hq hne8; have hf1 : ∀ b ∈ footD y, w.heap.size ≤ b ∧ b ≠ g8 := (fun b hb => by have := hfy b hb; omega); have Hey := As.mk hey; have Haf := As.mk haf; clear C hq R hfy hey hsz hsu haf; obtain ⟨kind, n0, neg, A, c, mag, text, Ai, ci, items, Ar, cr, rest⟩ := y)
  | ((with_reducible refine g_dst 9 ?_); go_must (refine ev_alloc 9 rfl infoD (cs := [.int .i64 0, .int .i64 0, .bool false, .slice none 0 0, .string ⟨#[]⟩, .slice none 0 0, .slice none 0 0]) rfl ?_); intro g9 wn hb B9 hg9; have hs9 := Nat.le_trans hu.size hg9; have hne9 : g9 ≠ g8 := (fun h => by have := B8.lt; omega); have hny9 : ∀ b ∈ footD (.mk kind n0 neg A c mag text Ai ci items Ar cr rest), b ≠ g9 := (fun b hb => by have := good_lt hgy b hb; omega); replace hu := hu.trans (Upg.of_below hb); replace B8 := B8.below hb; replace Haf := As.mk (Haf.out.below hb); replace hgy := hgy.to hb; clear hb hg9)
  | ((with_reducible refine g_store 9 ?_); go_must (refine ev_store rfl rfl B9 (news := encD (.mk kind n0 neg A c mag text Ai ci items Ar cr rest)) (by rfl) infoD (by simp [encD]) (by simp [encD, Value.oneCell']) ?_); intro wn ho Bn; simp only [encD, zA, zB, zC, zD, zE, zF, zG, zH] at Bn; replace hu := hu.only_new ho hs9; replace Haf := As.mk (Haf.out.only ho (fun h => by omega)); replace hgy := good_only hgy ho hny9; replace B8 := B8.only ho (Ne.symm hne9); replace B9 := Bn; clear Bn ho))
 have hd := (Below.refl (World.heap wn).size wn).drew
 replace B9 := B9.below hd
 replace B8 := B8.below hd
 replace Haf := As.mk (Haf.out.below hd)
 replace hgy := hgy.to hd
 replace hu := hu.trans (Upg.of_below hd)
 clear hd
 have hS : ∀ W : World, Blk W g9 [.int .i64 kind, .int .i64 n0, .bool neg, .slice A mag.length c, .string ⟨text.toArray⟩, .slice Ai items.length ci, .slice Ar rest.length cr] 35 → (W.cell? ⟨g9, 0, none⟩ = some (.int .i64 kind) ∧ W.cell? ⟨g9, 1, none⟩ = some (.int .i64 n0) ∧ W.cell? ⟨g9, 2, none⟩ = some (.bool neg) ∧ W.cell? ⟨g9, 3, none⟩ = some (.slice A mag.length c) ∧ W.cell? ⟨g9, 4, none⟩ = some (.string ⟨text.toArray⟩) ∧ W.cell? ⟨g9, 5, none⟩ = some (.slice Ai items.length ci) ∧ W.cell? ⟨g9, 6, none⟩ = some (.slice Ar rest.length cr)) := fun W B => ⟨B.cells 0, B.cells 1, B.cells 2, B.cells 3, B.cells 4, B.cells 5, B.cells 6⟩
 have hS0 := hS _ B9
 refine wp_gen2 (fun Q7 hQ7 => ?_)
 refine wp_region_held_drew (S := fun W => W.cell? ⟨g9, 0, none⟩ = some (.int .i64 kind) ∧ W.cell? ⟨g9, 1, none⟩ = some (.int .i64 n0) ∧ W.cell? ⟨g9, 2, none⟩ = some (.bool neg) ∧ W.cell? ⟨g9, 3, none⟩ = some (.slice A mag.length c) ∧ W.cell? ⟨g9, 4, none⟩ = some (.string ⟨text.toArray⟩) ∧ W.cell? ⟨g9, 5, none⟩ = some (.slice Ai items.length ci) ∧ W.cell? ⟨g9, 6, none⟩ = some (.slice Ar rest.length cr)) (by kernel_rfl) (hS0) (fun hHeld => ?_)
 repeat' (first
  | ((with_reducible refine gI ?_); first
    | ((with_reducible refine s_dst 31 ?_); go_simp; (with_reducible refine (rsymbol_any ⟨nm.toArray⟩ _).mono ?_); rintro e9 wn ⟨vn, rfl, rfl, hb⟩; replace hu := hu.trans (Upg.of_below hb); replace B8 := B8.below hb; replace Haf := As.mk (Haf.out.below hb); replace hgy := hgy.to hb; replace B9 := B9.below hb; clear hb; refine hK.out _ _ (hS _ B9) (fun hHeld => ?_); clear hK K; (try simp only [Act.put, pA, pB, pC, pD, pE, pF]))
    | ((with_reducible refine s_dst 33 ?_); refine st_lit (v := fun g => .slice (some ⟨g, 0, none⟩) 2 2) 33 rfl (cs := encD (.mk 5 0 false none 0 [] nm none 0 [] none 0 []) ++ encD (.mk kind n0 neg A c mag text Ai ci items Ar cr rest)) (t := 35) (by go_simp; rfl) ?_; intro g33 wn hb B33 hg33; have hs33 := Nat.le_trans hu.size hg33; have hne33 : g33 ≠ g8 := (fun h => by have := B8.lt; omega); replace hu := hu.trans (Upg.of_below hb); replace B8 := B8.below hb; replace Haf := As.mk (Haf.out.below hb); replace hgy := hgy.to hb; replace B9 := B9.below hb; clear hb hg33; refine hK.out _ _ (hS _ B9) (fun hHeld => ?_); clear hK K; (try simp only [Act.put, pA, pB, pC, pD, pE, pF]))
    | (refine st_store rfl rfl B8 (news := [.int .i64 6, .int .i64 0, .bool false, .slice none 0 0, .string ⟨#[]⟩, .slice (some ⟨g33, 0, none⟩) 2 2, .slice none 0 0]) (by first | rfl | (go_simp; try rfl) | simp) infoD (by simp) (by simp [Value.oneCell']) ?_; intro wn ho Bn; simp only [encD, zA, zB, zC, zD, zE, zF, zG, zH] at Bn; replace hu := hu.only_new ho hs8; replace Haf := As.mk (Haf.out.only ho (fun h => by omega)); replace hgy := good_only hgy ho (fun b hb => (hf1 b hb).2); replace B33 := B33.only ho hne33; replace B9 := B9.only ho hne9; replace B8 := Bn; clear Bn ho; refine hK.out _ _ (hS _ B9) (fun hHeld => ?_); clear hK K; (try simp only [Act.put, pA, pB, pC, pD, pE, pF])))
  | ((with_reducible refine gW ?_); first
    | (refine ta 0 (.string ⟨nm.toArray⟩) ?_)
    | (refine ta 2 (.agg #[.int .i64 kind, .int .i64 n0, .bool neg, .slice A mag.length c, .string ⟨text.toArray⟩, .slice Ai items.length ci, .slice Ar rest.length cr]) ?_)
    | (refine ta 4 (.agg #[.int .i64 6, .int .i64 0, .bool false, .slice none 0 0, .string ⟨#[]⟩, .slice (some ⟨g33, 0, none⟩) 2 2, .slice none 0 0]) ?_)
    | refine wpAnyH_ready (rs := [1]) (by decide +kernel) (by simp) ?_
    | refine wpAnyH_ready (rs := [3]) (by decide +kernel) (by simp) ?_
    | refine wpAnyH_ready (rs := [5]) (by decide +kernel) (by simp) ?_)
  | ((with_reducible refine gA ?_); first
    | exact AllReadyH.nil
    | (refine AllReadyH.cons (o := _) (by simp only [List.getElem?_toArray, List.getElem?_cons_succ, List.getElem?_cons_zero]; rfl) (fun K hK => ?_) ?_)))
 all_goals
  refine wpAnyH_done (by kernel_rfl) ?_ _
  refine NoPanic.normal ?_
  obtain ⟨rfl⟩ := hQ7
  go_wp2
  refine bodyPost_ret (results_cell_row rfl _ _ g8 35 ([.int .i64 6, .int .i64 0, .bool false, .slice none 0 0, .string ⟨#[]⟩, .slice (some ⟨g33, 0, none⟩) 2 2, .slice none 0 0] : List Value).toArray (0, 0) _ rfl B8.h Tryz.underlying35 rfl (by kernel_rfl)) rfl ?_
  have hY : ∀ z ∈ [(.mk 5 0 false none 0 [] nm none 0 [] none 0 []), .mk kind n0 neg A c mag text Ai ci items Ar cr rest], Good wn z := fun z hz => by
   rcases List.mem_cons.1 hz with rfl | hz
   · exact good_z _ _ _ (by omega) (by omega) _
   · rw [List.mem_singleton] at hz; subst hz; exact hgy
  refine ⟨_, rfl, hu, Haf.out.to ?_, .mk 6 0 false none 0 [] [] (some ⟨g33, 0, none⟩) 2 [(.mk 5 0 false none 0 [] nm none 0 [] none 0 []), .mk kind n0 neg A c mag text Ai ci items Ar cr rest] none 0 [], rfl, ?_, ?_, ?_⟩
  · have := Hr.out
    cases q with
    | error p => exact this
    | ok xe => exact ⟨_, this⟩
  · exact .mk (by omega) (by omega) ⟨Rd.nil _ _ _ _, fun x hx => (nomatch hx), by simp, fun _ => rfl, by simp⟩ (B33.rd lenD (by simp)) (by simp) (fun h => (nomatch h)) (Rd.nil _ _ _ _) (by simp) (fun _ => rfl) hY (fun x hx => (nomatch hx))
  · intro b hb
    rw [footD] at hb
    simp only [List.length_nil, List.length_cons, if_true, footAll, List.append_nil, List.nil_append, foot_z, addrBlock] at hb
    rcases List.mem_append.1 hb with hb | hb
    · split at hb
      · cases hb
      · rw [List.mem_singleton] at hb; omega
    · exact (hf1 b hb).1
  · intro x e h
    have h2 := Hr.out
    cases q with
    | error p => rw [h2] at h; cases h
    | ok xe =>
      obtain ⟨x0, e0⟩ := xe
      rw [h2] at h
      cases h
      rw [← Hey.out x0 _ rfl]
      simp [erD, erAll, dList, dSym]
end Go.Proofs.YtdapbegadhcpcaaGreatDoor
