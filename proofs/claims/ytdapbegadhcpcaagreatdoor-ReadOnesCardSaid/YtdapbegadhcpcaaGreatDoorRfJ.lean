/- A part of the proof. -/
import Derived.Test.YtdapbegadhcpcaaGreatDoorRfI
import Derived.Test.YtdapbegadhcpcaaGreatDoorRdS
set_option linter.unusedVariables false
set_option linter.unusedSimpArgs false
namespace Go.Proofs.YtdapbegadhcpcaaGreatDoor
open Go.RowKit Go.Proofs.YtdapbegadhcpcaaGreatDoorL Go.Proofs.YtdapbegadhcpcaaGreatDoorM
set_option maxRecDepth 16000 in
set_option maxHeartbeats 8000000 in
theorem rone_any {w : World} {T : ByteArray} (hT : T.size ≤ 65536) (i : Nat) (hi : i ≤ T.size) (q : Rs) (hq : Run T.data.toList (.next 0 i) q) :
 Calls Tryz.prog 10 #[.string T, .int .i64 (i : Int)] w (Gives w fun v w' => OneP w.heap.size w' v q) := by
 have h1 : ¬ (65536 : Int) < (T.size : Int) := by omega
 have h2 : ¬ (i : Int) < 0 := by omega
 have h3 : ¬ (T.size : Int) < (i : Int) := by omega
 have Hq := As.mk hq
 clear hq
 cases q with
 | error pc =>
   obtain ⟨p, c0⟩ := pc
   go_enter Tryz.func10, Tryz.ntmps10
   go_wp2_with (first
    | ((with_reducible refine g_dst 4 ?_); go_must (refine ev_alloc 4 rfl infoD (cs := [.int .i64 0, .int .i64 0, .bool false, .slice none 0 0, .string ⟨#[]⟩, .slice none 0 0, .slice none 0 0]) rfl ?_); intro g4 wn hb B4 hg4; have hlo := hb; have hl4 := B4.lt; clear hb)
    | ((with_reducible refine g_dst 26 ?_); go_must (refine ev_box 26 rfl (cs := [.string T, .int .i64 (i : Int), .int .i64 0, .int .i64 0]) (by rfl) ?_); intro g wn hb B13 hg; have R : RR wn g T i 0 0 := ⟨B13⟩; have C := R.out.cells; have hne4 : g4 ≠ g := (by omega); have hg0 : w.heap.size ≤ g := Nat.le_trans hlo.size hg; replace B4 := B4.below hb; replace hlo := bthen hlo hb; clear hb B13)
    | (go_at_call 17; have hsz := B4.lt; have hsl := hlo.size; (with_reducible refine (next0r (pcr T hT (.next 0 i)) hi R Hq.out).mono ?_); rintro e9 wn ⟨vn, rfl, hq, haf, ⟨y, rfl, hgy, hfy, hey⟩⟩; replace hlo := hlo.trans (Upg.below hq hlo.size hg0); replace B4 := blk_upg B4 hq hne4; have hf1 : ∀ b ∈ footD y, w.heap.size ≤ b ∧ b ≠ g4 := (fun b hb => by have := hfy b hb; omega); have Hey := As.mk hey; clear C hq R hfy hey hsz hsl; obtain ⟨j2, R, hc2⟩ : ∃ j2, RR wn g T j2 (p : Int) (c0 : Int) ∧ c0 ≠ 0 := haf; have hz : ((c0 : Int) != 0) = true := (by simpa using hc2); have C := R.out.cells; obtain ⟨kind, n0, neg, A, c, mag, text, Ai, ci, items, Ar, cr, rest⟩ := y)
    | ((with_reducible refine g_dst 8 ?_); go_must (refine ev_alloc 8 rfl infoD (cs := [.int .i64 0, .int .i64 0, .bool false, .slice none 0 0, .string ⟨#[]⟩, .slice none 0 0, .slice none 0 0]) rfl ?_); intro g8 wn hb B8 hg8; have hne8 : g ≠ g8 := (fun h => by have := R.lt; omega); have hn48 : g4 ≠ g8 := (fun h => by have := B4.lt; omega); have hw8 := Nat.le_trans hlo.size hg8; have hy8 : ∀ b ∈ footD (.mk kind n0 neg A c mag text Ai ci items Ar cr rest), b ≠ g8 := (fun b hb => by have := good_lt hgy b hb; omega); replace R := R.below hb; clear C; have C := R.out.cells; replace B4 := B4.below hb; replace hgy := hgy.to hb; replace hlo := bthen hlo hb; clear hb hg8)
    | ((with_reducible refine g_store 8 ?_); go_must (refine ev_store rfl rfl B8 (news := encD (.mk kind n0 neg A c mag text Ai ci items Ar cr rest)) (by rfl) infoD (by simp [encD]) (by simp [encD, Value.oneCell']) ?_); intro wn ho Bn; simp only [encD, zA, zB, zC, zD, zE, zF, zG, zH] at Bn; have R2 : RR wn g T _ _ _ := ⟨R.out.only ho hne8⟩; clear C R; have R := R2; clear R2; have C := R.out.cells; replace B4 := B4.only ho hn48; replace hgy := good_only hgy ho hy8; replace hlo := hlo.trans (ho.below hw8); replace B8 := Bn; clear Bn ho))
   have hd := (Below.refl wn.heap.size wn).drew
   replace R := R.below hd
   replace B4 := B4.below hd
   replace hgy := hgy.to hd
   replace hlo := bthen hlo hd
   have hS : ∀ W j, RR W g T j (p : Int) (c0 : Int) → W.cell? ⟨g, 2, none⟩ = some (.int .i64 (c0 : Int)) ∧ W.cell? ⟨g, 3, none⟩ = some (.int .i64 (p : Int)) := fun W j R => ⟨R.out.cells 2, R.out.cells 3⟩
   have hS0 := hS _ _ R
   clear C
   refine wp_gen2 (fun Q7 hQ7 => ?_)
   refine wp_region_held_drew (S := fun W => W.cell? ⟨g, 2, none⟩ = some (.int .i64 (c0 : Int)) ∧ W.cell? ⟨g, 3, none⟩ = some (.int .i64 (p : Int))) (by kernel_rfl) (hS0) (fun hHeld => ?_)
   refine ta 0 (.agg #[.int .i64 0, .int .i64 0, .bool false, .slice none 0 0, .string ⟨#[]⟩, .slice none 0 0, .slice none 0 0]) ?_
   refine ta 1 (.pointer (some ⟨g, 0, none⟩)) ?_
   refine ta 2 (.pointer (some ⟨g, 0, none⟩)) ?_
   refine ta 3 (.pointer (some ⟨g, 3, none⟩)) ?_
   refine ta 4 (.int .i64 (p : Int)) ?_
   refine ta 5 (.pointer (some ⟨g, 0, none⟩)) ?_
   refine ta 6 (.pointer (some ⟨g, 0, none⟩)) ?_
   refine ta 7 (.pointer (some ⟨g, 2, none⟩)) ?_
   refine ta 8 (.int .i64 (c0 : Int)) ?_
   refine wpAnyH_ready (rs := [9]) (by decide +kernel) (by simp) ?_
   refine AllReadyH.cons (o := _) (by simp only [List.getElem?_toArray, List.getElem?_cons_succ, List.getElem?_cons_zero]; rfl) (fun K hK => ?_) AllReadyH.nil
   refine gI ?_
   refine st_store rfl rfl B4 (news := [.int .i64 0, .int .i64 0, .bool false, .slice none 0 0, .string ⟨#[]⟩, .slice none 0 0, .slice none 0 0]) (by first | rfl | (go_simp; try rfl) | simp) infoD (by simp) (by simp [Value.oneCell']) ?_; intro w5 ho Bn; simp only [encD, zA, zB, zC, zD, zE, zF, zG, zH] at Bn; replace hlo := hlo.trans (ho.below hg4); have R5 : RR w5 g T _ _ _ := ⟨R.out.only ho (Ne.symm hne4)⟩; replace hgy := good_only hgy ho (fun b hb => (hf1 b hb).2)
   refine hK.out _ _ (hS _ _ R5) (fun hHeld => ?_); clear hK K; (try simp only [Act.put, pA, pB, pC, pD, pE, pF])
   refine ta 10 (.int .i64 (p : Int)) ?_
   refine ta 11 (.int .i64 (c0 : Int)) ?_
   refine wpAnyH_done (by kernel_rfl) ?_ _
   refine NoPanic.normal ?_
   obtain ⟨rfl⟩ := hQ7
   go_wp2
   refine bodyPost_ret (results_cell2 rfl _ _ g4 35 ([.int .i64 0, .int .i64 0, .bool false, .slice none 0 0, .string ⟨#[]⟩, .slice none 0 0, .slice none 0 0] : List Value).toArray (0, 0) _ rfl Bn.h Tryz.underlying35 rfl (by kernel_rfl)) rfl ?_
   exact ⟨_, rfl, rfl, hlo⟩
 | ok xe =>
   obtain ⟨x, e⟩ := xe
   go_enter Tryz.func10, Tryz.ntmps10
   go_wp2_with (first
    | ((with_reducible refine g_dst 4 ?_); go_must (refine ev_alloc 4 rfl infoD (cs := [.int .i64 0, .int .i64 0, .bool false, .slice none 0 0, .string ⟨#[]⟩, .slice none 0 0, .slice none 0 0]) rfl ?_); intro g4 wn hb B4 hg4; have hlo := hb; have hl4 := B4.lt; clear hb)
    | ((with_reducible refine g_dst 26 ?_); go_must (refine ev_box 26 rfl (cs := [.string T, .int .i64 (i : Int), .int .i64 0, .int .i64 0]) (by rfl) ?_); intro g wn hb B13 hg; have R : RR wn g T i 0 0 := ⟨B13⟩; have C := R.out.cells; have hne4 : g4 ≠ g := (by omega); have hg0 : w.heap.size ≤ g := Nat.le_trans hlo.size hg; replace B4 := B4.below hb; replace hlo := bthen hlo hb; clear hb B13)
    | (go_at_call 17; have hsz := B4.lt; have hsl := hlo.size; (with_reducible refine (next0r (pcr T hT (.next 0 i)) hi R Hq.out).mono ?_); rintro e9 wn ⟨vn, rfl, hq, haf, ⟨y, rfl, hgy, hfy, hey⟩⟩; replace hlo := hlo.trans (Upg.below hq hlo.size hg0); replace B4 := blk_upg B4 hq hne4; have hf1 : ∀ b ∈ footD y, w.heap.size ≤ b ∧ b ≠ g4 := (fun b hb => by have := hfy b hb; omega); have Hey := As.mk hey; clear C hq R hfy hey hsz hsl; obtain ⟨R, _⟩ : RR wn g T e 0 0 ∧ e ≤ T.size := haf; have C := R.out.cells; obtain ⟨kind, n0, neg, A, c, mag, text, Ai, ci, items, Ar, cr, rest⟩ := y)
    | ((with_reducible refine g_dst 8 ?_); go_must (refine ev_alloc 8 rfl infoD (cs := [.int .i64 0, .int .i64 0, .bool false, .slice none 0 0, .string ⟨#[]⟩, .slice none 0 0, .slice none 0 0]) rfl ?_); intro g8 wn hb B8 hg8; have hne8 : g ≠ g8 := (fun h => by have := R.lt; omega); have hn48 : g4 ≠ g8 := (fun h => by have := B4.lt; omega); have hw8 := Nat.le_trans hlo.size hg8; have hy8 : ∀ b ∈ footD (.mk kind n0 neg A c mag text Ai ci items Ar cr rest), b ≠ g8 := (fun b hb => by have := good_lt hgy b hb; omega); replace R := R.below hb; clear C; have C := R.out.cells; replace B4 := B4.below hb; replace hgy := hgy.to hb; replace hlo := bthen hlo hb; clear hb hg8)
    | ((with_reducible refine g_store 8 ?_); go_must (refine ev_store rfl rfl B8 (news := encD (.mk kind n0 neg A c mag text Ai ci items Ar cr rest)) (by rfl) infoD (by simp [encD]) (by simp [encD, Value.oneCell']) ?_); intro wn ho Bn; simp only [encD, zA, zB, zC, zD, zE, zF, zG, zH] at Bn; have R2 : RR wn g T _ _ _ := ⟨R.out.only ho hne8⟩; clear C R; have R := R2; clear R2; have C := R.out.cells; replace B4 := B4.only ho hn48; replace hgy := good_only hgy ho hy8; replace hlo := hlo.trans (ho.below hw8); replace B8 := Bn; clear Bn ho))
   have hd := (Below.refl wn.heap.size wn).drew
   replace R := R.below hd
   replace B4 := B4.below hd
   replace B8 := B8.below hd
   replace hgy := hgy.to hd
   replace hlo := bthen hlo hd
   have hS : ∀ W, Blk W g8 [.int .i64 kind, .int .i64 n0, .bool neg, .slice A mag.length c, .string ⟨text.toArray⟩, .slice Ai items.length ci, .slice Ar rest.length cr] 35 → RR W g T e 0 0 → (W.cell? ⟨g8, 0, none⟩ = some (.int .i64 kind) ∧ W.cell? ⟨g8, 1, none⟩ = some (.int .i64 n0) ∧ W.cell? ⟨g8, 2, none⟩ = some (.bool neg) ∧ W.cell? ⟨g8, 3, none⟩ = some (.slice A mag.length c) ∧ W.cell? ⟨g8, 4, none⟩ = some (.string ⟨text.toArray⟩) ∧ W.cell? ⟨g8, 5, none⟩ = some (.slice Ai items.length ci) ∧ W.cell? ⟨g8, 6, none⟩ = some (.slice Ar rest.length cr)) ∧ W.cell? ⟨g, 1, none⟩ = some (.int .i64 (e : Int)) := fun W B R => ⟨⟨B.cells 0, B.cells 1, B.cells 2, B.cells 3, B.cells 4, B.cells 5, B.cells 6⟩, R.out.cells 1⟩
   have hS0 := hS _ B8 R
   clear C
   refine wp_gen2 (fun Q7 hQ7 => ?_)
   refine wp_region_held_drew (S := fun W => (W.cell? ⟨g8, 0, none⟩ = some (.int .i64 kind) ∧ W.cell? ⟨g8, 1, none⟩ = some (.int .i64 n0) ∧ W.cell? ⟨g8, 2, none⟩ = some (.bool neg) ∧ W.cell? ⟨g8, 3, none⟩ = some (.slice A mag.length c) ∧ W.cell? ⟨g8, 4, none⟩ = some (.string ⟨text.toArray⟩) ∧ W.cell? ⟨g8, 5, none⟩ = some (.slice Ai items.length ci) ∧ W.cell? ⟨g8, 6, none⟩ = some (.slice Ar rest.length cr)) ∧ W.cell? ⟨g, 1, none⟩ = some (.int .i64 (e : Int))) (by kernel_rfl) (hS0) (fun hHeld => ?_)
   refine ta 0 (.agg #[.int .i64 kind, .int .i64 n0, .bool neg, .slice A mag.length c, .string ⟨text.toArray⟩, .slice Ai items.length ci, .slice Ar rest.length cr]) ?_
   refine ta 1 (.pointer (some ⟨g, 0, none⟩)) ?_
   refine ta 2 (.pointer (some ⟨g, 0, none⟩)) ?_
   refine ta 3 (.pointer (some ⟨g, 1, none⟩)) ?_
   refine ta 4 (.int .i64 (e : Int)) ?_
   refine wpAnyH_ready (rs := [5]) (by decide +kernel) (by simp) ?_
   refine AllReadyH.cons (o := _) (by simp only [List.getElem?_toArray, List.getElem?_cons_succ, List.getElem?_cons_zero]; rfl) (fun K hK => ?_) AllReadyH.nil
   refine gI ?_
   refine st_store rfl rfl B4 (news := [.int .i64 kind, .int .i64 n0, .bool neg, .slice A mag.length c, .string ⟨text.toArray⟩, .slice Ai items.length ci, .slice Ar rest.length cr]) (by first | rfl | (go_simp; try rfl) | simp) infoD (by simp) (by simp [Value.oneCell']) ?_; intro w5 ho Bn; simp only [encD, zA, zB, zC, zD, zE, zF, zG, zH] at Bn; replace hlo := hlo.trans (ho.below hg4); have R5 : RR w5 g T _ _ _ := ⟨R.out.only ho (Ne.symm hne4)⟩; replace hgy := good_only hgy ho (fun b hb => (hf1 b hb).2); replace B8 := B8.only ho (Ne.symm hn48)
   refine hK.out _ _ (hS _ B8 R5) (fun hHeld => ?_); clear hK K; (try simp only [Act.put, pA, pB, pC, pD, pE, pF])
   refine ta 6 (.int .i64 (e : Int)) ?_
   refine ta 7 (.int .i64 0) ?_
   refine wpAnyH_done (by kernel_rfl) ?_ _
   refine NoPanic.normal ?_
   obtain ⟨rfl⟩ := hQ7
   go_wp2
   refine bodyPost_ret (results_cell2 rfl _ _ g4 35 ([.int .i64 kind, .int .i64 n0, .bool neg, .slice A mag.length c, .string ⟨text.toArray⟩, .slice Ai items.length ci, .slice Ar rest.length cr] : List Value).toArray (0, 0) _ rfl Bn.h Tryz.underlying35 rfl (by kernel_rfl)) rfl ?_
   exact ⟨_, rfl, ⟨.mk kind n0 neg A c mag text Ai ci items Ar cr rest, rfl, hgy, fun b hb => (hf1 b hb).1, Hey.out x e rfl⟩, hlo⟩
set_option maxRecDepth 16000 in
set_option maxHeartbeats 8000000 in
theorem rone_neg {w : World} {T : ByteArray} (hT : T.size ≤ 65536) (a : Int) (ha : a < 0) (q : Rs) (hq : Run T.data.toList (.next 0 T.size) q) :
 Calls Tryz.prog 10 #[.string T, .int .i64 a] w (Gives w fun v w' => OneP w.heap.size w' v q) := by
 have h1 : ¬ (65536 : Int) < (T.size : Int) := by omega
 have h2 : a < 0 := by omega
 have hi := Nat.le_refl T.size
 have Hq := As.mk hq
 clear hq
 cases q with
 | error pc =>
   obtain ⟨p, c0⟩ := pc
   go_enter Tryz.func10, Tryz.ntmps10
   go_wp2_with (first
    | ((with_reducible refine g_dst 4 ?_); go_must (refine ev_alloc 4 rfl infoD (cs := [.int .i64 0, .int .i64 0, .bool false, .slice none 0 0, .string ⟨#[]⟩, .slice none 0 0, .slice none 0 0]) rfl ?_); intro g4 wn hb B4 hg4; have hlo := hb; have hl4 := B4.lt; clear hb)
    | ((with_reducible refine g_dst 26 ?_); go_must (refine ev_box 26 rfl (cs := [.string T, .int .i64 (T.size : Int), .int .i64 0, .int .i64 0]) (by rfl) ?_); intro g wn hb B13 hg; have R : RR wn g T T.size 0 0 := ⟨B13⟩; have C := R.out.cells; have hne4 : g4 ≠ g := (by omega); have hg0 : w.heap.size ≤ g := Nat.le_trans hlo.size hg; replace B4 := B4.below hb; replace hlo := bthen hlo hb; clear hb B13)
    | (go_at_call 17; have hsz := B4.lt; have hsl := hlo.size; (with_reducible refine (next0r (pcr T hT (.next 0 T.size)) hi R Hq.out).mono ?_); rintro e9 wn ⟨vn, rfl, hq, haf, ⟨y, rfl, hgy, hfy, hey⟩⟩; replace hlo := hlo.trans (Upg.below hq hlo.size hg0); replace B4 := blk_upg B4 hq hne4; have hf1 : ∀ b ∈ footD y, w.heap.size ≤ b ∧ b ≠ g4 := (fun b hb => by have := hfy b hb; omega); have Hey := As.mk hey; clear C hq R hfy hey hsz hsl; obtain ⟨j2, R, hc2⟩ : ∃ j2, RR wn g T j2 (p : Int) (c0 : Int) ∧ c0 ≠ 0 := haf; have hz : ((c0 : Int) != 0) = true := (by simpa using hc2); have C := R.out.cells; obtain ⟨kind, n0, neg, A, c, mag, text, Ai, ci, items, Ar, cr, rest⟩ := y)
    | ((with_reducible refine g_dst 8 ?_); go_must (refine ev_alloc 8 rfl infoD (cs := [.int .i64 0, .int .i64 0, .bool false, .slice none 0 0, .string ⟨#[]⟩, .slice none 0 0, .slice none 0 0]) rfl ?_); intro g8 wn hb B8 hg8; have hne8 : g ≠ g8 := (fun h => by have := R.lt; omega); have hn48 : g4 ≠ g8 := (fun h => by have := B4.lt; omega); have hw8 := Nat.le_trans hlo.size hg8; have hy8 : ∀ b ∈ footD (.mk kind n0 neg A c mag text Ai ci items Ar cr rest), b ≠ g8 := (fun b hb => by have := good_lt hgy b hb; omega); replace R := R.below hb; clear C; have C := R.out.cells; replace B4 := B4.below hb; replace hgy := hgy.to hb; replace hlo := bthen hlo hb; clear hb hg8)
    | ((with_reducible refine g_store 8 ?_); go_must (refine ev_store rfl rfl B8 (news := encD (.mk kind n0 neg A c mag text Ai ci items Ar cr rest)) (by rfl) infoD (by simp [encD]) (by simp [encD, Value.oneCell']) ?_); intro wn ho Bn; simp only [encD, zA, zB, zC, zD, zE, zF, zG, zH] at Bn; have R2 : RR wn g T _ _ _ := ⟨R.out.only ho hne8⟩; clear C R; have R := R2; clear R2; have C := R.out.cells; replace B4 := B4.only ho hn48; replace hgy := good_only hgy ho hy8; replace hlo := hlo.trans (ho.below hw8); replace B8 := Bn; clear Bn ho))
   have hd := (Below.refl wn.heap.size wn).drew
   replace R := R.below hd
   replace B4 := B4.below hd
   replace hgy := hgy.to hd
   replace hlo := bthen hlo hd
   have hS : ∀ W j, RR W g T j (p : Int) (c0 : Int) → W.cell? ⟨g, 2, none⟩ = some (.int .i64 (c0 : Int)) ∧ W.cell? ⟨g, 3, none⟩ = some (.int .i64 (p : Int)) := fun W j R => ⟨R.out.cells 2, R.out.cells 3⟩
   have hS0 := hS _ _ R
   clear C
   refine wp_gen2 (fun Q7 hQ7 => ?_)
   refine wp_region_held_drew (S := fun W => W.cell? ⟨g, 2, none⟩ = some (.int .i64 (c0 : Int)) ∧ W.cell? ⟨g, 3, none⟩ = some (.int .i64 (p : Int))) (by kernel_rfl) (hS0) (fun hHeld => ?_)
   refine ta 0 (.agg #[.int .i64 0, .int .i64 0, .bool false, .slice none 0 0, .string ⟨#[]⟩, .slice none 0 0, .slice none 0 0]) ?_
   refine ta 1 (.pointer (some ⟨g, 0, none⟩)) ?_
   refine ta 2 (.pointer (some ⟨g, 0, none⟩)) ?_
   refine ta 3 (.pointer (some ⟨g, 3, none⟩)) ?_
   refine ta 4 (.int .i64 (p : Int)) ?_
   refine ta 5 (.pointer (some ⟨g, 0, none⟩)) ?_
   refine ta 6 (.pointer (some ⟨g, 0, none⟩)) ?_
   refine ta 7 (.pointer (some ⟨g, 2, none⟩)) ?_
   refine ta 8 (.int .i64 (c0 : Int)) ?_
   refine wpAnyH_ready (rs := [9]) (by decide +kernel) (by simp) ?_
   refine AllReadyH.cons (o := _) (by simp only [List.getElem?_toArray, List.getElem?_cons_succ, List.getElem?_cons_zero]; rfl) (fun K hK => ?_) AllReadyH.nil
   refine gI ?_
   refine st_store rfl rfl B4 (news := [.int .i64 0, .int .i64 0, .bool false, .slice none 0 0, .string ⟨#[]⟩, .slice none 0 0, .slice none 0 0]) (by first | rfl | (go_simp; try rfl) | simp) infoD (by simp) (by simp [Value.oneCell']) ?_; intro w5 ho Bn; simp only [encD, zA, zB, zC, zD, zE, zF, zG, zH] at Bn; replace hlo := hlo.trans (ho.below hg4); have R5 : RR w5 g T _ _ _ := ⟨R.out.only ho (Ne.symm hne4)⟩; replace hgy := good_only hgy ho (fun b hb => (hf1 b hb).2)
   refine hK.out _ _ (hS _ _ R5) (fun hHeld => ?_); clear hK K; (try simp only [Act.put, pA, pB, pC, pD, pE, pF])
   refine ta 10 (.int .i64 (p : Int)) ?_
   refine ta 11 (.int .i64 (c0 : Int)) ?_
   refine wpAnyH_done (by kernel_rfl) ?_ _
   refine NoPanic.normal ?_
   obtain ⟨rfl⟩ := hQ7
   go_wp2
   refine bodyPost_ret (results_cell2 rfl _ _ g4 35 ([.int .i64 0, .int .i64 0, .bool false, .slice none 0 0, .string ⟨#[]⟩, .slice none 0 0, .slice none 0 0] : List Value).toArray (0, 0) _ rfl Bn.h Tryz.underlying35 rfl (by kernel_rfl)) rfl ?_
   exact ⟨_, rfl, rfl, hlo⟩
 | ok xe =>
   obtain ⟨x, e⟩ := xe
   go_enter Tryz.func10, Tryz.ntmps10
   go_wp2_with (first
    | ((with_reducible refine g_dst 4 ?_); go_must (refine ev_alloc 4 rfl infoD (cs := [.int .i64 0, .int .i64 0, .bool false, .slice none 0 0, .string ⟨#[]⟩, .slice none 0 0, .slice none 0 0]) rfl ?_); intro g4 wn hb B4 hg4; have hlo := hb; have hl4 := B4.lt; clear hb)
    | ((with_reducible refine g_dst 26 ?_); go_must (refine ev_box 26 rfl (cs := [.string T, .int .i64 (T.size : Int), .int .i64 0, .int .i64 0]) (by rfl) ?_); intro g wn hb B13 hg; have R : RR wn g T T.size 0 0 := ⟨B13⟩; have C := R.out.cells; have hne4 : g4 ≠ g := (by omega); have hg0 : w.heap.size ≤ g := Nat.le_trans hlo.size hg; replace B4 := B4.below hb; replace hlo := bthen hlo hb; clear hb B13)
    | (go_at_call 17; have hsz := B4.lt; have hsl := hlo.size; (with_reducible refine (next0r (pcr T hT (.next 0 T.size)) hi R Hq.out).mono ?_); rintro e9 wn ⟨vn, rfl, hq, haf, ⟨y, rfl, hgy, hfy, hey⟩⟩; replace hlo := hlo.trans (Upg.below hq hlo.size hg0); replace B4 := blk_upg B4 hq hne4; have hf1 : ∀ b ∈ footD y, w.heap.size ≤ b ∧ b ≠ g4 := (fun b hb => by have := hfy b hb; omega); have Hey := As.mk hey; clear C hq R hfy hey hsz hsl; obtain ⟨R, _⟩ : RR wn g T e 0 0 ∧ e ≤ T.size := haf; have C := R.out.cells; obtain ⟨kind, n0, neg, A, c, mag, text, Ai, ci, items, Ar, cr, rest⟩ := y)
    | ((with_reducible refine g_dst 8 ?_); go_must (refine ev_alloc 8 rfl infoD (cs := [.int .i64 0, .int .i64 0, .bool false, .slice none 0 0, .string ⟨#[]⟩, .slice none 0 0, .slice none 0 0]) rfl ?_); intro g8 wn hb B8 hg8; have hne8 : g ≠ g8 := (fun h => by have := R.lt; omega); have hn48 : g4 ≠ g8 := (fun h => by have := B4.lt; omega); have hw8 := Nat.le_trans hlo.size hg8; have hy8 : ∀ b ∈ footD (.mk kind n0 neg A c mag text Ai ci items Ar cr rest), b ≠ g8 := (fun b hb => by have := good_lt hgy b hb; omega); replace R := R.below hb; clear C; have C := R.out.cells; replace B4 := B4.below hb; replace hgy := hgy.to hb; replace hlo := bthen hlo hb; clear hb hg8)
    | ((with_reducible refine g_store 8 ?_); go_must (refine ev_store rfl rfl B8 (news := encD (.mk kind n0 neg A c mag text Ai ci items Ar cr rest)) (by rfl) infoD (by simp [encD]) (by simp [encD, Value.oneCell']) ?_); intro wn ho Bn; simp only [encD, zA, zB, zC, zD, zE, zF, zG, zH] at Bn; have R2 : RR wn g T _ _ _ := ⟨R.out.only ho hne8⟩; clear C R; have R := R2; clear R2; have C := R.out.cells; replace B4 := B4.only ho hn48; replace hgy := good_only hgy ho hy8; replace hlo := hlo.trans (ho.below hw8); replace B8 := Bn; clear Bn ho))
   have hd := (Below.refl wn.heap.size wn).drew
   replace R := R.below hd
   replace B4 := B4.below hd
   replace B8 := B8.below hd
   replace hgy := hgy.to hd
   replace hlo := bthen hlo hd
   have hS : ∀ W, Blk W g8 [.int .i64 kind, .int .i64 n0, .bool neg, .slice A mag.length c, .string ⟨text.toArray⟩, .slice Ai items.length ci, .slice Ar rest.length cr] 35 → RR W g T e 0 0 → (W.cell? ⟨g8, 0, none⟩ = some (.int .i64 kind) ∧ W.cell? ⟨g8, 1, none⟩ = some (.int .i64 n0) ∧ W.cell? ⟨g8, 2, none⟩ = some (.bool neg) ∧ W.cell? ⟨g8, 3, none⟩ = some (.slice A mag.length c) ∧ W.cell? ⟨g8, 4, none⟩ = some (.string ⟨text.toArray⟩) ∧ W.cell? ⟨g8, 5, none⟩ = some (.slice Ai items.length ci) ∧ W.cell? ⟨g8, 6, none⟩ = some (.slice Ar rest.length cr)) ∧ W.cell? ⟨g, 1, none⟩ = some (.int .i64 (e : Int)) := fun W B R => ⟨⟨B.cells 0, B.cells 1, B.cells 2, B.cells 3, B.cells 4, B.cells 5, B.cells 6⟩, R.out.cells 1⟩
   have hS0 := hS _ B8 R
   clear C
   refine wp_gen2 (fun Q7 hQ7 => ?_)
   refine wp_region_held_drew (S := fun W => (W.cell? ⟨g8, 0, none⟩ = some (.int .i64 kind) ∧ W.cell? ⟨g8, 1, none⟩ = some (.int .i64 n0) ∧ W.cell? ⟨g8, 2, none⟩ = some (.bool neg) ∧ W.cell? ⟨g8, 3, none⟩ = some (.slice A mag.length c) ∧ W.cell? ⟨g8, 4, none⟩ = some (.string ⟨text.toArray⟩) ∧ W.cell? ⟨g8, 5, none⟩ = some (.slice Ai items.length ci) ∧ W.cell? ⟨g8, 6, none⟩ = some (.slice Ar rest.length cr)) ∧ W.cell? ⟨g, 1, none⟩ = some (.int .i64 (e : Int))) (by kernel_rfl) (hS0) (fun hHeld => ?_)
   refine ta 0 (.agg #[.int .i64 kind, .int .i64 n0, .bool neg, .slice A mag.length c, .string ⟨text.toArray⟩, .slice Ai items.length ci, .slice Ar rest.length cr]) ?_
   refine ta 1 (.pointer (some ⟨g, 0, none⟩)) ?_
   refine ta 2 (.pointer (some ⟨g, 0, none⟩)) ?_
   refine ta 3 (.pointer (some ⟨g, 1, none⟩)) ?_
   refine ta 4 (.int .i64 (e : Int)) ?_
   refine wpAnyH_ready (rs := [5]) (by decide +kernel) (by simp) ?_
   refine AllReadyH.cons (o := _) (by simp only [List.getElem?_toArray, List.getElem?_cons_succ, List.getElem?_cons_zero]; rfl) (fun K hK => ?_) AllReadyH.nil
   refine gI ?_
   refine st_store rfl rfl B4 (news := [.int .i64 kind, .int .i64 n0, .bool neg, .slice A mag.length c, .string ⟨text.toArray⟩, .slice Ai items.length ci, .slice Ar rest.length cr]) (by first | rfl | (go_simp; try rfl) | simp) infoD (by simp) (by simp [Value.oneCell']) ?_; intro w5 ho Bn; simp only [encD, zA, zB, zC, zD, zE, zF, zG, zH] at Bn; replace hlo := hlo.trans (ho.below hg4); have R5 : RR w5 g T _ _ _ := ⟨R.out.only ho (Ne.symm hne4)⟩; replace hgy := good_only hgy ho (fun b hb => (hf1 b hb).2); replace B8 := B8.only ho (Ne.symm hn48)
   refine hK.out _ _ (hS _ B8 R5) (fun hHeld => ?_); clear hK K; (try simp only [Act.put, pA, pB, pC, pD, pE, pF])
   refine ta 6 (.int .i64 (e : Int)) ?_
   refine ta 7 (.int .i64 0) ?_
   refine wpAnyH_done (by kernel_rfl) ?_ _
   refine NoPanic.normal ?_
   obtain ⟨rfl⟩ := hQ7
   go_wp2
   refine bodyPost_ret (results_cell2 rfl _ _ g4 35 ([.int .i64 kind, .int .i64 n0, .bool neg, .slice A mag.length c, .string ⟨text.toArray⟩, .slice Ai items.length ci, .slice Ar rest.length cr] : List Value).toArray (0, 0) _ rfl Bn.h Tryz.underlying35 rfl (by kernel_rfl)) rfl ?_
   exact ⟨_, rfl, ⟨.mk kind n0 neg A c mag text Ai ci items Ar cr rest, rfl, hgy, fun b hb => (hf1 b hb).1, Hey.out x e rfl⟩, hlo⟩
set_option maxRecDepth 16000 in
set_option maxHeartbeats 8000000 in
theorem rone_big {w : World} {T : ByteArray} (hT : T.size ≤ 65536) (a : Int) (ha : (T.size : Int) < a) (q : Rs) (hq : Run T.data.toList (.next 0 T.size) q) :
 Calls Tryz.prog 10 #[.string T, .int .i64 a] w (Gives w fun v w' => OneP w.heap.size w' v q) := by
 have h1 : ¬ (65536 : Int) < (T.size : Int) := by omega
 have h2 : ¬ a < 0 := by omega
 have h3 : (T.size : Int) < a := by omega
 have hi := Nat.le_refl T.size
 have Hq := As.mk hq
 clear hq
 cases q with
 | error pc =>
   obtain ⟨p, c0⟩ := pc
   go_enter Tryz.func10, Tryz.ntmps10
   go_wp2_with (first
    | ((with_reducible refine g_dst 4 ?_); go_must (refine ev_alloc 4 rfl infoD (cs := [.int .i64 0, .int .i64 0, .bool false, .slice none 0 0, .string ⟨#[]⟩, .slice none 0 0, .slice none 0 0]) rfl ?_); intro g4 wn hb B4 hg4; have hlo := hb; have hl4 := B4.lt; clear hb)
    | ((with_reducible refine g_dst 26 ?_); go_must (refine ev_box 26 rfl (cs := [.string T, .int .i64 (T.size : Int), .int .i64 0, .int .i64 0]) (by rfl) ?_); intro g wn hb B13 hg; have R : RR wn g T T.size 0 0 := ⟨B13⟩; have C := R.out.cells; have hne4 : g4 ≠ g := (by omega); have hg0 : w.heap.size ≤ g := Nat.le_trans hlo.size hg; replace B4 := B4.below hb; replace hlo := bthen hlo hb; clear hb B13)
    | (go_at_call 17; have hsz := B4.lt; have hsl := hlo.size; (with_reducible refine (next0r (pcr T hT (.next 0 T.size)) hi R Hq.out).mono ?_); rintro e9 wn ⟨vn, rfl, hq, haf, ⟨y, rfl, hgy, hfy, hey⟩⟩; replace hlo := hlo.trans (Upg.below hq hlo.size hg0); replace B4 := blk_upg B4 hq hne4; have hf1 : ∀ b ∈ footD y, w.heap.size ≤ b ∧ b ≠ g4 := (fun b hb => by have := hfy b hb; omega); have Hey := As.mk hey; clear C hq R hfy hey hsz hsl; obtain ⟨j2, R, hc2⟩ : ∃ j2, RR wn g T j2 (p : Int) (c0 : Int) ∧ c0 ≠ 0 := haf; have hz : ((c0 : Int) != 0) = true := (by simpa using hc2); have C := R.out.cells; obtain ⟨kind, n0, neg, A, c, mag, text, Ai, ci, items, Ar, cr, rest⟩ := y)
    | ((with_reducible refine g_dst 8 ?_); go_must (refine ev_alloc 8 rfl infoD (cs := [.int .i64 0, .int .i64 0, .bool false, .slice none 0 0, .string ⟨#[]⟩, .slice none 0 0, .slice none 0 0]) rfl ?_); intro g8 wn hb B8 hg8; have hne8 : g ≠ g8 := (fun h => by have := R.lt; omega); have hn48 : g4 ≠ g8 := (fun h => by have := B4.lt; omega); have hw8 := Nat.le_trans hlo.size hg8; have hy8 : ∀ b ∈ footD (.mk kind n0 neg A c mag text Ai ci items Ar cr rest), b ≠ g8 := (fun b hb => by have := good_lt hgy b hb; omega); replace R := R.below hb; clear C; have C := R.out.cells; replace B4 := B4.below hb; replace hgy := hgy.to hb; replace hlo := bthen hlo hb; clear hb hg8)
    | ((with_reducible refine g_store 8 ?_); go_must (refine ev_store rfl rfl B8 (news := encD (.mk kind n0 neg A c mag text Ai ci items Ar cr rest)) (by rfl) infoD (by simp [encD]) (by simp [encD, Value.oneCell']) ?_); intro wn ho Bn; simp only [encD, zA, zB, zC, zD, zE, zF, zG, zH] at Bn; have R2 : RR wn g T _ _ _ := ⟨R.out.only ho hne8⟩; clear C R; have R := R2; clear R2; have C := R.out.cells; replace B4 := B4.only ho hn48; replace hgy := good_only hgy ho hy8; replace hlo := hlo.trans (ho.below hw8); replace B8 := Bn; clear Bn ho))
   have hd := (Below.refl wn.heap.size wn).drew
   replace R := R.below hd
   replace B4 := B4.below hd
   replace hgy := hgy.to hd
   replace hlo := bthen hlo hd
   have hS : ∀ W j, RR W g T j (p : Int) (c0 : Int) → W.cell? ⟨g, 2, none⟩ = some (.int .i64 (c0 : Int)) ∧ W.cell? ⟨g, 3, none⟩ = some (.int .i64 (p : Int)) := fun W j R => ⟨R.out.cells 2, R.out.cells 3⟩
   have hS0 := hS _ _ R
   clear C
   refine wp_gen2 (fun Q7 hQ7 => ?_)
   refine wp_region_held_drew (S := fun W => W.cell? ⟨g, 2, none⟩ = some (.int .i64 (c0 : Int)) ∧ W.cell? ⟨g, 3, none⟩ = some (.int .i64 (p : Int))) (by kernel_rfl) (hS0) (fun hHeld => ?_)
   refine ta 0 (.agg #[.int .i64 0, .int .i64 0, .bool false, .slice none 0 0, .string ⟨#[]⟩, .slice none 0 0, .slice none 0 0]) ?_
   refine ta 1 (.pointer (some ⟨g, 0, none⟩)) ?_
   refine ta 2 (.pointer (some ⟨g, 0, none⟩)) ?_
   refine ta 3 (.pointer (some ⟨g, 3, none⟩)) ?_
   refine ta 4 (.int .i64 (p : Int)) ?_
   refine ta 5 (.pointer (some ⟨g, 0, none⟩)) ?_
   refine ta 6 (.pointer (some ⟨g, 0, none⟩)) ?_
   refine ta 7 (.pointer (some ⟨g, 2, none⟩)) ?_
   refine ta 8 (.int .i64 (c0 : Int)) ?_
   refine wpAnyH_ready (rs := [9]) (by decide +kernel) (by simp) ?_
   refine AllReadyH.cons (o := _) (by simp only [List.getElem?_toArray, List.getElem?_cons_succ, List.getElem?_cons_zero]; rfl) (fun K hK => ?_) AllReadyH.nil
   refine gI ?_
   refine st_store rfl rfl B4 (news := [.int .i64 0, .int .i64 0, .bool false, .slice none 0 0, .string ⟨#[]⟩, .slice none 0 0, .slice none 0 0]) (by first | rfl | (go_simp; try rfl) | simp) infoD (by simp) (by simp [Value.oneCell']) ?_; intro w5 ho Bn; simp only [encD, zA, zB, zC, zD, zE, zF, zG, zH] at Bn; replace hlo := hlo.trans (ho.below hg4); have R5 : RR w5 g T _ _ _ := ⟨R.out.only ho (Ne.symm hne4)⟩; replace hgy := good_only hgy ho (fun b hb => (hf1 b hb).2)
   refine hK.out _ _ (hS _ _ R5) (fun hHeld => ?_); clear hK K; (try simp only [Act.put, pA, pB, pC, pD, pE, pF])
   refine ta 10 (.int .i64 (p : Int)) ?_
   refine ta 11 (.int .i64 (c0 : Int)) ?_
   refine wpAnyH_done (by kernel_rfl) ?_ _
   refine NoPanic.normal ?_
   obtain ⟨rfl⟩ := hQ7
   go_wp2
   refine bodyPost_ret (results_cell2 rfl _ _ g4 35 ([.int .i64 0, .int .i64 0, .bool false, .slice none 0 0, .string ⟨#[]⟩, .slice none 0 0, .slice none 0 0] : List Value).toArray (0, 0) _ rfl Bn.h Tryz.underlying35 rfl (by kernel_rfl)) rfl ?_
   exact ⟨_, rfl, rfl, hlo⟩
 | ok xe =>
   obtain ⟨x, e⟩ := xe
   go_enter Tryz.func10, Tryz.ntmps10
   go_wp2_with (first
    | ((with_reducible refine g_dst 4 ?_); go_must (refine ev_alloc 4 rfl infoD (cs := [.int .i64 0, .int .i64 0, .bool false, .slice none 0 0, .string ⟨#[]⟩, .slice none 0 0, .slice none 0 0]) rfl ?_); intro g4 wn hb B4 hg4; have hlo := hb; have hl4 := B4.lt; clear hb)
    | ((with_reducible refine g_dst 26 ?_); go_must (refine ev_box 26 rfl (cs := [.string T, .int .i64 (T.size : Int), .int .i64 0, .int .i64 0]) (by rfl) ?_); intro g wn hb B13 hg; have R : RR wn g T T.size 0 0 := ⟨B13⟩; have C := R.out.cells; have hne4 : g4 ≠ g := (by omega); have hg0 : w.heap.size ≤ g := Nat.le_trans hlo.size hg; replace B4 := B4.below hb; replace hlo := bthen hlo hb; clear hb B13)
    | (go_at_call 17; have hsz := B4.lt; have hsl := hlo.size; (with_reducible refine (next0r (pcr T hT (.next 0 T.size)) hi R Hq.out).mono ?_); rintro e9 wn ⟨vn, rfl, hq, haf, ⟨y, rfl, hgy, hfy, hey⟩⟩; replace hlo := hlo.trans (Upg.below hq hlo.size hg0); replace B4 := blk_upg B4 hq hne4; have hf1 : ∀ b ∈ footD y, w.heap.size ≤ b ∧ b ≠ g4 := (fun b hb => by have := hfy b hb; omega); have Hey := As.mk hey; clear C hq R hfy hey hsz hsl; obtain ⟨R, _⟩ : RR wn g T e 0 0 ∧ e ≤ T.size := haf; have C := R.out.cells; obtain ⟨kind, n0, neg, A, c, mag, text, Ai, ci, items, Ar, cr, rest⟩ := y)
    | ((with_reducible refine g_dst 8 ?_); go_must (refine ev_alloc 8 rfl infoD (cs := [.int .i64 0, .int .i64 0, .bool false, .slice none 0 0, .string ⟨#[]⟩, .slice none 0 0, .slice none 0 0]) rfl ?_); intro g8 wn hb B8 hg8; have hne8 : g ≠ g8 := (fun h => by have := R.lt; omega); have hn48 : g4 ≠ g8 := (fun h => by have := B4.lt; omega); have hw8 := Nat.le_trans hlo.size hg8; have hy8 : ∀ b ∈ footD (.mk kind n0 neg A c mag text Ai ci items Ar cr rest), b ≠ g8 := (fun b hb => by have := good_lt hgy b hb; omega); replace R := R.below hb; clear C; have C := R.out.cells; replace B4 := B4.below hb; replace hgy := hgy.to hb; replace hlo := bthen hlo hb; clear hb hg8)
    | ((with_reducible refine g_store 8 ?_); go_must (refine ev_store rfl rfl B8 (news := encD (.mk kind n0 neg A c mag text Ai ci items Ar cr rest)) (by rfl) infoD (by simp [encD]) (by simp [encD, Value.oneCell']) ?_); intro wn ho Bn; simp only [encD, zA, zB, zC, zD, zE, zF, zG, zH] at Bn; have R2 : RR wn g T _ _ _ := ⟨R.out.only ho hne8⟩; clear C R; have R := R2; clear R2; have C := R.out.cells; replace B4 := B4.only ho hn48; replace hgy := good_only hgy ho hy8; replace hlo := hlo.trans (ho.below hw8); replace B8 := Bn; clear Bn ho))
   have hd := (Below.refl wn.heap.size wn).drew
   replace R := R.below hd
   replace B4 := B4.below hd
   replace B8 := B8.below hd
   replace hgy := hgy.to hd
   replace hlo := bthen hlo hd
   have hS : ∀ W, Blk W g8 [.int .i64 kind, .int .i64 n0, .bool neg, .slice A mag.length c, .string ⟨text.toArray⟩, .slice Ai items.length ci, .slice Ar rest.length cr] 35 → RR W g T e 0 0 → (W.cell? ⟨g8, 0, none⟩ = some (.int .i64 kind) ∧ W.cell? ⟨g8, 1, none⟩ = some (.int .i64 n0) ∧ W.cell? ⟨g8, 2, none⟩ = some (.bool neg) ∧ W.cell? ⟨g8, 3, none⟩ = some (.slice A mag.length c) ∧ W.cell? ⟨g8, 4, none⟩ = some (.string ⟨text.toArray⟩) ∧ W.cell? ⟨g8, 5, none⟩ = some (.slice Ai items.length ci) ∧ W.cell? ⟨g8, 6, none⟩ = some (.slice Ar rest.length cr)) ∧ W.cell? ⟨g, 1, none⟩ = some (.int .i64 (e : Int)) := fun W B R => ⟨⟨B.cells 0, B.cells 1, B.cells 2, B.cells 3, B.cells 4, B.cells 5, B.cells 6⟩, R.out.cells 1⟩
   have hS0 := hS _ B8 R
   clear C
   refine wp_gen2 (fun Q7 hQ7 => ?_)
   refine wp_region_held_drew (S := fun W => (W.cell? ⟨g8, 0, none⟩ = some (.int .i64 kind) ∧ W.cell? ⟨g8, 1, none⟩ = some (.int .i64 n0) ∧ W.cell? ⟨g8, 2, none⟩ = some (.bool neg) ∧ W.cell? ⟨g8, 3, none⟩ = some (.slice A mag.length c) ∧ W.cell? ⟨g8, 4, none⟩ = some (.string ⟨text.toArray⟩) ∧ W.cell? ⟨g8, 5, none⟩ = some (.slice Ai items.length ci) ∧ W.cell? ⟨g8, 6, none⟩ = some (.slice Ar rest.length cr)) ∧ W.cell? ⟨g, 1, none⟩ = some (.int .i64 (e : Int))) (by kernel_rfl) (hS0) (fun hHeld => ?_)
   refine ta 0 (.agg #[.int .i64 kind, .int .i64 n0, .bool neg, .slice A mag.length c, .string ⟨text.toArray⟩, .slice Ai items.length ci, .slice Ar rest.length cr]) ?_
   refine ta 1 (.pointer (some ⟨g, 0, none⟩)) ?_
   refine ta 2 (.pointer (some ⟨g, 0, none⟩)) ?_
   refine ta 3 (.pointer (some ⟨g, 1, none⟩)) ?_
   refine ta 4 (.int .i64 (e : Int)) ?_
   refine wpAnyH_ready (rs := [5]) (by decide +kernel) (by simp) ?_
   refine AllReadyH.cons (o := _) (by simp only [List.getElem?_toArray, List.getElem?_cons_succ, List.getElem?_cons_zero]; rfl) (fun K hK => ?_) AllReadyH.nil
   refine gI ?_
   refine st_store rfl rfl B4 (news := [.int .i64 kind, .int .i64 n0, .bool neg, .slice A mag.length c, .string ⟨text.toArray⟩, .slice Ai items.length ci, .slice Ar rest.length cr]) (by first | rfl | (go_simp; try rfl) | simp) infoD (by simp) (by simp [Value.oneCell']) ?_; intro w5 ho Bn; simp only [encD, zA, zB, zC, zD, zE, zF, zG, zH] at Bn; replace hlo := hlo.trans (ho.below hg4); have R5 : RR w5 g T _ _ _ := ⟨R.out.only ho (Ne.symm hne4)⟩; replace hgy := good_only hgy ho (fun b hb => (hf1 b hb).2); replace B8 := B8.only ho (Ne.symm hn48)
   refine hK.out _ _ (hS _ B8 R5) (fun hHeld => ?_); clear hK K; (try simp only [Act.put, pA, pB, pC, pD, pE, pF])
   refine ta 6 (.int .i64 (e : Int)) ?_
   refine ta 7 (.int .i64 0) ?_
   refine wpAnyH_done (by kernel_rfl) ?_ _
   refine NoPanic.normal ?_
   obtain ⟨rfl⟩ := hQ7
   go_wp2
   refine bodyPost_ret (results_cell2 rfl _ _ g4 35 ([.int .i64 kind, .int .i64 n0, .bool neg, .slice A mag.length c, .string ⟨text.toArray⟩, .slice Ai items.length ci, .slice Ar rest.length cr] : List Value).toArray (0, 0) _ rfl Bn.h Tryz.underlying35 rfl (by kernel_rfl)) rfl ?_
   exact ⟨_, rfl, ⟨.mk kind n0 neg A c mag text Ai ci items Ar cr rest, rfl, hgy, fun b hb => (hf1 b hb).1, Hey.out x e rfl⟩, hlo⟩
theorem rone_long {w : World} {T : ByteArray} (hT : ¬ T.size ≤ 65536) (a : Int) : Calls Tryz.prog 10 #[.string T, .int .i64 a] w (Gives w fun v _ => v = .tuple #[.agg #[.int .i64 0, .int .i64 0, .bool false, .slice none 0 0, .string ⟨#[]⟩, .slice none 0 0, .slice none 0 0], .int .i64 0, .int .i64 2]) := by
 have h1 : (65536 : Int) < (T.size : Int) := by omega
 go_enter Tryz.func10, Tryz.ntmps10
 go_wp2_with (first
  | ((with_reducible refine g_dst 4 ?_); go_must (refine ev_alloc 4 rfl infoD (cs := [.int .i64 0, .int .i64 0, .bool false, .slice none 0 0, .string ⟨#[]⟩, .slice none 0 0, .slice none 0 0]) rfl ?_); intro g4 wn hb B4 hg4)
  | ((with_reducible refine g_store 4 ?_); go_must (refine ev_store rfl rfl B4 (news := [.int .i64 0, .int .i64 0, .bool false, .slice none 0 0, .string ⟨#[]⟩, .slice none 0 0, .slice none 0 0]) (by rfl) infoD (by simp) (by simp [Value.oneCell']) ?_); intro wn ho Bn; simp only [encD, zA, zB, zC, zD, zE, zF, zG, zH] at Bn; replace hb := hb.trans (ho.below hg4)))
 refine bodyPost_ret (results_cell2 rfl _ _ g4 35 ([.int .i64 0, .int .i64 0, .bool false, .slice none 0 0, .string ⟨#[]⟩, .slice none 0 0, .slice none 0 0] : List Value).toArray (0, 0) _ rfl Bn.h Tryz.underlying35 rfl (by kernel_rfl)) rfl ?_
 exact ⟨_, rfl, rfl, hb⟩
end Go.Proofs.YtdapbegadhcpcaaGreatDoor
