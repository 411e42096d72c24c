/- tandemref05: a list behind its dot. -/
import Derived.Test.YtdapbegadhcpcaaGreatDoorRfN0
set_option linter.unusedVariables false
set_option linter.unusedSimpArgs false
namespace Go.Proofs.YtdapbegadhcpcaaGreatDoor
open Go.RowKit Go.Proofs.YtdapbegadhcpcaaGreatDoorL Go.Proofs.YtdapbegadhcpcaaGreatDoorM
theorem lit_one {ev : Operand → Value} {x : Operand} {kind n : Int} {neg : Bool} {A : Option Addr} {c : Nat} {mag : List Nat} {text : List UInt8} {Ai : Option Addr} {ci : Nat} {items : List LD} {Ar : Option Addr} {cr : Nat} {rest : List LD} {N : Option Tmp} {ty : TypeId} {ps : String} {af : Array Edge} {gd : Option (Nat × Bool)} (hev : ev x = .agg #[.int .i64 kind, .int .i64 n, .bool neg, .slice A mag.length c, .string ⟨text.toArray⟩, .slice Ai items.length ci, .slice Ar rest.length cr]) (w : World) :
 (execOp ev { dst := N, op := .buildSlice 22 1 #[(0, x)], type := ty, pos := ps, after := af, guard := gd }).run Tryz.prog w = .ok (.value (.slice (some ⟨w.heap.size, 0, none⟩) 1 1)) (w.alloc (.cells (encD (.mk kind n neg A c mag text Ai ci items Ar cr rest)).toArray 35)) := by
 go_simp
 rfl
set_option maxRecDepth 16000 in
set_option maxHeartbeats 40000000 in
theorem rrest_any {w : World} {g i D base : Nat} {T : ByteArray} (R : RR w g T i 0 0) (hT : T.size ≤ 65536) (hi : i < T.size) (hD : D ≤ 100) {A : Option Addr} {c : Nat} {m : List LD} {acc : List DV} (HI : Its w.heap.size base w A c m acc) (hB0 : base ≤ w.heap.size) (hgb : g < base) (hml : m.length ≤ 65536) (hm0 : ((m.length : Int) == 0) = false)
 (IHb : ∀ k, i < k → PCr T (.blanks D k)) (IHn : ∀ k, i < k → PCr T (.next D k)) (q r : Rs) (hq : Run T.data.toList (.blanks D (i + 1)) q) (hr : DotR T.data.toList D acc q r) :
 Calls Tryz.prog 48 #[.pointer (some ⟨g, 0, none⟩), .agg ([.int .i64 6, .int .i64 0, .bool false, .slice none 0 0, .string ⟨#[]⟩, .slice A m.length c, .slice none 0 0] : List Value).toArray, .int .i64 (D : Int)] w fun x w' => ∃ v, x = .returned v ∧ UpB base g w w' ∧ AftR w' g T r ∧ IsD base w' r v := by
 have C := R.out.cells
 have hu := UpB.refl base g w
 have hsl := size_list T
 have HB1 := As.mk (IHb (i + 1) (by omega))
 have Hq1 := As.mk hq
 have hi1 : i + 1 ≤ T.size := by omega
 have hg0 := R.lt
 cases q with
 | error pc =>
   obtain ⟨p, c0⟩ := pc
   have Hr : As (r = .error (p, c0)) := ⟨hr⟩
   clear hr hq IHb IHn
   as_aux_lemma =>
    go_enter Tryz.func48, Tryz.ntmps48
    go_wp2_with (first
     | ((with_reducible refine g_dst 4 ?_); go_must (refine ev_box 4 rfl (cs := [.int .i64 6, .int .i64 0, .bool false, .slice none 0 0, .string ⟨#[]⟩, .slice A m.length c, .slice none 0 0]) (by rfl) ?_); intro g4 wn hb B4 hg4; have hs4 := Nat.le_trans hu.size hg4; have hne4 : g4 ≠ g := (fun h => by have := R.lt; omega); clear hg4; replace R := R.below hb; clear C; have C := R.out.cells; replace HI := HI.below hb hu.size; replace hu := hu.trans (UpB.of_below hb (Nat.le_trans hB0 hu.size)); clear hb)
     | ((with_reducible refine g_dst 6 ?_); go_must (refine ev_alloc 6 rfl infoD (cs := [.int .i64 0, .int .i64 0, .bool false, .slice none 0 0, .string ⟨#[]⟩, .slice none 0 0, .slice none 0 0]) rfl ?_); intro g6 wn hb B6 hg6; have hs6 := Nat.le_trans hu.size hg6; have hne6 : g6 ≠ g := (fun h => by have := R.lt; omega); have hn64 : g6 ≠ g4 := (fun h => by have := B4.lt; omega); clear hg6; replace R := R.below hb; clear C; have C := R.out.cells; replace HI := HI.below hb hu.size; replace hu := hu.trans (UpB.of_below hb (Nat.le_trans hB0 hu.size)); replace B4 := B4.below hb; clear hb; have C4 := B4.cells)
     | ((with_reducible refine g_store 30 ?_); go_must (refine ev_store rfl rfl R.out (news := [.int .i64 ((i + 1 : Nat) : Int)]) (by first | rfl | (go_simp; first | rfl | go_num | (simp; omega))) infoI (by simp) (by simp [Value.oneCell']) ?_); intro wn ho Bn; simp only [zI, zA, zC, zD, zE, zF, zH, zB, zG, Nat.reduceAdd] at Bn; have R2 : RR wn g T (i + 1) 0 0 := ⟨Bn⟩; clear Bn; have hq := Upg.of_only ho; clear C R; have R := R2; clear R2; have C := R.out.cells; replace HI := HI.upg hq hgb hu.size; replace hu := hu.trans (UpB.of_upg hq (Nat.le_trans hB0 hu.size)); replace B4 := blk_upg B4 hq hne4; replace B6 := blk_upg B6 hq hne6; clear hq; clear ho; (try clear C4))
     | (go_at_call 15; (with_reducible refine (PCr.blanksc HB1.out hi1 hD R Hq1.out).mono ?_); rintro e wn ⟨rfl, hq, haf⟩; clear C R; obtain ⟨j2, R, hc2⟩ : ∃ j2, RR wn g T j2 (p : Int) (c0 : Int) ∧ c0 ≠ 0 := haf; have hz : ((c0 : Int) != 0) = true := (by first | decide | simpa using hc2); have hz2 : ((c0 : Int) == 0) = false := (by first | decide | simpa using hc2); have HC : As ((c0 : Int) ≠ 0) := ⟨by omega⟩; have HC2 := As.mk hc2; clear hc2; have C := R.out.cells; replace HI := HI.upg hq hgb hu.size; replace hu := hu.trans (UpB.of_upg hq (Nat.le_trans hB0 hu.size)); replace B4 := blk_upg B4 hq hne4; replace B6 := blk_upg B6 hq hne6; clear hq))
    (try go_wp2)
    have hb := (Below.refl (World.heap wn).size wn).drew
    replace R := R.below hb
    clear C
    have C := R.out.cells
    replace HI := HI.below hb hu.size
    replace hu := hu.trans (UpB.of_below hb (Nat.le_trans hB0 hu.size))
    replace B4 := B4.below hb
    replace B6 := B6.below hb
    clear hb
    have hS : ∀ W, RR W g T j2 p c0 → W.cell? ⟨g, 0, none⟩ = some (.string T) ∧ W.cell? ⟨g, 1, none⟩ = some (.int .i64 (j2 : Int)) ∧ W.cell? ⟨g, 2, none⟩ = some (.int .i64 (c0 : Int)) := fun W R => ⟨R.out.cells 0, R.out.cells 1, R.out.cells 2⟩
    have hS0 := hS _ R
    refine wp_gen2 (fun Q7 hQ7 => ?_)
    refine wp_region_held_drew (S := fun W => W.cell? ⟨g, 0, none⟩ = some (.string T) ∧ W.cell? ⟨g, 1, none⟩ = some (.int .i64 (j2 : Int)) ∧ W.cell? ⟨g, 2, none⟩ = some (.int .i64 (c0 : Int))) (by kernel_rfl) (hS0) (fun hHeld => ?_)
    refine ta 0 (.pointer (some ⟨g, 0, none⟩)) ?_
    refine ta 1 (.pointer (some ⟨g, 0, none⟩)) ?_
    refine ta 2 (.pointer (some ⟨g, 2, none⟩)) ?_
    refine ta 3 (.int .i64 (c0 : Int)) ?_
    refine ta 4 (.bool false) ?_
    refine ta 5 (.bool false) ?_
    refine tu 6 ?_
    refine tu 7 ?_
    refine tu 8 ?_
    refine ta 9 (.bool false) ?_
    refine ta 10 (.bool false) ?_
    refine tu 11 ?_
    refine tu 12 ?_
    refine tu 13 ?_
    refine tu 14 ?_
    refine tu 15 ?_
    refine tu 16 ?_
    refine tu 17 ?_
    refine tu 18 ?_
    refine tu 19 ?_
    refine tu 20 ?_
    refine ta 21 (.bool false) ?_
    refine wpAnyH_done (by kernel_rfl) ?_ _
    refine NoPanic.normal ?_
    obtain ⟨rfl⟩ := hQ7
    clear hS hS0
    go_wp2_with (first
     | (go_at_call 17; (with_reducible refine (rnext_err R HC.out _ (.error (0, 1)) (fun x e h => nomatch h)).mono ?_); rintro e wn ⟨vn, rfl, hq, R2, ⟨y, rfl, hgy, hfy0, _⟩⟩; have hfy : ∀ b ∈ footD y, w.heap.size ≤ b ∧ b ≠ g4 ∧ b ≠ g6 := (fun b hb => by have := hfy0 b hb; have := hu.size; have := B4.lt; have := B6.lt; omega); clear hfy0; obtain ⟨kind, n0, neg, mA, mc, mag, text, Ai, ci, items, Ar, cr, rest⟩ := y; clear C R; have R := R2; clear R2; have C := R.out.cells; replace HI := HI.upg hq hgb hu.size; replace hu := hu.trans (UpB.of_upg hq (Nat.le_trans hB0 hu.size)); replace B4 := blk_upg B4 hq hne4; replace B6 := blk_upg B6 hq hne6; clear hq)
     | ((with_reducible refine g_dst 7 ?_); go_must (refine ev_alloc 7 rfl infoD (cs := [.int .i64 0, .int .i64 0, .bool false, .slice none 0 0, .string ⟨#[]⟩, .slice none 0 0, .slice none 0 0]) rfl ?_); intro g7 wn hb B7 hg7; have hs7 := Nat.le_trans hu.size hg7; have hne7 : g7 ≠ g := (fun h => by have := R.lt; omega); have hn74 : g7 ≠ g4 := (fun h => by have := B4.lt; omega); have hn76 : g7 ≠ g6 := (fun h => by have := B6.lt; omega); have hy7 : ∀ b ∈ footD (.mk kind n0 neg mA mc mag text Ai ci items Ar cr rest), b ≠ g7 := (fun b hb => by have := good_lt hgy b hb; omega); clear hg7; replace R := R.below hb; clear C; have C := R.out.cells; replace HI := HI.below hb hu.size; replace hu := hu.trans (UpB.of_below hb (Nat.le_trans hB0 hu.size)); replace B4 := B4.below hb; replace B6 := B6.below hb; replace hgy := hgy.to hb; clear hb)
     | ((with_reducible refine g_store 7 ?_); go_must (refine ev_store rfl rfl B7 (news := encD (.mk kind n0 neg mA mc mag text Ai ci items Ar cr rest)) (by first | rfl | (go_simp; try rfl)) infoD (by simp [encD]) (by simp [encD, Value.oneCell']) ?_); intro wn ho Bn; simp only [encD, zA, zB, zC, zD, zE, zF, zG, zH] at Bn; replace HI := HI.only ho (.inr hs7); replace hu := hu.trans (UpB.of_only ho (Nat.le_trans hB0 hs7)); have R2 : RR wn g T _ _ _ := ⟨R.out.only ho (Ne.symm hne7)⟩; clear C R; have R := R2; clear R2; have C := R.out.cells; replace B4 := B4.only ho (Ne.symm hn74); replace B6 := B6.only ho (Ne.symm hn76); replace hgy := good_only hgy ho hy7; replace B7 := Bn; clear Bn ho)
     | (go_at_call 15; (with_reducible refine (skip_err R HC.out _).mono ?_); rintro e wn ⟨rfl, hb⟩; replace R := R.below hb; clear C; have C := R.out.cells; replace HI := HI.below hb hu.size; replace hu := hu.trans (UpB.of_below hb (Nat.le_trans hB0 hu.size)); replace B4 := B4.below hb; replace B6 := B6.below hb; replace B7 := B7.below hb; replace hgy := hgy.to hb; clear hb))
    (try go_wp2)
    have hb := (Below.refl (World.heap wn).size wn).drew
    replace R := R.below hb
    clear C
    have C := R.out.cells
    replace HI := HI.below hb hu.size
    replace hu := hu.trans (UpB.of_below hb (Nat.le_trans hB0 hu.size))
    replace B4 := B4.below hb
    replace B6 := B6.below hb
    replace B7 := B7.below hb
    replace hgy := hgy.to hb
    clear hb
    have hS : ∀ W, RR W g T j2 p c0 → W.cell? ⟨g, 0, none⟩ = some (.string T) ∧ W.cell? ⟨g, 1, none⟩ = some (.int .i64 (j2 : Int)) ∧ W.cell? ⟨g, 2, none⟩ = some (.int .i64 (c0 : Int)) := fun W R => ⟨R.out.cells 0, R.out.cells 1, R.out.cells 2⟩
    have hS0 := hS _ R
    refine wp_gen2 (fun Q7 hQ7 => ?_)
    refine wp_region_held_drew (S := fun W => W.cell? ⟨g, 0, none⟩ = some (.string T) ∧ W.cell? ⟨g, 1, none⟩ = some (.int .i64 (j2 : Int)) ∧ W.cell? ⟨g, 2, none⟩ = some (.int .i64 (c0 : Int))) (by kernel_rfl) (hS0) (fun hHeld => ?_)
    refine ta 0 (.pointer (some ⟨g, 0, none⟩)) ?_
    refine ta 1 (.pointer (some ⟨g, 0, none⟩)) ?_
    refine ta 2 (.pointer (some ⟨g, 2, none⟩)) ?_
    refine ta 3 (.int .i64 (c0 : Int)) ?_
    refine ta 4 (.bool false) ?_
    refine ta 5 (.bool false) ?_
    refine tu 6 ?_
    refine tu 7 ?_
    refine tu 8 ?_
    refine tu 9 ?_
    refine tu 10 ?_
    refine tu 11 ?_
    refine tu 12 ?_
    refine tu 13 ?_
    refine tu 14 ?_
    refine tu 15 ?_
    refine ta 16 (.bool false) ?_
    refine wpAnyH_done (by kernel_rfl) ?_ _
    refine NoPanic.normal ?_
    obtain ⟨rfl⟩ := hQ7
    clear hS hS0
    go_wp2_with (first
     | ((with_reducible refine g_store 6 ?_); go_must (refine ev_store rfl rfl B6 (news := [.int .i64 0, .int .i64 0, .bool false, .slice none 0 0, .string ⟨#[]⟩, .slice none 0 0, .slice none 0 0]) (by first | rfl | (go_simp; try rfl)) infoD (by simp [encD]) (by simp [encD, Value.oneCell']) ?_); intro wn ho Bn; simp only [encD, zA, zB, zC, zD, zE, zF, zG, zH] at Bn; replace HI := HI.only ho (.inr hs6); replace hu := hu.trans (UpB.of_only ho (Nat.le_trans hB0 hs6)); have R2 : RR wn g T _ _ _ := ⟨R.out.only ho (Ne.symm hne6)⟩; clear C R; have R := R2; clear R2; have C := R.out.cells; replace B4 := B4.only ho (Ne.symm hn64); replace B6 := Bn; clear Bn ho))
    refine bodyPost_ret (results_cell_row rfl _ _ g6 35 ([.int .i64 0, .int .i64 0, .bool false, .slice none 0 0, .string ⟨#[]⟩, .slice none 0 0, .slice none 0 0] : List Value).toArray (0, 0) _ rfl B6.h Tryz.underlying35 rfl (by kernel_rfl)) rfl ?_
    exact ⟨_, rfl, hu, by rw [Hr.out]; exact ⟨_, R, HC2.out⟩, ldZ, rfl, good_z _ _ _ (by decide) (by decide) _, fun b hb => (by rw [ldZ, foot_z] at hb; cases hb), fun x e h => by rw [Hr.out] at h; cases h⟩
 | ok xf =>
   obtain ⟨x, f⟩ := xf
   have hif : i + 1 ≤ f := run_goes hq rfl
   have hr1 : (if T.data.toList.length ≤ f then r = .error (T.data.toList.length, 10) else if T.data.toList[f]? = some 41 then r = .error (f, 15)
    else ∃ q2, Run T.data.toList (.datum D f) q2 ∧ (match q2 with | .error p => r = .error p | .ok (z, g) => ∃ q3, Run T.data.toList (.blanks D g) q3 ∧ LastR T.data.toList acc z q3 r)) := hr
   have hfl : f ≤ T.data.toList.length := run_le hq rfl (by simp only; omega)
   have Hr1 := As.mk hr1
   have HIb := As.mk IHb
   have HIn := As.mk IHn
   clear hr hr1 hq IHb IHn
   go_enter Tryz.func48, Tryz.ntmps48
   go_wp2_with (first
    | ((with_reducible refine g_dst 4 ?_); go_must (refine ev_box 4 rfl (cs := [.int .i64 6, .int .i64 0, .bool false, .slice none 0 0, .string ⟨#[]⟩, .slice A m.length c, .slice none 0 0]) (by rfl) ?_); intro g4 wn hb B4 hg4; have hs4 := Nat.le_trans hu.size hg4; have hne4 : g4 ≠ g := (fun h => by have := R.lt; omega); clear hg4; replace R := R.below hb; clear C; have C := R.out.cells; replace HI := HI.below hb hu.size; replace hu := hu.trans (UpB.of_below hb (Nat.le_trans hB0 hu.size)); clear hb)
    | ((with_reducible refine g_dst 6 ?_); go_must (refine ev_alloc 6 rfl infoD (cs := [.int .i64 0, .int .i64 0, .bool false, .slice none 0 0, .string ⟨#[]⟩, .slice none 0 0, .slice none 0 0]) rfl ?_); intro g6 wn hb B6 hg6; have hs6 := Nat.le_trans hu.size hg6; have hne6 : g6 ≠ g := (fun h => by have := R.lt; omega); have hn64 : g6 ≠ g4 := (fun h => by have := B4.lt; omega); clear hg6; replace R := R.below hb; clear C; have C := R.out.cells; replace HI := HI.below hb hu.size; replace hu := hu.trans (UpB.of_below hb (Nat.le_trans hB0 hu.size)); replace B4 := B4.below hb; clear hb; have C4 := B4.cells)
    | ((with_reducible refine g_store 30 ?_); go_must (refine ev_store rfl rfl R.out (news := [.int .i64 ((i + 1 : Nat) : Int)]) (by first | rfl | (go_simp; first | rfl | go_num | (simp; omega))) infoI (by simp) (by simp [Value.oneCell']) ?_); intro wn ho Bn; simp only [zI, zA, zC, zD, zE, zF, zH, zB, zG, Nat.reduceAdd] at Bn; have R2 : RR wn g T (i + 1) 0 0 := ⟨Bn⟩; clear Bn; have hq := Upg.of_only ho; clear C R; have R := R2; clear R2; have C := R.out.cells; replace HI := HI.upg hq hgb hu.size; replace hu := hu.trans (UpB.of_upg hq (Nat.le_trans hB0 hu.size)); replace B4 := blk_upg B4 hq hne4; replace B6 := blk_upg B6 hq hne6; clear hq; clear ho; (try clear C4))
    | (go_at_call 15; (with_reducible refine (PCr.blanksc HB1.out hi1 hD R Hq1.out).mono ?_); rintro e wn ⟨rfl, hq, haf⟩; clear C R; obtain ⟨R, hle_f⟩ : RR wn g T f 0 0 ∧ f ≤ T.size := haf; have C := R.out.cells; replace HI := HI.upg hq hgb hu.size; replace hu := hu.trans (UpB.of_upg hq (Nat.le_trans hB0 hu.size)); replace B4 := blk_upg B4 hq hne4; replace B6 := blk_upg B6 hq hne6; clear hq))
   have hr1 := Hr1.out
   clear Hr1
   by_cases h1 : T.data.toList.length ≤ f
   · rw [if_pos h1] at hr1
     have Hr : As (r = .error (T.size, 10)) := ⟨by rw [hr1, hsl]⟩
     have d6 : decide (T.size ≤ f) = true := decide_eq_true (by omega)
     have HN := As.mk (HIn.out f (by omega))
     have Hn : As (Run T.data.toList (.next D f) (.error (T.size, 10))) := ⟨by rw [← hsl]; exact .n_fin (.b_fin (bcls_ge h1)) h1⟩
     clear hr1
     as_aux_lemma =>
      (try go_wp2)
      have hb := (Below.refl (World.heap wn).size wn).drew
      replace R := R.below hb
      clear C
      have C := R.out.cells
      replace HI := HI.below hb hu.size
      replace hu := hu.trans (UpB.of_below hb (Nat.le_trans hB0 hu.size))
      replace B4 := B4.below hb
      replace B6 := B6.below hb
      clear hb
      have hS : ∀ W, RR W g T f 0 0 → W.cell? ⟨g, 0, none⟩ = some (.string T) ∧ W.cell? ⟨g, 1, none⟩ = some (.int .i64 (f : Int)) ∧ W.cell? ⟨g, 2, none⟩ = some (.int .i64 (0 : Int)) := fun W R => ⟨R.out.cells 0, R.out.cells 1, R.out.cells 2⟩
      have hS0 := hS _ R
      refine wp_gen2 (fun Q7 hQ7 => ?_)
      refine wp_region_held_drew (S := fun W => W.cell? ⟨g, 0, none⟩ = some (.string T) ∧ W.cell? ⟨g, 1, none⟩ = some (.int .i64 (f : Int)) ∧ W.cell? ⟨g, 2, none⟩ = some (.int .i64 (0 : Int))) (by kernel_rfl) (hS0) (fun hHeld => ?_)
      refine ta 0 (.pointer (some ⟨g, 0, none⟩)) ?_
      refine ta 1 (.pointer (some ⟨g, 0, none⟩)) ?_
      refine ta 2 (.pointer (some ⟨g, 2, none⟩)) ?_
      refine ta 3 (.int .i64 0) ?_
      refine ta 4 (.bool true) ?_
      refine ta 5 (.bool true) ?_
      refine ta 6 (.pointer (some ⟨g, 0, none⟩)) ?_
      refine wpAnyH_ready (rs := [7]) (by decide +kernel) (by simp) ?_
      refine AllReadyH.cons (o := _) (by simp only [List.getElem?_toArray, List.getElem?_cons_succ, List.getElem?_cons_zero]; rfl) (fun K hK => ?_) AllReadyH.nil
      refine gI ?_
      (with_reducible refine s_dst 41 ?_); go_simp; (with_reducible refine (rend_b R true d6).mono ?_); rintro e wn ⟨vn, rfl, rfl, hb⟩; replace R := R.below hb; clear C; have C := R.out.cells; replace HI := HI.below hb hu.size; replace hu := hu.trans (UpB.of_below hb (Nat.le_trans hB0 hu.size)); replace B4 := B4.below hb; replace B6 := B6.below hb; clear hb
      refine hK.out _ _ (hS _ R) (fun hHeld => ?_); clear hK K; (try simp only [Act.put, pA, pB, pC, pD, pE, pF])
      refine ta 8 (.bool false) ?_
      refine ta 9 (.bool false) ?_
      refine ta 10 (.bool false) ?_
      refine tu 11 ?_
      refine tu 12 ?_
      refine tu 13 ?_
      refine tu 14 ?_
      refine tu 15 ?_
      refine tu 16 ?_
      refine tu 17 ?_
      refine tu 18 ?_
      refine tu 19 ?_
      refine tu 20 ?_
      refine ta 21 (.bool false) ?_
      refine wpAnyH_done (by kernel_rfl) ?_ _
      refine NoPanic.normal ?_
      obtain ⟨rfl⟩ := hQ7
      clear hS hS0
      go_wp2_with (first
       | (go_at_call 17; (with_reducible refine (PCr.nextc HN.out hle_f hD R Hn.out).mono ?_); rintro e wn ⟨vn, rfl, hq, haf, ⟨y, rfl, hgy, hfy0, hey⟩⟩; have hfy : ∀ b ∈ footD y, w.heap.size ≤ b ∧ b ≠ g4 ∧ b ≠ g6 := (fun b hb => by have := hfy0 b hb; have := hu.size; have := B4.lt; have := B6.lt; omega); clear hfy0; have Hey := As.mk hey; clear hey C R; obtain ⟨kind, n0, neg, mA, mc, mag, text, Ai, ci, items, Ar, cr, rest⟩ := y; obtain ⟨j2, R, hc2⟩ : ∃ j2, RR wn g T j2 ((T.size : Nat) : Int) ((10 : Nat) : Int) ∧ (10 : Nat) ≠ 0 := haf; have hz : (((10 : Nat) : Int) != 0) = true := (by first | decide | simpa using hc2); have hz2 : (((10 : Nat) : Int) == 0) = false := (by first | decide | simpa using hc2); have HC : As (((10 : Nat) : Int) ≠ 0) := ⟨by omega⟩; have HC2 := As.mk hc2; clear hc2; have C := R.out.cells; replace HI := HI.upg hq hgb hu.size; replace hu := hu.trans (UpB.of_upg hq (Nat.le_trans hB0 hu.size)); replace B4 := blk_upg B4 hq hne4; replace B6 := blk_upg B6 hq hne6; clear hq)
       | ((with_reducible refine g_dst 7 ?_); go_must (refine ev_alloc 7 rfl infoD (cs := [.int .i64 0, .int .i64 0, .bool false, .slice none 0 0, .string ⟨#[]⟩, .slice none 0 0, .slice none 0 0]) rfl ?_); intro g7 wn hb B7 hg7; have hs7 := Nat.le_trans hu.size hg7; have hne7 : g7 ≠ g := (fun h => by have := R.lt; omega); have hn74 : g7 ≠ g4 := (fun h => by have := B4.lt; omega); have hn76 : g7 ≠ g6 := (fun h => by have := B6.lt; omega); have hy7 : ∀ b ∈ footD (.mk kind n0 neg mA mc mag text Ai ci items Ar cr rest), b ≠ g7 := (fun b hb => by have := good_lt hgy b hb; omega); clear hg7; replace R := R.below hb; clear C; have C := R.out.cells; replace HI := HI.below hb hu.size; replace hu := hu.trans (UpB.of_below hb (Nat.le_trans hB0 hu.size)); replace B4 := B4.below hb; replace B6 := B6.below hb; replace hgy := hgy.to hb; clear hb)
       | ((with_reducible refine g_store 7 ?_); go_must (refine ev_store rfl rfl B7 (news := encD (.mk kind n0 neg mA mc mag text Ai ci items Ar cr rest)) (by first | rfl | (go_simp; try rfl)) infoD (by simp [encD]) (by simp [encD, Value.oneCell']) ?_); intro wn ho Bn; simp only [encD, zA, zB, zC, zD, zE, zF, zG, zH] at Bn; replace HI := HI.only ho (.inr hs7); replace hu := hu.trans (UpB.of_only ho (Nat.le_trans hB0 hs7)); have R2 : RR wn g T _ _ _ := ⟨R.out.only ho (Ne.symm hne7)⟩; clear C R; have R := R2; clear R2; have C := R.out.cells; replace B4 := B4.only ho (Ne.symm hn74); replace B6 := B6.only ho (Ne.symm hn76); replace hgy := good_only hgy ho hy7; replace B7 := Bn; clear Bn ho)
       | (go_at_call 15; (with_reducible refine (skip_err R HC.out _).mono ?_); rintro e wn ⟨rfl, hb⟩; replace R := R.below hb; clear C; have C := R.out.cells; replace HI := HI.below hb hu.size; replace hu := hu.trans (UpB.of_below hb (Nat.le_trans hB0 hu.size)); replace B4 := B4.below hb; replace B6 := B6.below hb; replace B7 := B7.below hb; replace hgy := hgy.to hb; clear hb))
      (try go_wp2)
      have hb := (Below.refl (World.heap wn).size wn).drew
      replace R := R.below hb
      clear C
      have C := R.out.cells
      replace HI := HI.below hb hu.size
      replace hu := hu.trans (UpB.of_below hb (Nat.le_trans hB0 hu.size))
      replace B4 := B4.below hb
      replace B6 := B6.below hb
      replace B7 := B7.below hb
      replace hgy := hgy.to hb
      clear hb
      have hS : ∀ W, RR W g T j2 (T.size : Nat) (10 : Nat) → W.cell? ⟨g, 0, none⟩ = some (.string T) ∧ W.cell? ⟨g, 1, none⟩ = some (.int .i64 (j2 : Int)) ∧ W.cell? ⟨g, 2, none⟩ = some (.int .i64 ((10 : Nat) : Int)) := fun W R => ⟨R.out.cells 0, R.out.cells 1, R.out.cells 2⟩
      have hS0 := hS _ R
      refine wp_gen2 (fun Q7 hQ7 => ?_)
      refine wp_region_held_drew (S := fun W => W.cell? ⟨g, 0, none⟩ = some (.string T) ∧ W.cell? ⟨g, 1, none⟩ = some (.int .i64 (j2 : Int)) ∧ W.cell? ⟨g, 2, none⟩ = some (.int .i64 ((10 : Nat) : Int))) (by kernel_rfl) (hS0) (fun hHeld => ?_)
      refine ta 0 (.pointer (some ⟨g, 0, none⟩)) ?_
      refine ta 1 (.pointer (some ⟨g, 0, none⟩)) ?_
      refine ta 2 (.pointer (some ⟨g, 2, none⟩)) ?_
      refine ta 3 (.int .i64 ((10 : Nat) : Int)) ?_
      refine ta 4 (.bool false) ?_
      refine ta 5 (.bool false) ?_
      refine tu 6 ?_
      refine tu 7 ?_
      refine tu 8 ?_
      refine tu 9 ?_
      refine tu 10 ?_
      refine tu 11 ?_
      refine tu 12 ?_
      refine tu 13 ?_
      refine tu 14 ?_
      refine tu 15 ?_
      refine ta 16 (.bool false) ?_
      refine wpAnyH_done (by kernel_rfl) ?_ _
      refine NoPanic.normal ?_
      obtain ⟨rfl⟩ := hQ7
      clear hS hS0
      go_wp2_with (first
       | ((with_reducible refine g_store 6 ?_); go_must (refine ev_store rfl rfl B6 (news := [.int .i64 0, .int .i64 0, .bool false, .slice none 0 0, .string ⟨#[]⟩, .slice none 0 0, .slice none 0 0]) (by first | rfl | (go_simp; try rfl)) infoD (by simp [encD]) (by simp [encD, Value.oneCell']) ?_); intro wn ho Bn; simp only [encD, zA, zB, zC, zD, zE, zF, zG, zH] at Bn; replace HI := HI.only ho (.inr hs6); replace hu := hu.trans (UpB.of_only ho (Nat.le_trans hB0 hs6)); have R2 : RR wn g T _ _ _ := ⟨R.out.only ho (Ne.symm hne6)⟩; clear C R; have R := R2; clear R2; have C := R.out.cells; replace B4 := B4.only ho (Ne.symm hn64); replace B6 := Bn; clear Bn ho))
      refine bodyPost_ret (results_cell_row rfl _ _ g6 35 ([.int .i64 0, .int .i64 0, .bool false, .slice none 0 0, .string ⟨#[]⟩, .slice none 0 0, .slice none 0 0] : List Value).toArray (0, 0) _ rfl B6.h Tryz.underlying35 rfl (by kernel_rfl)) rfl ?_
      exact ⟨_, rfl, hu, by rw [Hr.out]; exact ⟨_, R, by decide⟩, ldZ, rfl, good_z _ _ _ (by decide) (by decide) _, fun b hb => (by rw [ldZ, foot_z] at hb; cases hb), fun x e h => by rw [Hr.out] at h; cases h⟩
   rw [if_neg h1] at hr1
   obtain ⟨c6, hc6⟩ := get_size T (i := f) (by omega)
   have hcx6 := get_c (by omega) hc6
   have hf6 : (f : Int) < (T.size : Int) := by omega
   have d6 : decide (T.size ≤ f) = false := decide_eq_false (by omega)
   have e6 := u8R c6 41 (by omega)
   by_cases h2 : T.data.toList[f]? = some 41
   · rw [if_pos h2] at hr1
     have Hr : As (r = .error (f, 15)) := ⟨hr1⟩
     have e6' : ((c6.toNat : Int) == 41) = true := by
      rw [hc6] at h2
      cases h2
      rfl
     have HC : As ((15 : Int) ≠ 0) := ⟨by decide⟩
     clear hr1 hc6 e6
     as_aux_lemma =>
      (try go_wp2)
      have hb := (Below.refl (World.heap wn).size wn).drew
      replace R := R.below hb
      clear C
      have C := R.out.cells
      replace HI := HI.below hb hu.size
      replace hu := hu.trans (UpB.of_below hb (Nat.le_trans hB0 hu.size))
      replace B4 := B4.below hb
      replace B6 := B6.below hb
      clear hb
      have hS : ∀ W, RR W g T f 0 0 → W.cell? ⟨g, 0, none⟩ = some (.string T) ∧ W.cell? ⟨g, 1, none⟩ = some (.int .i64 (f : Int)) ∧ W.cell? ⟨g, 2, none⟩ = some (.int .i64 (0 : Int)) := fun W R => ⟨R.out.cells 0, R.out.cells 1, R.out.cells 2⟩
      have hS0 := hS _ R
      refine wp_gen2 (fun Q7 hQ7 => ?_)
      refine wp_region_held_drew (S := fun W => W.cell? ⟨g, 0, none⟩ = some (.string T) ∧ W.cell? ⟨g, 1, none⟩ = some (.int .i64 (f : Int)) ∧ W.cell? ⟨g, 2, none⟩ = some (.int .i64 (0 : Int))) (by kernel_rfl) (hS0) (fun hHeld => ?_)
      refine ta 0 (.pointer (some ⟨g, 0, none⟩)) ?_
      refine ta 1 (.pointer (some ⟨g, 0, none⟩)) ?_
      refine ta 2 (.pointer (some ⟨g, 2, none⟩)) ?_
      refine ta 3 (.int .i64 0) ?_
      refine ta 4 (.bool true) ?_
      refine ta 5 (.bool true) ?_
      refine ta 6 (.pointer (some ⟨g, 0, none⟩)) ?_
      refine wpAnyH_ready (rs := [7]) (by decide +kernel) (by simp) ?_
      refine AllReadyH.cons (o := _) (by simp only [List.getElem?_toArray, List.getElem?_cons_succ, List.getElem?_cons_zero]; rfl) (fun K hK => ?_) AllReadyH.nil
      refine gI ?_
      (with_reducible refine s_dst 41 ?_); go_simp; (with_reducible refine (rend_b R false d6).mono ?_); rintro e wn ⟨vn, rfl, rfl, hb⟩; replace R := R.below hb; clear C; have C := R.out.cells; replace HI := HI.below hb hu.size; replace hu := hu.trans (UpB.of_below hb (Nat.le_trans hB0 hu.size)); replace B4 := B4.below hb; replace B6 := B6.below hb; clear hb
      refine hK.out _ _ (hS _ R) (fun hHeld => ?_); clear hK K; (try simp only [Act.put, pA, pB, pC, pD, pE, pF])
      refine ta 8 (.bool true) ?_
      refine ta 9 (.bool true) ?_
      refine ta 10 (.bool true) ?_
      refine ta 11 (.pointer (some ⟨g, 0, none⟩)) ?_
      refine ta 12 (.pointer (some ⟨g, 0, none⟩)) ?_
      refine ta 13 (.pointer (some ⟨g, 0, none⟩)) ?_
      refine ta 14 (.string T) ?_
      refine ta 15 (.pointer (some ⟨g, 0, none⟩)) ?_
      refine ta 16 (.pointer (some ⟨g, 0, none⟩)) ?_
      refine ta 17 (.pointer (some ⟨g, 1, none⟩)) ?_
      refine ta 18 (.int .i64 (f : Int)) ?_
      refine ta 19 (.int .u8 (c6.toNat : Int)) ?_
      refine ta 20 (.bool true) ?_
      refine ta 21 (.bool true) ?_
      refine wpAnyH_done (by kernel_rfl) ?_ _
      refine NoPanic.normal ?_
      obtain ⟨rfl⟩ := hQ7
      clear hS hS0
      go_wp2_with (first
       | (go_at_call 31; (with_reducible refine (rfail_ok R 15 (f : Int)).mono ?_); rintro e wn ⟨rfl, ho, R2⟩; have hq := Upg.of_only ho; clear C R; have R := R2; clear R2; have C := R.out.cells; replace HI := HI.upg hq hgb hu.size; replace hu := hu.trans (UpB.of_upg hq (Nat.le_trans hB0 hu.size)); replace B4 := blk_upg B4 hq hne4; replace B6 := blk_upg B6 hq hne6; clear hq; clear ho)
       | (go_at_call 17; (with_reducible refine (rnext_err R HC.out _ (.error (0, 1)) (fun x e h => nomatch h)).mono ?_); rintro e wn ⟨vn, rfl, hq, R2, ⟨y, rfl, hgy, hfy0, _⟩⟩; have hfy : ∀ b ∈ footD y, w.heap.size ≤ b ∧ b ≠ g4 ∧ b ≠ g6 := (fun b hb => by have := hfy0 b hb; have := hu.size; have := B4.lt; have := B6.lt; omega); clear hfy0; obtain ⟨kind, n0, neg, mA, mc, mag, text, Ai, ci, items, Ar, cr, rest⟩ := y; clear C R; have R := R2; clear R2; have C := R.out.cells; replace HI := HI.upg hq hgb hu.size; replace hu := hu.trans (UpB.of_upg hq (Nat.le_trans hB0 hu.size)); replace B4 := blk_upg B4 hq hne4; replace B6 := blk_upg B6 hq hne6; clear hq)
       | ((with_reducible refine g_dst 7 ?_); go_must (refine ev_alloc 7 rfl infoD (cs := [.int .i64 0, .int .i64 0, .bool false, .slice none 0 0, .string ⟨#[]⟩, .slice none 0 0, .slice none 0 0]) rfl ?_); intro g7 wn hb B7 hg7; have hs7 := Nat.le_trans hu.size hg7; have hne7 : g7 ≠ g := (fun h => by have := R.lt; omega); have hn74 : g7 ≠ g4 := (fun h => by have := B4.lt; omega); have hn76 : g7 ≠ g6 := (fun h => by have := B6.lt; omega); have hy7 : ∀ b ∈ footD (.mk kind n0 neg mA mc mag text Ai ci items Ar cr rest), b ≠ g7 := (fun b hb => by have := good_lt hgy b hb; omega); clear hg7; replace R := R.below hb; clear C; have C := R.out.cells; replace HI := HI.below hb hu.size; replace hu := hu.trans (UpB.of_below hb (Nat.le_trans hB0 hu.size)); replace B4 := B4.below hb; replace B6 := B6.below hb; replace hgy := hgy.to hb; clear hb)
       | ((with_reducible refine g_store 7 ?_); go_must (refine ev_store rfl rfl B7 (news := encD (.mk kind n0 neg mA mc mag text Ai ci items Ar cr rest)) (by first | rfl | (go_simp; try rfl)) infoD (by simp [encD]) (by simp [encD, Value.oneCell']) ?_); intro wn ho Bn; simp only [encD, zA, zB, zC, zD, zE, zF, zG, zH] at Bn; replace HI := HI.only ho (.inr hs7); replace hu := hu.trans (UpB.of_only ho (Nat.le_trans hB0 hs7)); have R2 : RR wn g T _ _ _ := ⟨R.out.only ho (Ne.symm hne7)⟩; clear C R; have R := R2; clear R2; have C := R.out.cells; replace B4 := B4.only ho (Ne.symm hn74); replace B6 := B6.only ho (Ne.symm hn76); replace hgy := good_only hgy ho hy7; replace B7 := Bn; clear Bn ho)
       | (go_at_call 15; (with_reducible refine (skip_err R HC.out _).mono ?_); rintro e wn ⟨rfl, hb⟩; replace R := R.below hb; clear C; have C := R.out.cells; replace HI := HI.below hb hu.size; replace hu := hu.trans (UpB.of_below hb (Nat.le_trans hB0 hu.size)); replace B4 := B4.below hb; replace B6 := B6.below hb; replace B7 := B7.below hb; replace hgy := hgy.to hb; clear hb))
      (try go_wp2)
      have hb := (Below.refl (World.heap wn).size wn).drew
      replace R := R.below hb
      clear C
      have C := R.out.cells
      replace HI := HI.below hb hu.size
      replace hu := hu.trans (UpB.of_below hb (Nat.le_trans hB0 hu.size))
      replace B4 := B4.below hb
      replace B6 := B6.below hb
      replace B7 := B7.below hb
      replace hgy := hgy.to hb
      clear hb
      have hS : ∀ W, RR W g T f f 15 → W.cell? ⟨g, 0, none⟩ = some (.string T) ∧ W.cell? ⟨g, 1, none⟩ = some (.int .i64 (f : Int)) ∧ W.cell? ⟨g, 2, none⟩ = some (.int .i64 (15 : Int)) := fun W R => ⟨R.out.cells 0, R.out.cells 1, R.out.cells 2⟩
      have hS0 := hS _ R
      refine wp_gen2 (fun Q7 hQ7 => ?_)
      refine wp_region_held_drew (S := fun W => W.cell? ⟨g, 0, none⟩ = some (.string T) ∧ W.cell? ⟨g, 1, none⟩ = some (.int .i64 (f : Int)) ∧ W.cell? ⟨g, 2, none⟩ = some (.int .i64 (15 : Int))) (by kernel_rfl) (hS0) (fun hHeld => ?_)
      refine ta 0 (.pointer (some ⟨g, 0, none⟩)) ?_
      refine ta 1 (.pointer (some ⟨g, 0, none⟩)) ?_
      refine ta 2 (.pointer (some ⟨g, 2, none⟩)) ?_
      refine ta 3 (.int .i64 (15 : Int)) ?_
      refine ta 4 (.bool false) ?_
      refine ta 5 (.bool false) ?_
      refine tu 6 ?_
      refine tu 7 ?_
      refine tu 8 ?_
      refine tu 9 ?_
      refine tu 10 ?_
      refine tu 11 ?_
      refine tu 12 ?_
      refine tu 13 ?_
      refine tu 14 ?_
      refine tu 15 ?_
      refine ta 16 (.bool false) ?_
      refine wpAnyH_done (by kernel_rfl) ?_ _
      refine NoPanic.normal ?_
      obtain ⟨rfl⟩ := hQ7
      clear hS hS0
      go_wp2_with (first
       | ((with_reducible refine g_store 6 ?_); go_must (refine ev_store rfl rfl B6 (news := [.int .i64 0, .int .i64 0, .bool false, .slice none 0 0, .string ⟨#[]⟩, .slice none 0 0, .slice none 0 0]) (by first | rfl | (go_simp; try rfl)) infoD (by simp [encD]) (by simp [encD, Value.oneCell']) ?_); intro wn ho Bn; simp only [encD, zA, zB, zC, zD, zE, zF, zG, zH] at Bn; replace HI := HI.only ho (.inr hs6); replace hu := hu.trans (UpB.of_only ho (Nat.le_trans hB0 hs6)); have R2 : RR wn g T _ _ _ := ⟨R.out.only ho (Ne.symm hne6)⟩; clear C R; have R := R2; clear R2; have C := R.out.cells; replace B4 := B4.only ho (Ne.symm hn64); replace B6 := Bn; clear Bn ho))
      refine bodyPost_ret (results_cell_row rfl _ _ g6 35 ([.int .i64 0, .int .i64 0, .bool false, .slice none 0 0, .string ⟨#[]⟩, .slice none 0 0, .slice none 0 0] : List Value).toArray (0, 0) _ rfl B6.h Tryz.underlying35 rfl (by kernel_rfl)) rfl ?_
      exact ⟨_, rfl, hu, by rw [Hr.out]; exact ⟨_, R, by decide⟩, ldZ, rfl, good_z _ _ _ (by decide) (by decide) _, fun b hb => (by rw [ldZ, foot_z] at hb; cases hb), fun x e h => by rw [Hr.out] at h; cases h⟩
   rw [if_neg h2] at hr1
   obtain ⟨q2, hq2, hr2⟩ := hr1
   have e6' : ((c6.toNat : Int) == 41) = false := by
    rw [show (c6 == UInt8.ofNat 41) = false by simpa using fun h => h2 (by rw [hc6, h] <;> rfl)] at e6
    exact e6
   have HN := As.mk (HIn.out f (by omega))
   have Hn := As.mk (next_of (run_end Hq1.out (by omega)) hq2)
   have Hq2 := As.mk hq2
   have Hr2 := As.mk hr2
   clear hc6 e6 hq2 hr2
   (try go_wp2)
   have hb := (Below.refl (World.heap wn).size wn).drew
   replace R := R.below hb
   clear C
   have C := R.out.cells
   replace HI := HI.below hb hu.size
   replace hu := hu.trans (UpB.of_below hb (Nat.le_trans hB0 hu.size))
   replace B4 := B4.below hb
   replace B6 := B6.below hb
   clear hb
   have hS : ∀ W, RR W g T f 0 0 → W.cell? ⟨g, 0, none⟩ = some (.string T) ∧ W.cell? ⟨g, 1, none⟩ = some (.int .i64 (f : Int)) ∧ W.cell? ⟨g, 2, none⟩ = some (.int .i64 (0 : Int)) := fun W R => ⟨R.out.cells 0, R.out.cells 1, R.out.cells 2⟩
   have hS0 := hS _ R
   refine wp_gen2 (fun Q7 hQ7 => ?_)
   refine wp_region_held_drew (S := fun W => W.cell? ⟨g, 0, none⟩ = some (.string T) ∧ W.cell? ⟨g, 1, none⟩ = some (.int .i64 (f : Int)) ∧ W.cell? ⟨g, 2, none⟩ = some (.int .i64 (0 : Int))) (by kernel_rfl) (hS0) (fun hHeld => ?_)
   refine ta 0 (.pointer (some ⟨g, 0, none⟩)) ?_
   refine ta 1 (.pointer (some ⟨g, 0, none⟩)) ?_
   refine ta 2 (.pointer (some ⟨g, 2, none⟩)) ?_
   refine ta 3 (.int .i64 0) ?_
   refine ta 4 (.bool true) ?_
   refine ta 5 (.bool true) ?_
   refine ta 6 (.pointer (some ⟨g, 0, none⟩)) ?_
   refine wpAnyH_ready (rs := [7]) (by decide +kernel) (by simp) ?_
   refine AllReadyH.cons (o := _) (by simp only [List.getElem?_toArray, List.getElem?_cons_succ, List.getElem?_cons_zero]; rfl) (fun K hK => ?_) AllReadyH.nil
   refine gI ?_
   (with_reducible refine s_dst 41 ?_); go_simp; (with_reducible refine (rend_b R false d6).mono ?_); rintro e wn ⟨vn, rfl, rfl, hb⟩; replace R := R.below hb; clear C; have C := R.out.cells; replace HI := HI.below hb hu.size; replace hu := hu.trans (UpB.of_below hb (Nat.le_trans hB0 hu.size)); replace B4 := B4.below hb; replace B6 := B6.below hb; clear hb
   refine hK.out _ _ (hS _ R) (fun hHeld => ?_); clear hK K; (try simp only [Act.put, pA, pB, pC, pD, pE, pF])
   refine ta 8 (.bool true) ?_
   refine ta 9 (.bool true) ?_
   refine ta 10 (.bool true) ?_
   refine ta 11 (.pointer (some ⟨g, 0, none⟩)) ?_
   refine ta 12 (.pointer (some ⟨g, 0, none⟩)) ?_
   refine ta 13 (.pointer (some ⟨g, 0, none⟩)) ?_
   refine ta 14 (.string T) ?_
   refine ta 15 (.pointer (some ⟨g, 0, none⟩)) ?_
   refine ta 16 (.pointer (some ⟨g, 0, none⟩)) ?_
   refine ta 17 (.pointer (some ⟨g, 1, none⟩)) ?_
   refine ta 18 (.int .i64 (f : Int)) ?_
   refine ta 19 (.int .u8 (c6.toNat : Int)) ?_
   refine ta 20 (.bool false) ?_
   refine ta 21 (.bool false) ?_
   refine wpAnyH_done (by kernel_rfl) ?_ _
   refine NoPanic.normal ?_
   obtain ⟨rfl⟩ := hQ7
   clear hS hS0
   have hq2 := Hq2.out
   have hr2 := Hr2.out
   clear Hq2 Hr2
   cases q2 with
   | error pc =>
     obtain ⟨p, c0⟩ := pc
     have Hr : As (r = .error (p, c0)) := ⟨hr2⟩
     clear hr2 hq2
     as_aux_lemma =>
      go_wp2_with (first
       | (go_at_call 17; (with_reducible refine (PCr.nextc HN.out hle_f hD R Hn.out).mono ?_); rintro e wn ⟨vn, rfl, hq, haf, ⟨y, rfl, hgy, hfy0, hey⟩⟩; have hfy : ∀ b ∈ footD y, w.heap.size ≤ b ∧ b ≠ g4 ∧ b ≠ g6 := (fun b hb => by have := hfy0 b hb; have := hu.size; have := B4.lt; have := B6.lt; omega); clear hfy0; have Hey := As.mk hey; clear hey C R; obtain ⟨kind, n0, neg, mA, mc, mag, text, Ai, ci, items, Ar, cr, rest⟩ := y; obtain ⟨j2, R, hc2⟩ : ∃ j2, RR wn g T j2 (p : Int) (c0 : Int) ∧ c0 ≠ 0 := haf; have hz : ((c0 : Int) != 0) = true := (by first | decide | simpa using hc2); have hz2 : ((c0 : Int) == 0) = false := (by first | decide | simpa using hc2); have HC : As ((c0 : Int) ≠ 0) := ⟨by omega⟩; have HC2 := As.mk hc2; clear hc2; have C := R.out.cells; replace HI := HI.upg hq hgb hu.size; replace hu := hu.trans (UpB.of_upg hq (Nat.le_trans hB0 hu.size)); replace B4 := blk_upg B4 hq hne4; replace B6 := blk_upg B6 hq hne6; clear hq)
       | ((with_reducible refine g_dst 7 ?_); go_must (refine ev_alloc 7 rfl infoD (cs := [.int .i64 0, .int .i64 0, .bool false, .slice none 0 0, .string ⟨#[]⟩, .slice none 0 0, .slice none 0 0]) rfl ?_); intro g7 wn hb B7 hg7; have hs7 := Nat.le_trans hu.size hg7; have hne7 : g7 ≠ g := (fun h => by have := R.lt; omega); have hn74 : g7 ≠ g4 := (fun h => by have := B4.lt; omega); have hn76 : g7 ≠ g6 := (fun h => by have := B6.lt; omega); have hy7 : ∀ b ∈ footD (.mk kind n0 neg mA mc mag text Ai ci items Ar cr rest), b ≠ g7 := (fun b hb => by have := good_lt hgy b hb; omega); clear hg7; replace R := R.below hb; clear C; have C := R.out.cells; replace HI := HI.below hb hu.size; replace hu := hu.trans (UpB.of_below hb (Nat.le_trans hB0 hu.size)); replace B4 := B4.below hb; replace B6 := B6.below hb; replace hgy := hgy.to hb; clear hb)
       | ((with_reducible refine g_store 7 ?_); go_must (refine ev_store rfl rfl B7 (news := encD (.mk kind n0 neg mA mc mag text Ai ci items Ar cr rest)) (by first | rfl | (go_simp; try rfl)) infoD (by simp [encD]) (by simp [encD, Value.oneCell']) ?_); intro wn ho Bn; simp only [encD, zA, zB, zC, zD, zE, zF, zG, zH] at Bn; replace HI := HI.only ho (.inr hs7); replace hu := hu.trans (UpB.of_only ho (Nat.le_trans hB0 hs7)); have R2 : RR wn g T _ _ _ := ⟨R.out.only ho (Ne.symm hne7)⟩; clear C R; have R := R2; clear R2; have C := R.out.cells; replace B4 := B4.only ho (Ne.symm hn74); replace B6 := B6.only ho (Ne.symm hn76); replace hgy := good_only hgy ho hy7; replace B7 := Bn; clear Bn ho)
       | (go_at_call 15; (with_reducible refine (skip_err R HC.out _).mono ?_); rintro e wn ⟨rfl, hb⟩; replace R := R.below hb; clear C; have C := R.out.cells; replace HI := HI.below hb hu.size; replace hu := hu.trans (UpB.of_below hb (Nat.le_trans hB0 hu.size)); replace B4 := B4.below hb; replace B6 := B6.below hb; replace B7 := B7.below hb; replace hgy := hgy.to hb; clear hb))
      (try go_wp2)
      have hb := (Below.refl (World.heap wn).size wn).drew
      replace R := R.below hb
      clear C
      have C := R.out.cells
      replace HI := HI.below hb hu.size
      replace hu := hu.trans (UpB.of_below hb (Nat.le_trans hB0 hu.size))
      replace B4 := B4.below hb
      replace B6 := B6.below hb
      replace B7 := B7.below hb
      replace hgy := hgy.to hb
      clear hb
      have hS : ∀ W, RR W g T j2 p c0 → W.cell? ⟨g, 0, none⟩ = some (.string T) ∧ W.cell? ⟨g, 1, none⟩ = some (.int .i64 (j2 : Int)) ∧ W.cell? ⟨g, 2, none⟩ = some (.int .i64 (c0 : Int)) := fun W R => ⟨R.out.cells 0, R.out.cells 1, R.out.cells 2⟩
      have hS0 := hS _ R
      refine wp_gen2 (fun Q7 hQ7 => ?_)
      refine wp_region_held_drew (S := fun W => W.cell? ⟨g, 0, none⟩ = some (.string T) ∧ W.cell? ⟨g, 1, none⟩ = some (.int .i64 (j2 : Int)) ∧ W.cell? ⟨g, 2, none⟩ = some (.int .i64 (c0 : Int))) (by kernel_rfl) (hS0) (fun hHeld => ?_)
      refine ta 0 (.pointer (some ⟨g, 0, none⟩)) ?_
      refine ta 1 (.pointer (some ⟨g, 0, none⟩)) ?_
      refine ta 2 (.pointer (some ⟨g, 2, none⟩)) ?_
      refine ta 3 (.int .i64 (c0 : Int)) ?_
      refine ta 4 (.bool false) ?_
      refine ta 5 (.bool false) ?_
      refine tu 6 ?_
      refine tu 7 ?_
      refine tu 8 ?_
      refine tu 9 ?_
      refine tu 10 ?_
      refine tu 11 ?_
      refine tu 12 ?_
      refine tu 13 ?_
      refine tu 14 ?_
      refine tu 15 ?_
      refine ta 16 (.bool false) ?_
      refine wpAnyH_done (by kernel_rfl) ?_ _
      refine NoPanic.normal ?_
      obtain ⟨rfl⟩ := hQ7
      clear hS hS0
      go_wp2_with (first
       | ((with_reducible refine g_store 6 ?_); go_must (refine ev_store rfl rfl B6 (news := [.int .i64 0, .int .i64 0, .bool false, .slice none 0 0, .string ⟨#[]⟩, .slice none 0 0, .slice none 0 0]) (by first | rfl | (go_simp; try rfl)) infoD (by simp [encD]) (by simp [encD, Value.oneCell']) ?_); intro wn ho Bn; simp only [encD, zA, zB, zC, zD, zE, zF, zG, zH] at Bn; replace HI := HI.only ho (.inr hs6); replace hu := hu.trans (UpB.of_only ho (Nat.le_trans hB0 hs6)); have R2 : RR wn g T _ _ _ := ⟨R.out.only ho (Ne.symm hne6)⟩; clear C R; have R := R2; clear R2; have C := R.out.cells; replace B4 := B4.only ho (Ne.symm hn64); replace B6 := Bn; clear Bn ho))
      refine bodyPost_ret (results_cell_row rfl _ _ g6 35 ([.int .i64 0, .int .i64 0, .bool false, .slice none 0 0, .string ⟨#[]⟩, .slice none 0 0, .slice none 0 0] : List Value).toArray (0, 0) _ rfl B6.h Tryz.underlying35 rfl (by kernel_rfl)) rfl ?_
      exact ⟨_, rfl, hu, by rw [Hr.out]; exact ⟨_, R, HC2.out⟩, ldZ, rfl, good_z _ _ _ (by decide) (by decide) _, fun b hb => (by rw [ldZ, foot_z] at hb; cases hb), fun x e h => by rw [Hr.out] at h; cases h⟩
   | ok zg =>
     obtain ⟨z, g1⟩ := zg
     obtain ⟨q3, hq3, hr3⟩ : ∃ q3, Run T.data.toList (.blanks D g1) q3 ∧ LastR T.data.toList acc z q3 r := hr2
     have hfg : f < g1 := run_goes (next_of (run_end Hq1.out (by omega)) hq2) rfl
     have HB2 := As.mk (HIb.out g1 (by omega))
     have Hq3 := As.mk hq3
     have hgl : g1 ≤ T.data.toList.length := run_le hq2 rfl (by simp only; omega)
     cases q3 with
     | error pc =>
       obtain ⟨p, c0⟩ := pc
       have Hr : As (r = .error (p, c0)) := ⟨hr3⟩
       clear hr3 hq2 hq3
       as_aux_lemma =>
        go_wp2_with (first
         | (go_at_call 17; (with_reducible refine (PCr.nextc HN.out hle_f hD R Hn.out).mono ?_); rintro e wn ⟨vn, rfl, hq, haf, ⟨y, rfl, hgy, hfy0, hey⟩⟩; have hfy : ∀ b ∈ footD y, w.heap.size ≤ b ∧ b ≠ g4 ∧ b ≠ g6 := (fun b hb => by have := hfy0 b hb; have := hu.size; have := B4.lt; have := B6.lt; omega); clear hfy0; have Hey := As.mk hey; clear hey C R; obtain ⟨kind, n0, neg, mA, mc, mag, text, Ai, ci, items, Ar, cr, rest⟩ := y; obtain ⟨R, hle_g1⟩ : RR wn g T g1 0 0 ∧ g1 ≤ T.size := haf; have C := R.out.cells; replace HI := HI.upg hq hgb hu.size; replace hu := hu.trans (UpB.of_upg hq (Nat.le_trans hB0 hu.size)); replace B4 := blk_upg B4 hq hne4; replace B6 := blk_upg B6 hq hne6; clear hq)
         | ((with_reducible refine g_dst 7 ?_); go_must (refine ev_alloc 7 rfl infoD (cs := [.int .i64 0, .int .i64 0, .bool false, .slice none 0 0, .string ⟨#[]⟩, .slice none 0 0, .slice none 0 0]) rfl ?_); intro g7 wn hb B7 hg7; have hs7 := Nat.le_trans hu.size hg7; have hne7 : g7 ≠ g := (fun h => by have := R.lt; omega); have hn74 : g7 ≠ g4 := (fun h => by have := B4.lt; omega); have hn76 : g7 ≠ g6 := (fun h => by have := B6.lt; omega); have hy7 : ∀ b ∈ footD (.mk kind n0 neg mA mc mag text Ai ci items Ar cr rest), b ≠ g7 := (fun b hb => by have := good_lt hgy b hb; omega); clear hg7; replace R := R.below hb; clear C; have C := R.out.cells; replace HI := HI.below hb hu.size; replace hu := hu.trans (UpB.of_below hb (Nat.le_trans hB0 hu.size)); replace B4 := B4.below hb; replace B6 := B6.below hb; replace hgy := hgy.to hb; clear hb)
         | ((with_reducible refine g_store 7 ?_); go_must (refine ev_store rfl rfl B7 (news := encD (.mk kind n0 neg mA mc mag text Ai ci items Ar cr rest)) (by first | rfl | (go_simp; try rfl)) infoD (by simp [encD]) (by simp [encD, Value.oneCell']) ?_); intro wn ho Bn; simp only [encD, zA, zB, zC, zD, zE, zF, zG, zH] at Bn; replace HI := HI.only ho (.inr hs7); replace hu := hu.trans (UpB.of_only ho (Nat.le_trans hB0 hs7)); have R2 : RR wn g T _ _ _ := ⟨R.out.only ho (Ne.symm hne7)⟩; clear C R; have R := R2; clear R2; have C := R.out.cells; replace B4 := B4.only ho (Ne.symm hn74); replace B6 := B6.only ho (Ne.symm hn76); replace hgy := good_only hgy ho hy7; replace B7 := Bn; clear Bn ho)
         | (go_at_call 15; (with_reducible refine (PCr.blanksc HB2.out hle_g1 hD R Hq3.out).mono ?_); rintro e wn ⟨rfl, hq, haf⟩; clear C R; obtain ⟨j2, R, hc2⟩ : ∃ j2, RR wn g T j2 (p : Int) (c0 : Int) ∧ c0 ≠ 0 := haf; have hz : ((c0 : Int) != 0) = true := (by first | decide | simpa using hc2); have hz2 : ((c0 : Int) == 0) = false := (by first | decide | simpa using hc2); have HC : As ((c0 : Int) ≠ 0) := ⟨by omega⟩; have HC2 := As.mk hc2; clear hc2; have C := R.out.cells; replace HI := HI.upg hq hgb hu.size; replace hu := hu.trans (UpB.of_upg hq (Nat.le_trans hB0 hu.size)); replace B4 := blk_upg B4 hq hne4; replace B6 := blk_upg B6 hq hne6; replace B7 := blk_upg B7 hq hne7; replace hgy := good_upg hgy hq (fun b hb => by have := (hfy b hb).1; omega); clear hq))
        (try go_wp2)
        have hb := (Below.refl (World.heap wn).size wn).drew
        replace R := R.below hb
        clear C
        have C := R.out.cells
        replace HI := HI.below hb hu.size
        replace hu := hu.trans (UpB.of_below hb (Nat.le_trans hB0 hu.size))
        replace B4 := B4.below hb
        replace B6 := B6.below hb
        replace B7 := B7.below hb
        replace hgy := hgy.to hb
        clear hb
        have hS : ∀ W, RR W g T j2 p c0 → W.cell? ⟨g, 0, none⟩ = some (.string T) ∧ W.cell? ⟨g, 1, none⟩ = some (.int .i64 (j2 : Int)) ∧ W.cell? ⟨g, 2, none⟩ = some (.int .i64 (c0 : Int)) := fun W R => ⟨R.out.cells 0, R.out.cells 1, R.out.cells 2⟩
        have hS0 := hS _ R
        refine wp_gen2 (fun Q7 hQ7 => ?_)
        refine wp_region_held_drew (S := fun W => W.cell? ⟨g, 0, none⟩ = some (.string T) ∧ W.cell? ⟨g, 1, none⟩ = some (.int .i64 (j2 : Int)) ∧ W.cell? ⟨g, 2, none⟩ = some (.int .i64 (c0 : Int))) (by kernel_rfl) (hS0) (fun hHeld => ?_)
        refine ta 0 (.pointer (some ⟨g, 0, none⟩)) ?_
        refine ta 1 (.pointer (some ⟨g, 0, none⟩)) ?_
        refine ta 2 (.pointer (some ⟨g, 2, none⟩)) ?_
        refine ta 3 (.int .i64 (c0 : Int)) ?_
        refine ta 4 (.bool false) ?_
        refine ta 5 (.bool false) ?_
        refine tu 6 ?_
        refine tu 7 ?_
        refine tu 8 ?_
        refine tu 9 ?_
        refine tu 10 ?_
        refine tu 11 ?_
        refine tu 12 ?_
        refine tu 13 ?_
        refine tu 14 ?_
        refine tu 15 ?_
        refine ta 16 (.bool false) ?_
        refine wpAnyH_done (by kernel_rfl) ?_ _
        refine NoPanic.normal ?_
        obtain ⟨rfl⟩ := hQ7
        clear hS hS0
        go_wp2_with (first
         | ((with_reducible refine g_store 6 ?_); go_must (refine ev_store rfl rfl B6 (news := [.int .i64 0, .int .i64 0, .bool false, .slice none 0 0, .string ⟨#[]⟩, .slice none 0 0, .slice none 0 0]) (by first | rfl | (go_simp; try rfl)) infoD (by simp [encD]) (by simp [encD, Value.oneCell']) ?_); intro wn ho Bn; simp only [encD, zA, zB, zC, zD, zE, zF, zG, zH] at Bn; replace HI := HI.only ho (.inr hs6); replace hu := hu.trans (UpB.of_only ho (Nat.le_trans hB0 hs6)); have R2 : RR wn g T _ _ _ := ⟨R.out.only ho (Ne.symm hne6)⟩; clear C R; have R := R2; clear R2; have C := R.out.cells; replace B4 := B4.only ho (Ne.symm hn64); replace B6 := Bn; clear Bn ho))
        refine bodyPost_ret (results_cell_row rfl _ _ g6 35 ([.int .i64 0, .int .i64 0, .bool false, .slice none 0 0, .string ⟨#[]⟩, .slice none 0 0, .slice none 0 0] : List Value).toArray (0, 0) _ rfl B6.h Tryz.underlying35 rfl (by kernel_rfl)) rfl ?_
        exact ⟨_, rfl, hu, by rw [Hr.out]; exact ⟨_, R, HC2.out⟩, ldZ, rfl, good_z _ _ _ (by decide) (by decide) _, fun b hb => (by rw [ldZ, foot_z] at hb; cases hb), fun x e h => by rw [Hr.out] at h; cases h⟩
     | ok uh =>
       obtain ⟨u, h⟩ := uh
       have hr4 : (if T.data.toList.length ≤ h then r = .error (T.data.toList.length, 10) else if T.data.toList[h]? = some 41 then r = .ok (joined acc z, h + 1) else r = .error (h, 15)) := hr3
       by_cases h3 : T.data.toList.length ≤ h
       · rw [if_pos h3] at hr4
         have Hr : As (r = .error (T.size, 10)) := ⟨by rw [hr4, hsl]⟩
         have d1 : decide (T.size ≤ h) = true := decide_eq_true (by omega)
         clear hr3 hr4 hq2 hq3
         as_aux_lemma =>
          go_wp2_with (first
           | (go_at_call 17; (with_reducible refine (PCr.nextc HN.out hle_f hD R Hn.out).mono ?_); rintro e wn ⟨vn, rfl, hq, haf, ⟨y, rfl, hgy, hfy0, hey⟩⟩; have hfy : ∀ b ∈ footD y, w.heap.size ≤ b ∧ b ≠ g4 ∧ b ≠ g6 := (fun b hb => by have := hfy0 b hb; have := hu.size; have := B4.lt; have := B6.lt; omega); clear hfy0; have Hey := As.mk hey; clear hey C R; obtain ⟨kind, n0, neg, mA, mc, mag, text, Ai, ci, items, Ar, cr, rest⟩ := y; obtain ⟨R, hle_g1⟩ : RR wn g T g1 0 0 ∧ g1 ≤ T.size := haf; have C := R.out.cells; replace HI := HI.upg hq hgb hu.size; replace hu := hu.trans (UpB.of_upg hq (Nat.le_trans hB0 hu.size)); replace B4 := blk_upg B4 hq hne4; replace B6 := blk_upg B6 hq hne6; clear hq)
           | ((with_reducible refine g_dst 7 ?_); go_must (refine ev_alloc 7 rfl infoD (cs := [.int .i64 0, .int .i64 0, .bool false, .slice none 0 0, .string ⟨#[]⟩, .slice none 0 0, .slice none 0 0]) rfl ?_); intro g7 wn hb B7 hg7; have hs7 := Nat.le_trans hu.size hg7; have hne7 : g7 ≠ g := (fun h => by have := R.lt; omega); have hn74 : g7 ≠ g4 := (fun h => by have := B4.lt; omega); have hn76 : g7 ≠ g6 := (fun h => by have := B6.lt; omega); have hy7 : ∀ b ∈ footD (.mk kind n0 neg mA mc mag text Ai ci items Ar cr rest), b ≠ g7 := (fun b hb => by have := good_lt hgy b hb; omega); clear hg7; replace R := R.below hb; clear C; have C := R.out.cells; replace HI := HI.below hb hu.size; replace hu := hu.trans (UpB.of_below hb (Nat.le_trans hB0 hu.size)); replace B4 := B4.below hb; replace B6 := B6.below hb; replace hgy := hgy.to hb; clear hb)
           | ((with_reducible refine g_store 7 ?_); go_must (refine ev_store rfl rfl B7 (news := encD (.mk kind n0 neg mA mc mag text Ai ci items Ar cr rest)) (by first | rfl | (go_simp; try rfl)) infoD (by simp [encD]) (by simp [encD, Value.oneCell']) ?_); intro wn ho Bn; simp only [encD, zA, zB, zC, zD, zE, zF, zG, zH] at Bn; replace HI := HI.only ho (.inr hs7); replace hu := hu.trans (UpB.of_only ho (Nat.le_trans hB0 hs7)); have R2 : RR wn g T _ _ _ := ⟨R.out.only ho (Ne.symm hne7)⟩; clear C R; have R := R2; clear R2; have C := R.out.cells; replace B4 := B4.only ho (Ne.symm hn74); replace B6 := B6.only ho (Ne.symm hn76); replace hgy := good_only hgy ho hy7; replace B7 := Bn; clear Bn ho)
           | (go_at_call 15; (with_reducible refine (PCr.blanksc HB2.out hle_g1 hD R Hq3.out).mono ?_); rintro e wn ⟨rfl, hq, haf⟩; clear C R; obtain ⟨R, hle_h⟩ : RR wn g T h 0 0 ∧ h ≤ T.size := haf; have C := R.out.cells; replace HI := HI.upg hq hgb hu.size; replace hu := hu.trans (UpB.of_upg hq (Nat.le_trans hB0 hu.size)); replace B4 := blk_upg B4 hq hne4; replace B6 := blk_upg B6 hq hne6; replace B7 := blk_upg B7 hq hne7; replace hgy := good_upg hgy hq (fun b hb => by have := (hfy b hb).1; omega); clear hq)
           | (go_at_call 16; (with_reducible refine (rend_b R true d1).mono ?_); rintro e wn ⟨vn, rfl, rfl, hb⟩; replace R := R.below hb; clear C; have C := R.out.cells; replace HI := HI.below hb hu.size; replace hu := hu.trans (UpB.of_below hb (Nat.le_trans hB0 hu.size)); replace B4 := B4.below hb; replace B6 := B6.below hb; replace B7 := B7.below hb; replace hgy := hgy.to hb; clear hb)
           | (go_at_call 31; (with_reducible refine (rfail_ok R 10 (T.size : Int)).mono ?_); rintro e wn ⟨rfl, ho, R2⟩; have hq := Upg.of_only ho; clear C R; have R := R2; clear R2; have C := R.out.cells; replace HI := HI.upg hq hgb hu.size; replace hu := hu.trans (UpB.of_upg hq (Nat.le_trans hB0 hu.size)); replace B4 := blk_upg B4 hq hne4; replace B6 := blk_upg B6 hq hne6; replace B7 := blk_upg B7 hq hne7; replace hgy := good_upg hgy hq (fun b hb => by have := (hfy b hb).1; omega); clear hq; clear ho))
          (try go_wp2)
          have hb := (Below.refl (World.heap wn).size wn).drew
          replace R := R.below hb
          clear C
          have C := R.out.cells
          replace HI := HI.below hb hu.size
          replace hu := hu.trans (UpB.of_below hb (Nat.le_trans hB0 hu.size))
          replace B4 := B4.below hb
          replace B6 := B6.below hb
          replace B7 := B7.below hb
          replace hgy := hgy.to hb
          clear hb
          have hS : ∀ W, RR W g T h T.size 10 → W.cell? ⟨g, 0, none⟩ = some (.string T) ∧ W.cell? ⟨g, 1, none⟩ = some (.int .i64 (h : Int)) ∧ W.cell? ⟨g, 2, none⟩ = some (.int .i64 (10 : Int)) := fun W R => ⟨R.out.cells 0, R.out.cells 1, R.out.cells 2⟩
          have hS0 := hS _ R
          refine wp_gen2 (fun Q7 hQ7 => ?_)
          refine wp_region_held_drew (S := fun W => W.cell? ⟨g, 0, none⟩ = some (.string T) ∧ W.cell? ⟨g, 1, none⟩ = some (.int .i64 (h : Int)) ∧ W.cell? ⟨g, 2, none⟩ = some (.int .i64 (10 : Int))) (by kernel_rfl) (hS0) (fun hHeld => ?_)
          refine ta 0 (.pointer (some ⟨g, 0, none⟩)) ?_
          refine ta 1 (.pointer (some ⟨g, 0, none⟩)) ?_
          refine ta 2 (.pointer (some ⟨g, 2, none⟩)) ?_
          refine ta 3 (.int .i64 (10 : Int)) ?_
          refine ta 4 (.bool false) ?_
          refine ta 5 (.bool false) ?_
          refine tu 6 ?_
          refine tu 7 ?_
          refine tu 8 ?_
          refine tu 9 ?_
          refine tu 10 ?_
          refine tu 11 ?_
          refine tu 12 ?_
          refine tu 13 ?_
          refine tu 14 ?_
          refine tu 15 ?_
          refine ta 16 (.bool false) ?_
          refine wpAnyH_done (by kernel_rfl) ?_ _
          refine NoPanic.normal ?_
          obtain ⟨rfl⟩ := hQ7
          clear hS hS0
          go_wp2_with (first
           | ((with_reducible refine g_store 6 ?_); go_must (refine ev_store rfl rfl B6 (news := [.int .i64 0, .int .i64 0, .bool false, .slice none 0 0, .string ⟨#[]⟩, .slice none 0 0, .slice none 0 0]) (by first | rfl | (go_simp; try rfl)) infoD (by simp [encD]) (by simp [encD, Value.oneCell']) ?_); intro wn ho Bn; simp only [encD, zA, zB, zC, zD, zE, zF, zG, zH] at Bn; replace HI := HI.only ho (.inr hs6); replace hu := hu.trans (UpB.of_only ho (Nat.le_trans hB0 hs6)); have R2 : RR wn g T _ _ _ := ⟨R.out.only ho (Ne.symm hne6)⟩; clear C R; have R := R2; clear R2; have C := R.out.cells; replace B4 := B4.only ho (Ne.symm hn64); replace B6 := Bn; clear Bn ho))
          refine bodyPost_ret (results_cell_row rfl _ _ g6 35 ([.int .i64 0, .int .i64 0, .bool false, .slice none 0 0, .string ⟨#[]⟩, .slice none 0 0, .slice none 0 0] : List Value).toArray (0, 0) _ rfl B6.h Tryz.underlying35 rfl (by kernel_rfl)) rfl ?_
          exact ⟨_, rfl, hu, by rw [Hr.out]; exact ⟨_, R, by decide⟩, ldZ, rfl, good_z _ _ _ (by decide) (by decide) _, fun b hb => (by rw [ldZ, foot_z] at hb; cases hb), fun x e h => by rw [Hr.out] at h; cases h⟩
       rw [if_neg h3] at hr4
       have d1 : decide (T.size ≤ h) = false := decide_eq_false (by omega)
       obtain ⟨c12, hc12⟩ := get_size T (i := h) (by omega)
       have hcx12 := get_c (by omega) hc12
       have hh12 : (h : Int) < (T.size : Int) := by omega
       have Hr4 := As.mk hr4
       have HMz := As.mk (run_many hq2)
       have Hc12 := As.mk hc12
       have hflt : f < T.data.toList.length := by omega
       clear hr3 hr4 hq2 hq3 hc12
       go_wp2_with (first
        | (go_at_call 17; (with_reducible refine (PCr.nextc HN.out hle_f hD R Hn.out).mono ?_); rintro e wn ⟨vn, rfl, hq, haf, ⟨y, rfl, hgy, hfy0, hey⟩⟩; have hfy : ∀ b ∈ footD y, w.heap.size ≤ b ∧ b ≠ g4 ∧ b ≠ g6 := (fun b hb => by have := hfy0 b hb; have := hu.size; have := B4.lt; have := B6.lt; omega); clear hfy0; have Hey := As.mk hey; clear hey C R; obtain ⟨kind, n0, neg, mA, mc, mag, text, Ai, ci, items, Ar, cr, rest⟩ := y; obtain ⟨R, hle_g1⟩ : RR wn g T g1 0 0 ∧ g1 ≤ T.size := haf; have C := R.out.cells; replace HI := HI.upg hq hgb hu.size; replace hu := hu.trans (UpB.of_upg hq (Nat.le_trans hB0 hu.size)); replace B4 := blk_upg B4 hq hne4; replace B6 := blk_upg B6 hq hne6; clear hq)
        | ((with_reducible refine g_dst 7 ?_); go_must (refine ev_alloc 7 rfl infoD (cs := [.int .i64 0, .int .i64 0, .bool false, .slice none 0 0, .string ⟨#[]⟩, .slice none 0 0, .slice none 0 0]) rfl ?_); intro g7 wn hb B7 hg7; have hs7 := Nat.le_trans hu.size hg7; have hne7 : g7 ≠ g := (fun h => by have := R.lt; omega); have hn74 : g7 ≠ g4 := (fun h => by have := B4.lt; omega); have hn76 : g7 ≠ g6 := (fun h => by have := B6.lt; omega); have hy7 : ∀ b ∈ footD (.mk kind n0 neg mA mc mag text Ai ci items Ar cr rest), b ≠ g7 := (fun b hb => by have := good_lt hgy b hb; omega); clear hg7; replace R := R.below hb; clear C; have C := R.out.cells; replace HI := HI.below hb hu.size; replace hu := hu.trans (UpB.of_below hb (Nat.le_trans hB0 hu.size)); replace B4 := B4.below hb; replace B6 := B6.below hb; replace hgy := hgy.to hb; clear hb)
        | ((with_reducible refine g_store 7 ?_); go_must (refine ev_store rfl rfl B7 (news := encD (.mk kind n0 neg mA mc mag text Ai ci items Ar cr rest)) (by first | rfl | (go_simp; try rfl)) infoD (by simp [encD]) (by simp [encD, Value.oneCell']) ?_); intro wn ho Bn; simp only [encD, zA, zB, zC, zD, zE, zF, zG, zH] at Bn; replace HI := HI.only ho (.inr hs7); replace hu := hu.trans (UpB.of_only ho (Nat.le_trans hB0 hs7)); have R2 : RR wn g T _ _ _ := ⟨R.out.only ho (Ne.symm hne7)⟩; clear C R; have R := R2; clear R2; have C := R.out.cells; replace B4 := B4.only ho (Ne.symm hn74); replace B6 := B6.only ho (Ne.symm hn76); replace hgy := good_only hgy ho hy7; replace B7 := Bn; clear Bn ho)
        | (go_at_call 15; (with_reducible refine (PCr.blanksc HB2.out hle_g1 hD R Hq3.out).mono ?_); rintro e wn ⟨rfl, hq, haf⟩; clear C R; obtain ⟨R, hle_h⟩ : RR wn g T h 0 0 ∧ h ≤ T.size := haf; have C := R.out.cells; replace HI := HI.upg hq hgb hu.size; replace hu := hu.trans (UpB.of_upg hq (Nat.le_trans hB0 hu.size)); replace B4 := blk_upg B4 hq hne4; replace B6 := blk_upg B6 hq hne6; replace B7 := blk_upg B7 hq hne7; replace hgy := good_upg hgy hq (fun b hb => by have := (hfy b hb).1; omega); clear hq)
        | (go_at_call 16; (with_reducible refine (rend_b R false d1).mono ?_); rintro e wn ⟨vn, rfl, rfl, hb⟩; replace R := R.below hb; clear C; have C := R.out.cells; replace HI := HI.below hb hu.size; replace hu := hu.trans (UpB.of_below hb (Nat.le_trans hB0 hu.size)); replace B4 := B4.below hb; replace B6 := B6.below hb; replace B7 := B7.below hb; replace hgy := hgy.to hb; clear hb))
       have hr4 := Hr4.out
       have hc12 := Hc12.out
       have e12 := u8R c12 41 (by omega)
       clear Hr4 Hc12
       by_cases h4 : T.data.toList[h]? = some 41
       · rw [if_pos h4] at hr4
         have Hr := As.mk hr4
         have e12' : ((c12.toNat : Int) != 41) = false := by
          rw [hc12] at h4
          cases h4
          rfl
         clear hr4 hc12 e12
         (try go_wp2)
         have hb := (Below.refl (World.heap wn).size wn).drew
         replace R := R.below hb
         clear C
         have C := R.out.cells
         replace HI := HI.below hb hu.size
         replace hu := hu.trans (UpB.of_below hb (Nat.le_trans hB0 hu.size))
         replace B4 := B4.below hb
         replace B6 := B6.below hb
         replace B7 := B7.below hb
         replace hgy := hgy.to hb
         clear hb
         have hS : ∀ W, RR W g T h 0 0 → W.cell? ⟨g, 0, none⟩ = some (.string T) ∧ W.cell? ⟨g, 1, none⟩ = some (.int .i64 (h : Int)) ∧ W.cell? ⟨g, 2, none⟩ = some (.int .i64 (0 : Int)) := fun W R => ⟨R.out.cells 0, R.out.cells 1, R.out.cells 2⟩
         have hS0 := hS _ R
         refine wp_gen2 (fun Q7 hQ7 => ?_)
         refine wp_region_held_drew (S := fun W => W.cell? ⟨g, 0, none⟩ = some (.string T) ∧ W.cell? ⟨g, 1, none⟩ = some (.int .i64 (h : Int)) ∧ W.cell? ⟨g, 2, none⟩ = some (.int .i64 (0 : Int))) (by kernel_rfl) (hS0) (fun hHeld => ?_)
         refine ta 0 (.pointer (some ⟨g, 0, none⟩)) ?_
         refine ta 1 (.pointer (some ⟨g, 0, none⟩)) ?_
         refine ta 2 (.pointer (some ⟨g, 2, none⟩)) ?_
         refine ta 3 (.int .i64 0) ?_
         refine ta 4 (.bool true) ?_
         refine ta 5 (.bool true) ?_
         refine ta 6 (.pointer (some ⟨g, 0, none⟩)) ?_
         refine ta 7 (.pointer (some ⟨g, 0, none⟩)) ?_
         refine ta 8 (.pointer (some ⟨g, 0, none⟩)) ?_
         refine ta 9 (.string T) ?_
         refine ta 10 (.pointer (some ⟨g, 0, none⟩)) ?_
         refine ta 11 (.pointer (some ⟨g, 0, none⟩)) ?_
         refine ta 12 (.pointer (some ⟨g, 1, none⟩)) ?_
         refine ta 13 (.int .i64 (h : Int)) ?_
         refine ta 14 (.int .u8 (c12.toNat : Int)) ?_
         refine ta 15 (.bool false) ?_
         refine ta 16 (.bool false) ?_
         refine wpAnyH_done (by kernel_rfl) ?_ _
         refine NoPanic.normal ?_
         obtain ⟨rfl⟩ := hQ7
         clear hS hS0
         by_cases h6 : z.kind = 6
         · have Hk := As.mk h6
           have hmz : z.items.length + f ≤ g1 := HMz.out hflt
           have hkz : (kind == 6) = true := (by rw [show kind = z.kind from congrArg DV.kind (Hey.out z g1 rfl)]; simpa using Hk.out)
           have hiz : items.length = z.items.length := (by rw [← Hey.out z g1 rfl]; exact (erAll_len items).symm)
           have Hiz := As.mk hiz
           clear hiz h6
           as_aux_lemma =>
            go_wp2_with (first
             | ((with_reducible refine g_store 119 ?_); go_must (refine ev_store rfl rfl R.out (news := [.int .i64 ((h + 1 : Nat) : Int)]) (by first | rfl | (go_simp; first | rfl | go_num | (simp; omega))) infoI (by simp) (by simp [Value.oneCell']) ?_); intro wn ho Bn; simp only [zI, zA, zC, zD, zE, zF, zH, zB, zG, Nat.reduceAdd] at Bn; have R2 : RR wn g T (h + 1) 0 0 := ⟨Bn⟩; clear Bn; have hq := Upg.of_only ho; clear C R; have R := R2; clear R2; have C := R.out.cells; replace HI := HI.upg hq hgb hu.size; replace hu := hu.trans (UpB.of_upg hq (Nat.le_trans hB0 hu.size)); replace B4 := blk_upg B4 hq hne4; replace B6 := blk_upg B6 hq hne6; replace B7 := blk_upg B7 hq hne7; replace hgy := good_upg hgy hq (fun b hb => by have := (hfy b hb).1; omega); clear hq; clear ho; have C7 := B7.cells; have C4 := B4.cells)
             | ((with_reducible refine g_dst 127 ?_); go_must (refine ev_append2 127 rfl Tryz.underlying22 infoD rfl (by decide) rfl HI.ow rfl (l2 := items) rfl (good_items hgy).1 lenD oneD (good_items hgy).2 (by have := Hiz.out; omega) (by have := Hiz.out; simp only [maxLen]; omega) (Nat.le_trans hB0 hu.size) ?_); intro v9 wn how hg9 hor9; have hb9 := HI.ow.grown (Below.refl base _) hg9 (Nat.le_refl _) (Nat.le_trans hB0 hu.size); have hsz := hu.size; have ho4 : ∀ k, (Value.slice A m.length c).ownBlock = some k → k ≠ g4 ∧ k ≠ g6 ∧ k ≠ g7 ∧ k < w.heap.size := (fun k hk => by have := (HI.own k hk).2; omega); have gm : ∀ y ∈ m, Good wn y := (fun y hy => (HI.good y hy).keep (fun b hb => hg9.block b (by have := (HI.low b (foot_mem hb hy)).2.1; omega) (fun e => (HI.low b (foot_mem hb hy)).2.2 e.symm))); have low := HI.low; have same := HI.same; have hor : ∀ k, v9.ownBlock = some k → k ≠ g4 ∧ k ≠ g6 := (fun k hk => by have l4 := B4.lt; have l6 := B6.lt; rcases hor9 k hk with h | h; exact ⟨(ho4 k h).1, (ho4 k h).2.1⟩; exact ⟨by omega, by omega⟩); replace hgy := hgy.keep (fun b hb => hg9.block b (good_lt hgy b hb) (fun e => by have := (hfy b hb).1; have := (ho4 b e.symm).2.2.2; omega)); replace B4 := blkG B4 hg9 (fun e => (ho4 _ e).1 rfl); replace B6 := blkG B6 hg9 (fun e => (ho4 _ e).2.1 rfl); replace B7 := blkG B7 hg9 (fun e => (ho4 _ e).2.2.1 rfl); replace R : RR wn g T _ _ _ := ⟨blkB R.out hb9 hgb⟩; replace hu := hu.trans (UpB.of_belowB hb9); have Hlow := As.mk low; have Hsame := As.mk same; have Hor := As.mk hor; clear C C4 C7 hb9 hor9 hg9 HI ho4 low same hor hsz; have C := R.out.cells; have C7 := B7.cells; obtain ⟨A9, c9, rfl, h91, h92⟩ := how.form)
             | ((with_reducible refine g_store 128 ?_); go_must (refine ev_store rfl rfl B4 (news := [.slice A9 (m.length + items.length) c9]) (by first | rfl | (go_simp; try rfl)) infoLD (by simp) (by simp [Value.oneCell']) ?_); intro wn ho Bn; simp only [zI, zA, zC, zD, zE, zF, zH, zB, zG, Nat.reduceAdd] at Bn; replace how := ow_keep how (fun k hk => ho.block k (Hor.out k hk).1); replace gm : ∀ y ∈ m, Good wn y := (fun y hy => good_only (gm y hy) ho (fun b hb e => by have := (Hlow.out b (foot_mem hb hy)).2.1; omega)); replace hgy := good_only hgy ho (fun b hb => (hfy b hb).2.1); replace B6 := B6.only ho hn64; replace B7 := B7.only ho hn74; have R2 : RR wn g T _ _ _ := ⟨R.out.only ho (Ne.symm hne4)⟩; replace hu := hu.trans (UpB.of_only ho (Nat.le_trans hB0 hs4)); clear C7 C R; have R := R2; clear R2; have C := R.out.cells; have C7 := B7.cells; replace B4 := Bn; clear Bn ho)
             | ((with_reducible refine g_store 131 ?_); go_must (refine ev_store rfl rfl B4 (news := [.slice Ar rest.length cr]) (by rfl) infoLD (by simp) (by simp [Value.oneCell']) ?_); intro wn ho Bn; simp only [zI, zA, zC, zD, zE, zF, zH, zB, zG, Nat.reduceAdd] at Bn; replace how := ow_keep how (fun k hk => ho.block k (Hor.out k hk).1); replace gm : ∀ y ∈ m, Good wn y := (fun y hy => good_only (gm y hy) ho (fun b hb e => by have := (Hlow.out b (foot_mem hb hy)).2.1; omega)); replace hgy := good_only hgy ho (fun b hb => (hfy b hb).2.1); replace B6 := B6.only ho hn64; replace B7 := B7.only ho hn74; have R2 : RR wn g T _ _ _ := ⟨R.out.only ho (Ne.symm hne4)⟩; replace hu := hu.trans (UpB.of_only ho (Nat.le_trans hB0 hs4)); clear C7 C R; have R := R2; clear R2; have C := R.out.cells; have C7 := B7.cells; replace B4 := Bn; clear Bn ho; have C4 := B4.cells)
             | ((with_reducible refine g_store 6 ?_); go_must (refine ev_store rfl rfl B6 (news := [.int .i64 6, .int .i64 0, .bool false, .slice none 0 0, .string ⟨#[]⟩, .slice A9 (m.length + items.length) c9, .slice Ar rest.length cr]) (by first | rfl | (go_simp; try rfl)) infoD (by simp) (by simp [Value.oneCell']) ?_); intro wn ho Bn; simp only [encD, zA, zB, zC, zD, zE, zF, zG, zH] at Bn; replace how := ow_keep how (fun k hk => ho.block k (Hor.out k hk).2); replace gm : ∀ y ∈ m, Good wn y := (fun y hy => good_only (gm y hy) ho (fun b hb e => by have := (Hlow.out b (foot_mem hb hy)).2.1; omega)); replace hgy := good_only hgy ho (fun b hb => (hfy b hb).2.2); have R2 : RR wn g T _ _ _ := ⟨R.out.only ho (Ne.symm hne6)⟩; replace hu := hu.trans (UpB.of_only ho (Nat.le_trans hB0 hs6)); clear C C7 C4 R; have R := R2; clear R2; have C := R.out.cells; replace B6 := Bn; clear Bn ho))
            refine bodyPost_ret (results_cell_row rfl _ _ g6 35 ([.int .i64 6, .int .i64 0, .bool false, .slice none 0 0, .string ⟨#[]⟩, .slice A9 (m.length + items.length) c9, .slice Ar rest.length cr] : List Value).toArray (0, 0) _ rfl B6.h Tryz.underlying35 rfl (by kernel_rfl)) rfl ?_
            have hz0 := Hey.out z g1 rfl
            obtain ⟨_, _, _, ri, li, ni, rr, lr, nr, gi, gr⟩ := hgy
            refine ⟨_, rfl, hu, by rw [Hr.out]; exact ⟨R, by omega⟩, (.mk 6 0 false none 0 [] [] A9 c9 (m ++ items) Ar cr rest), by simp [encD], ?_, ?_, ?_⟩
            · refine .mk (by omega) (by omega) ⟨Rd.nil _ _ _ _, fun x hx => (nomatch hx), by simp, fun _ => rfl, by simp⟩ (how.rd lenD) h91 how.none rr lr nr (fun y hy => ?_) gr
              rcases List.mem_append.1 hy with hy | hy
              · exact gm y hy
              · exact gi y hy
            · intro b hb
              have hfb : b ∈ addrBlock A9 ∨ b ∈ footAll m ∨ b ∈ footD (.mk kind n0 neg mA mc mag text Ai ci items Ar cr rest) := by
               rw [footD] at hb
               simp only [List.length_nil, if_true, List.nil_append] at hb
               rcases List.mem_append.1 hb with hb | hb
               · split at hb
                 · cases hb
                 · exact .inl hb
               rcases List.mem_append.1 hb with hb | hb
               · refine .inr (.inr ?_)
                 rw [footD]
                 exact List.mem_append_right _ (List.mem_append_right _ (List.mem_append_left _ hb))
               rcases List.mem_append.1 hb with hb | hb
               · rw [footAll_append] at hb
                 rcases List.mem_append.1 hb with hb | hb
                 · exact .inr (.inl hb)
                 · refine .inr (.inr ?_)
                   rw [footD]
                   exact List.mem_append_right _ (List.mem_append_right _ (List.mem_append_right _ (List.mem_append_left _ hb)))
               · refine .inr (.inr ?_)
                 rw [footD]
                 exact List.mem_append_right _ (List.mem_append_right _ (List.mem_append_right _ (List.mem_append_right _ hb)))
              rcases hfb with hb | hb | hb
              · exact own_block_ge how b hb
              · exact (Hlow.out b hb).1
              · have := (hfy b hb).1; omega
            · intro x e he
              rw [Hr.out] at he
              cases he
              rw [joined, if_pos Hk.out, ← hz0]
              simp [erD, dList, DV.items, DV.rest, erAll_append, erAll, Hsame.out]
         · have Hk := As.mk h6
           have hkz : (kind == 6) = false := (by rw [show kind = z.kind from congrArg DV.kind (Hey.out z g1 rfl)]; simpa using Hk.out)
           clear h6
           as_aux_lemma =>
            go_wp2_with (first
             | ((with_reducible refine g_store 119 ?_); go_must (refine ev_store rfl rfl R.out (news := [.int .i64 ((h + 1 : Nat) : Int)]) (by first | rfl | (go_simp; first | rfl | go_num | (simp; omega))) infoI (by simp) (by simp [Value.oneCell']) ?_); intro wn ho Bn; simp only [zI, zA, zC, zD, zE, zF, zH, zB, zG, Nat.reduceAdd] at Bn; have R2 : RR wn g T (h + 1) 0 0 := ⟨Bn⟩; clear Bn; have hq := Upg.of_only ho; clear C R; have R := R2; clear R2; have C := R.out.cells; replace HI := HI.upg hq hgb hu.size; replace hu := hu.trans (UpB.of_upg hq (Nat.le_trans hB0 hu.size)); replace B4 := blk_upg B4 hq hne4; replace B6 := blk_upg B6 hq hne6; replace B7 := blk_upg B7 hq hne7; replace hgy := good_upg hgy hq (fun b hb => by have := (hfy b hb).1; omega); clear hq; clear ho; have C7 := B7.cells; have C4 := B4.cells)
             | ((with_reducible refine g_dst 134 ?_); go_must (refine ev_lit (v := fun g => .slice (some ⟨g, 0, none⟩) 1 1) 134 rfl (cs := encD (.mk kind n0 neg mA mc mag text Ai ci items Ar cr rest)) (t := 35) (lit_one (x := .tmp 133) (by rfl) _) ?_); intro g98 wn hb B98 hg98; have hs98 := Nat.le_trans hu.size hg98; have h984 : g98 ≠ g4 := (fun h => by have := B4.lt; omega); have h986 : g98 ≠ g6 := (fun h => by have := B6.lt; omega); clear C7 C4; replace R := R.below hb; clear C; have C := R.out.cells; replace HI := HI.below hb hu.size; replace hu := hu.trans (UpB.of_below hb (Nat.le_trans hB0 hu.size)); replace B4 := B4.below hb; replace B6 := B6.below hb; replace B7 := B7.below hb; replace hgy := hgy.to hb; clear hb; have C4 := B4.cells; have C7 := B7.cells; clear hg98)
             | ((with_reducible refine g_store 135 ?_); go_must (refine ev_store rfl rfl B4 (news := [.slice (some ⟨g98, 0, none⟩) 1 1]) (by rfl) infoLD (by simp) (by simp [Value.oneCell']) ?_); intro wn ho Bn; simp only [zI, zA, zC, zD, zE, zF, zH, zB, zG, Nat.reduceAdd] at Bn; replace HI := HI.only ho (.inr hs4); replace B98 := B98.only ho h984; clear C4; replace hgy := good_only hgy ho (fun b hb => (hfy b hb).2.1); replace B6 := B6.only ho hn64; replace B7 := B7.only ho hn74; have R2 : RR wn g T _ _ _ := ⟨R.out.only ho (Ne.symm hne4)⟩; replace hu := hu.trans (UpB.of_only ho (Nat.le_trans hB0 hs4)); clear C7 C R; have R := R2; clear R2; have C := R.out.cells; have C7 := B7.cells; replace B4 := Bn; clear Bn ho; have C4 := B4.cells)
             | ((with_reducible refine g_store 6 ?_); go_must (refine ev_store rfl rfl B6 (news := [.int .i64 6, .int .i64 0, .bool false, .slice none 0 0, .string ⟨#[]⟩, .slice A m.length c, .slice (some ⟨g98, 0, none⟩) 1 1]) (by first | rfl | (go_simp; try rfl)) infoD (by simp) (by simp [Value.oneCell']) ?_); intro wn ho Bn; simp only [encD, zA, zB, zC, zD, zE, zF, zG, zH] at Bn; replace HI := HI.only ho (.inr hs6); replace B98 := B98.only ho h986; replace hgy := good_only hgy ho (fun b hb => (hfy b hb).2.2); have R2 : RR wn g T _ _ _ := ⟨R.out.only ho (Ne.symm hne6)⟩; replace hu := hu.trans (UpB.of_only ho (Nat.le_trans hB0 hs6)); clear C C7 C4 R; have R := R2; clear R2; have C := R.out.cells; replace B6 := Bn; clear Bn ho))
            refine bodyPost_ret (results_cell_row rfl _ _ g6 35 ([.int .i64 6, .int .i64 0, .bool false, .slice none 0 0, .string ⟨#[]⟩, .slice A m.length c, .slice (some ⟨g98, 0, none⟩) 1 1] : List Value).toArray (0, 0) _ rfl B6.h Tryz.underlying35 rfl (by kernel_rfl)) rfl ?_
            have hz0 := Hey.out z g1 rfl
            obtain ⟨A', c', hv', hc1, hc2⟩ := HI.ow.form
            simp only [Value.slice.injEq] at hv'
            obtain ⟨rfl, _, rfl⟩ := hv'
            refine ⟨_, rfl, hu, by rw [Hr.out]; exact ⟨R, by omega⟩, (.mk 6 0 false none 0 [] [] A c m (some ⟨g98, 0, none⟩) 1 [(.mk kind n0 neg mA mc mag text Ai ci items Ar cr rest)]), rfl, ?_, ?_, ?_⟩
            · exact .mk (by omega) (by omega) ⟨Rd.nil _ _ _ _, fun x hx => (nomatch hx), by simp, fun _ => rfl, by simp⟩ (HI.ow.rd lenD) hc1 HI.ow.none (B98.rd lenD (by simp)) (by simp) (fun h => (nomatch h)) HI.good (fun y hy => by rw [List.mem_singleton] at hy; subst hy; exact hgy)
            · intro b hb
              rw [footD] at hb
              simp only [List.length_nil, if_true, List.nil_append, footAll, List.append_nil] at hb
              rcases List.mem_append.1 hb with hb | hb
              · split at hb
                · cases hb
                · exact own_block_ge HI.ow b hb
              rcases List.mem_append.1 hb with hb | hb
              · split at hb
                · cases hb
                · simp only [addrBlock, List.mem_singleton] at hb; omega
              rcases List.mem_append.1 hb with hb | hb
              · exact (HI.low b hb).1
              · have := (hfy b hb).1; omega
            · intro x e he
              rw [Hr.out] at he
              cases he
              rw [joined, if_neg Hk.out, ← hz0]
              simp [erD, dList, erAll, HI.same]
       · rw [if_neg h4] at hr4
         have Hr : As (r = .error (h, 15)) := ⟨hr4⟩
         have e12' : ((c12.toNat : Int) != 41) = true := by
          rw [show (c12 == UInt8.ofNat 41) = false by simpa using fun hh => h4 (by rw [hc12, hh] <;> rfl)] at e12
          have e60 : ((c12.toNat : Int) == 41) = false := e12
          rw [bne, e60]; rfl
         clear hr4 hc12 e12
         as_aux_lemma =>
          (try go_wp2)
          have hb := (Below.refl (World.heap wn).size wn).drew
          replace R := R.below hb
          clear C
          have C := R.out.cells
          replace HI := HI.below hb hu.size
          replace hu := hu.trans (UpB.of_below hb (Nat.le_trans hB0 hu.size))
          replace B4 := B4.below hb
          replace B6 := B6.below hb
          replace B7 := B7.below hb
          replace hgy := hgy.to hb
          clear hb
          have hS : ∀ W, RR W g T h 0 0 → W.cell? ⟨g, 0, none⟩ = some (.string T) ∧ W.cell? ⟨g, 1, none⟩ = some (.int .i64 (h : Int)) ∧ W.cell? ⟨g, 2, none⟩ = some (.int .i64 (0 : Int)) := fun W R => ⟨R.out.cells 0, R.out.cells 1, R.out.cells 2⟩
          have hS0 := hS _ R
          refine wp_gen2 (fun Q7 hQ7 => ?_)
          refine wp_region_held_drew (S := fun W => W.cell? ⟨g, 0, none⟩ = some (.string T) ∧ W.cell? ⟨g, 1, none⟩ = some (.int .i64 (h : Int)) ∧ W.cell? ⟨g, 2, none⟩ = some (.int .i64 (0 : Int))) (by kernel_rfl) (hS0) (fun hHeld => ?_)
          refine ta 0 (.pointer (some ⟨g, 0, none⟩)) ?_
          refine ta 1 (.pointer (some ⟨g, 0, none⟩)) ?_
          refine ta 2 (.pointer (some ⟨g, 2, none⟩)) ?_
          refine ta 3 (.int .i64 0) ?_
          refine ta 4 (.bool true) ?_
          refine ta 5 (.bool true) ?_
          refine ta 6 (.pointer (some ⟨g, 0, none⟩)) ?_
          refine ta 7 (.pointer (some ⟨g, 0, none⟩)) ?_
          refine ta 8 (.pointer (some ⟨g, 0, none⟩)) ?_
          refine ta 9 (.string T) ?_
          refine ta 10 (.pointer (some ⟨g, 0, none⟩)) ?_
          refine ta 11 (.pointer (some ⟨g, 0, none⟩)) ?_
          refine ta 12 (.pointer (some ⟨g, 1, none⟩)) ?_
          refine ta 13 (.int .i64 (h : Int)) ?_
          refine ta 14 (.int .u8 (c12.toNat : Int)) ?_
          refine ta 15 (.bool true) ?_
          refine ta 16 (.bool true) ?_
          refine wpAnyH_done (by kernel_rfl) ?_ _
          refine NoPanic.normal ?_
          obtain ⟨rfl⟩ := hQ7
          clear hS hS0
          go_wp2_with (first
           | (go_at_call 31; (with_reducible refine (rfail_ok R 15 (h : Int)).mono ?_); rintro e wn ⟨rfl, ho, R2⟩; have hq := Upg.of_only ho; clear C R; have R := R2; clear R2; have C := R.out.cells; replace HI := HI.upg hq hgb hu.size; replace hu := hu.trans (UpB.of_upg hq (Nat.le_trans hB0 hu.size)); replace B4 := blk_upg B4 hq hne4; replace B6 := blk_upg B6 hq hne6; replace B7 := blk_upg B7 hq hne7; replace hgy := good_upg hgy hq (fun b hb => by have := (hfy b hb).1; omega); clear hq; clear ho)
           | ((with_reducible refine g_store 6 ?_); go_must (refine ev_store rfl rfl B6 (news := [.int .i64 0, .int .i64 0, .bool false, .slice none 0 0, .string ⟨#[]⟩, .slice none 0 0, .slice none 0 0]) (by first | rfl | (go_simp; try rfl)) infoD (by simp [encD]) (by simp [encD, Value.oneCell']) ?_); intro wn ho Bn; simp only [encD, zA, zB, zC, zD, zE, zF, zG, zH] at Bn; replace HI := HI.only ho (.inr hs6); replace hu := hu.trans (UpB.of_only ho (Nat.le_trans hB0 hs6)); have R2 : RR wn g T _ _ _ := ⟨R.out.only ho (Ne.symm hne6)⟩; clear C R; have R := R2; clear R2; have C := R.out.cells; replace B4 := B4.only ho (Ne.symm hn64); replace B6 := Bn; clear Bn ho))
          refine bodyPost_ret (results_cell_row rfl _ _ g6 35 ([.int .i64 0, .int .i64 0, .bool false, .slice none 0 0, .string ⟨#[]⟩, .slice none 0 0, .slice none 0 0] : List Value).toArray (0, 0) _ rfl B6.h Tryz.underlying35 rfl (by kernel_rfl)) rfl ?_
          exact ⟨_, rfl, hu, by rw [Hr.out]; exact ⟨_, R, by decide⟩, ldZ, rfl, good_z _ _ _ (by decide) (by decide) _, fun b hb => (by rw [ldZ, foot_z] at hb; cases hb), fun x e h => by rw [Hr.out] at h; cases h⟩
end Go.Proofs.YtdapbegadhcpcaaGreatDoor
