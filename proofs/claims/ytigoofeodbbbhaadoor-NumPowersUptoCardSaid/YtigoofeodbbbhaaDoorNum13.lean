/- tandemref02.Sub, Cmp. -/
import Derived.Test.YtigoofeodbbbhaaDoorNum12
namespace Go.Proofs.YtigoofeodbbbhaaDoor
open Go.RowKit Go.Proofs.YtigoofeodbbbhaaDoorL Go.Proofs.YtigoofeodbbbhaaDoorM
set_option linter.unusedVariables false
set_option linter.unusedSimpArgs false
set_option maxRecDepth 8000 in
set_option maxHeartbeats 1000000 in
theorem rSub2_any (l m : List Nat) (n1 n2 : Bool) (A A2 : Option Addr) (c c2 : Nat) (w : World) (h : Lim w A c l) (h2 : Lim w A2 c2 m) (hl : l.length ≤ 274877906942) (hm : m.length ≤ 274877906942) :
    Calls Tryd.prog 30 #[.agg #[.bool n1, .slice A l.length c], .agg #[.bool n2, .slice A2 m.length c2]] w (Gives w fun r w' => Told w.heap.size w' r (sval n1 (valB 4294967296 l) - sval n2 (valB 4294967296 m))) := by
  have HN := As.mk (fun w1 (hb : Below w.heap.size w w1) => rNeg_any m n2 A2 c2 w1 (h2.below hb))
  have hnl := (Sm.of n2 m h2.lt).neg.len
  obtain ⟨z, hz⟩ : ∃ z, z = - sval n2 (valB 4294967296 m) := ⟨_, rfl⟩
  rw [← hz] at HN hnl
  obtain ⟨s, hs⟩ : ∃ s, s = sval n1 (valB 4294967296 l) - sval n2 (valB 4294967296 m) := ⟨_, rfl⟩
  rw [← hs]
  have HEE := As.mk (fun E (e : E = digB 4294967296 z.natAbs) => show E.length ≤ 274877906942 by rw [e]; omega)
  have HP : As (∀ (W : World) A3 c3 E (e : E = digB 4294967296 z.natAbs) (h1 : Lim W A c l) (h3 : Lim W A3 c3 E), Calls Tryd.prog 49 #[.agg #[.bool n1, .slice A l.length c], .agg #[.bool (decide (z < 0)), .slice A3 E.length c3]] W (Gives W fun v w' => Told W.heap.size w' v s)) := ⟨fun W A3 c3 E e h1 h3 => by
    have := plus_any l E n1 (decide (z < 0)) A A3 c c3 W h1 h3 (by omega) (by have := HEE.out E e; omega)
    rw [show sval n1 (valB 4294967296 l) + sval (decide (z < 0)) (valB 4294967296 E) = s by rw [e, digB_val _ (by omega), sval_of, hz, hs]; omega] at this
    exact this⟩
  clear hz hs hnl
  go_enter Tryd.func30, Tryd.ntmps30
  go_wp2_with (first
    | ((with_reducible refine g_dst 2 ?_); go_must (refine ev_box 2 rfl (cs := [.bool n1, .slice A l.length c]) (by rfl) ?_); intro g2 w2 hb2 B2 hg2)
    | ((with_reducible refine g_dst 3 ?_); go_must (refine ev_box 3 rfl (cs := [.bool n2, .slice A2 m.length c2]) (by rfl) ?_); intro g3 w3 hb3 B3 hg3; replace B2 := B2.below hb3; replace hb3 := bthen hb2 hb3)
    | ((with_reducible refine g_dst 4 ?_); go_must (refine ev_alloc 4 rfl infoNum (cs := [.bool false, .slice none 0 0]) rfl ?_); intro g4 w4 hb4 B4 hg4; have hne2 : g2 ≠ g4 := Nat.ne_of_lt (Nat.lt_of_lt_of_le B2.lt hg4); have hne3 : g3 ≠ g4 := Nat.ne_of_lt (Nat.lt_of_lt_of_le B3.lt hg4); replace B2 := B2.below hb4; replace B3 := B3.below hb4; replace hg4 := Nat.le_trans hb3.size hg4; replace hb4 := bthen hb3 hb4))
  have hS : ∀ W, Blk W g2 [.bool n1, .slice A l.length c] 26 → Blk W g3 [.bool n2, .slice A2 m.length c2] 26 → W.cell? ⟨g2, 0, none⟩ = some (.bool n1) ∧ W.cell? ⟨g2, 1, none⟩ = some (.slice A l.length c) ∧ W.cell? ⟨g3, 0, none⟩ = some (.bool n2) ∧ W.cell? ⟨g3, 1, none⟩ = some (.slice A2 m.length c2) := fun W b1 b2 => ⟨b1.cells 0, b1.cells 1, b2.cells 0, b2.cells 1⟩
  have hd := (Below.refl w4.heap.size w4).drew
  have hS0 := hS _ (B2.below hd) (B3.below hd)
  have HS := As.mk hS
  have hgl := B4.lt
  clear hS
  refine wp_gen (fun Q7 hQ7 => ?_)
  go_region_held3 (fun W => W.cell? ⟨g2, 0, none⟩ = some (.bool n1) ∧ W.cell? ⟨g2, 1, none⟩ = some (.slice A l.length c) ∧ W.cell? ⟨g3, 0, none⟩ = some (.bool n2) ∧ W.cell? ⟨g3, 1, none⟩ = some (.slice A2 m.length c2)) (first | assumption | (with_reducible exact HS.out _ (B2.below hb5) (B3.below hb5)) | (with_reducible exact HS.out _ (B2.below hb7) (B3.below hb7)) | (with_reducible exact HSk.out _ _)) (first
    | (go_at_call 32; (with_reducible refine (HN.out _ (bthen hb4 hd)).mono ?_); rintro e w5 ⟨v5, rfl, ht5, hb5⟩; obtain ⟨A5, c5, E5, rfl, o5, HE5, h51⟩ := told_sl ht5; clear ht5; replace hb5 := bthen hd hb5; have hl5 : Lim w5 A5 c5 E5 := ⟨o5.rd lenU, (by rw [HE5.out]; exact digB_lt _ (by omega) _), h51, o5.none, Nat.le_trans (HEE.out E5 HE5.out) (by omega)⟩; have hlA := h.below (bthen hb4 hb5))
    | (go_at_call 49; (with_reducible refine (HP.out _ A5 c5 E5 HE5.out hlA hl5).mono ?_); rintro e w7 ⟨v7, rfl, ht7, hb7⟩; obtain ⟨A7, c7, E7, rfl, o7, HE7, h71⟩ := told_sl ht7; clear ht7; replace o7 := o7.lower hb5.size; replace hb7 := bthen hb5 hb7; have B47 := B4.below hb7; have C4 := B47.cells; have F4 := B47.free; have HSk := As.mk (fun v u => HS.out _ ((B2.below hb7).only (set2_gen B47 v u).1 hne2) ((B3.below hb7).only (set2_gen B47 v u).1 hne3))))
  obtain ⟨ho8, B8⟩ := set2_gen B47 (.bool (decide (s < 0))) (.slice A7 E7.length c7)
  generalize (w7.setCell ⟨g4, 0, none⟩ (.bool (decide (s < 0)))).setCell ⟨g4, 1, none⟩ (.slice A7 E7.length c7) = w8 at ho8 B8 ⊢
  obtain ⟨rfl⟩ := hQ7
  go_wp2
  refine bodyPost_ret (results_cell_row rfl _ _ g4 26 #[.bool (decide (s < 0)), .slice A7 E7.length c7] (0, 0) _ rfl B8.h Tryd.underlying26 rfl (by kernel_rfl)) rfl ?_
  refine ⟨_, rfl, ⟨.slice A7 E7.length c7, rfl, ?_⟩, (bthen hb4 hb7).trans (ho8.below hg4)⟩
  rw [← HE7.out]
  exact ow_only o7 ho8 hgl hb4.size
set_option maxHeartbeats 1000000 in
theorem rCmp2_any (l m : List Nat) (n1 n2 : Bool) (A A2 : Option Addr) (c c2 : Nat) (w : World) (h : Lim w A c l) (h2 : Lim w A2 c2 m) (hl : l.length ≤ 274877906942) (hm : m.length ≤ 274877906942) :
    Calls Tryd.prog 34 #[.agg #[.bool n1, .slice A l.length c], .agg #[.bool n2, .slice A2 m.length c2]] w (Gives w fun r w' => r = .int .i64 (cmpZ (sval n1 (valB 4294967296 l)) (sval n2 (valB 4294967296 m)))) := by
  have HS := As.mk (fun w1 (hb : Below w.heap.size w w1) => rSub2_any l m n1 n2 A A2 c c2 w1 (h.below hb) (h2.below hb) hl hm)
  obtain ⟨s, hs⟩ : ∃ s, s = sval n1 (valB 4294967296 l) - sval n2 (valB 4294967296 m) := ⟨_, rfl⟩
  have hcz : cmpZ (sval n1 (valB 4294967296 l)) (sval n2 (valB 4294967296 m)) = if s < 0 then -1 else if s = 0 then 0 else 1 := by rw [cmpZ, ← hs]
  rw [← hs] at HS
  rw [hcz]
  obtain ⟨r, hr⟩ : ∃ r : Int, r = if s < 0 then -1 else if s = 0 then 0 else 1 := ⟨_, rfl⟩
  rw [← hr]
  clear hcz hs
  have hEz : As (∀ E, E = digB 4294967296 s.natAbs → (((E.length : Int) == 0) = decide (s = 0))) := ⟨fun E e => by
    have h1 := digB_eq_nil 4294967296 s.natAbs (by omega)
    rw [← e, ← List.length_eq_zero_iff] at h1
    rw [Bool.eq_iff_iff, beq_iff_eq, decide_eq_true_iff]; omega⟩
  by_cases h0 : s = 0
  · have HR : As (r = 0) := ⟨by rw [hr]; simp [h0]⟩
    simp only [h0, decide_true] at hEz
    have HE : As (∀ E, E = digB 4294967296 s.natAbs → ((E.length : Int) == 0) = true) := ⟨fun E e => hEz.out E (by rw [e, h0])⟩
    clear h0 hEz hr
    go_enter Tryd.func34, Tryd.ntmps34
    go_wp2_with (first
      | ((with_reducible refine g_dst 2 ?_); go_must (refine ev_box 2 rfl (cs := [.bool n1, .slice A l.length c]) (by rfl) ?_); intro g2 w2 hb2 B2 hg2)
      | ((with_reducible refine g_dst 3 ?_); go_must (refine ev_box 3 rfl (cs := [.bool n2, .slice A2 m.length c2]) (by rfl) ?_); intro g3 w3 hb3 B3 hg3; replace B2 := B2.below hb3; have C2 := B2.cells; have C3 := B3.cells; replace hb3 := bthen hb2 hb3)
      | (go_at_call 30; (with_reducible refine (HS.out _ hb3).mono ?_); rintro e w5 ⟨v5, rfl, ht5, hb5⟩; obtain ⟨A5, c5, E5, rfl, o5, HE5, h51⟩ := told_sl ht5; clear ht5 C2 C3; have hz5 := HE.out E5 HE5.out; replace hb5 := bthen hb3 hb5)
      | ((with_reducible refine g_dst 5 ?_); go_must (refine ev_alloc 5 rfl infoNum (cs := [.bool false, .slice none 0 0]) rfl ?_); intro g5 w6 hb6 B5 hg5; replace hg5 := Nat.le_trans hb5.size hg5; replace hb6 := bthen hb5 hb6)
      | ((with_reducible refine g_store 5 ?_); go_must (refine ev_store rfl rfl B5 (news := [.bool (decide (s < 0)), .slice A5 E5.length c5]) (by rfl) infoNum (by simp) (by simp [Value.oneCell']) ?_); intro w7 ho7 B7; simp only [List.take_zero, List.nil_append, List.length_cons, List.length_nil, List.drop_succ_cons, List.drop_zero, List.append_nil, List.cons_append] at B7; have C7 := B7.cells; have hb7 := hb6.trans (ho7.below hg5)))
    go_ret
    exact ⟨_, rfl, by rw [HR.out]; rfl, hb7⟩
  · have HE : As (∀ E, E = digB 4294967296 s.natAbs → ((E.length : Int) == 0) = false) := ⟨fun E e => by rw [hEz.out E e]; exact decide_eq_false h0⟩
    obtain ⟨sb, hsb⟩ : ∃ sb, sb = decide (s < 0) := ⟨_, rfl⟩
    have Hsb := As.mk hsb
    cases sb with
    | true =>
      have HR : As (r = -1) := ⟨by rw [hr, if_pos (of_decide_eq_true hsb.symm)]⟩
      clear h0 hEz hsb hr
      go_enter Tryd.func34, Tryd.ntmps34
      go_wp2_with (first
        | ((with_reducible refine g_dst 2 ?_); go_must (refine ev_box 2 rfl (cs := [.bool n1, .slice A l.length c]) (by rfl) ?_); intro g2 w2 hb2 B2 hg2)
        | ((with_reducible refine g_dst 3 ?_); go_must (refine ev_box 3 rfl (cs := [.bool n2, .slice A2 m.length c2]) (by rfl) ?_); intro g3 w3 hb3 B3 hg3; replace B2 := B2.below hb3; have C2 := B2.cells; have C3 := B3.cells; replace hb3 := bthen hb2 hb3)
        | (go_at_call 30; (with_reducible refine (HS.out _ hb3).mono ?_); rintro e w5 ⟨v5, rfl, ht5, hb5⟩; obtain ⟨A5, c5, E5, rfl, o5, HE5, h51⟩ := told_sl ht5; rw [← Hsb.out]; clear ht5 C2 C3; have hz5 := HE.out E5 HE5.out; replace hb5 := bthen hb3 hb5)
        | ((with_reducible refine g_dst 5 ?_); go_must (refine ev_alloc 5 rfl infoNum (cs := [.bool false, .slice none 0 0]) rfl ?_); intro g5 w6 hb6 B5 hg5; replace hg5 := Nat.le_trans hb5.size hg5; replace hb6 := bthen hb5 hb6)
        | ((with_reducible refine g_store 5 ?_); go_must (refine ev_store rfl rfl B5 (news := [.bool true, .slice A5 E5.length c5]) (by rfl) infoNum (by simp) (by simp [Value.oneCell']) ?_); intro w7 ho7 B7; simp only [List.take_zero, List.nil_append, List.length_cons, List.length_nil, List.drop_succ_cons, List.drop_zero, List.append_nil, List.cons_append] at B7; have C7 := B7.cells; have hb7 := hb6.trans (ho7.below hg5)))
      go_ret
      exact ⟨_, rfl, by rw [HR.out]; rfl, hb7⟩
    | false =>
      have HR : As (r = 1) := ⟨by rw [hr, if_neg (of_decide_eq_false hsb.symm), if_neg h0]⟩
      clear h0 hEz hsb hr
      go_enter Tryd.func34, Tryd.ntmps34
      go_wp2_with (first
        | ((with_reducible refine g_dst 2 ?_); go_must (refine ev_box 2 rfl (cs := [.bool n1, .slice A l.length c]) (by rfl) ?_); intro g2 w2 hb2 B2 hg2)
        | ((with_reducible refine g_dst 3 ?_); go_must (refine ev_box 3 rfl (cs := [.bool n2, .slice A2 m.length c2]) (by rfl) ?_); intro g3 w3 hb3 B3 hg3; replace B2 := B2.below hb3; have C2 := B2.cells; have C3 := B3.cells; replace hb3 := bthen hb2 hb3)
        | (go_at_call 30; (with_reducible refine (HS.out _ hb3).mono ?_); rintro e w5 ⟨v5, rfl, ht5, hb5⟩; obtain ⟨A5, c5, E5, rfl, o5, HE5, h51⟩ := told_sl ht5; rw [← Hsb.out]; clear ht5 C2 C3; have hz5 := HE.out E5 HE5.out; replace hb5 := bthen hb3 hb5)
        | ((with_reducible refine g_dst 5 ?_); go_must (refine ev_alloc 5 rfl infoNum (cs := [.bool false, .slice none 0 0]) rfl ?_); intro g5 w6 hb6 B5 hg5; replace hg5 := Nat.le_trans hb5.size hg5; replace hb6 := bthen hb5 hb6)
        | ((with_reducible refine g_store 5 ?_); go_must (refine ev_store rfl rfl B5 (news := [.bool false, .slice A5 E5.length c5]) (by rfl) infoNum (by simp) (by simp [Value.oneCell']) ?_); intro w7 ho7 B7; simp only [List.take_zero, List.nil_append, List.length_cons, List.length_nil, List.drop_succ_cons, List.drop_zero, List.append_nil, List.cons_append] at B7; have C7 := B7.cells; have hb7 := hb6.trans (ho7.below hg5)))
      go_ret
      exact ⟨_, rfl, by rw [HR.out]; rfl, hb7⟩
end Go.Proofs.YtigoofeodbbbhaaDoor
