/- num.Neg, Sub, Cmp; tandemref02.Sub, Cmp. -/
import Derived.Test.YtigoofeodbbbhaaDoorNum6
namespace Go.Proofs.YtigoofeodbbbhaaDoor
open Go.RowKit Go.Proofs.YtigoofeodbbbhaaDoorL Go.Proofs.YtigoofeodbbbhaaDoorM
set_option linter.unusedVariables false
set_option linter.unusedSimpArgs false
set_option maxHeartbeats 1000000 in
theorem numNeg_any (l : List Nat) (neg : Bool) (A : Option Addr) (c : Nat) (w : World) (h : Lim w A c l) :
    Calls Tryd.prog 31 #[.agg #[.bool neg, .slice A l.length c]] w (Gives w fun r w' => Told w.heap.size w' r (- sval neg (valB 4294967296 l))) := by
  obtain ⟨nn, hnn⟩ : ∃ nn, nn = !neg := ⟨_, rfl⟩
  have HT := As.mk (fun (w1 : World) (hb : Below w.heap.size w w1) => told_any l nn A c w1 (h.below hb))
  rw [show sval nn (valB 4294967296 l) = - sval neg (valB 4294967296 l) by rw [hnn]; exact sval_not _ _] at HT
  have e1 : (!neg) = nn := hnn.symm
  obtain ⟨z, hz⟩ : ∃ z, z = - sval neg (valB 4294967296 l) := ⟨_, rfl⟩
  rw [← hz] at HT ⊢
  clear hnn hz
  go_enter Tryd.func31, Tryd.ntmps31
  go_wp2_with (first
    | ((with_reducible refine g_dst 1 ?_); go_must (refine ev_box 1 rfl (cs := [.bool neg, .slice A l.length c]) (by rfl) ?_); intro g1 w1 hb1 B1 hg1)
    | ((with_reducible refine g_dst 2 ?_); go_must (refine ev_alloc 2 rfl infoNum (cs := [.bool false, .slice none 0 0]) rfl ?_); intro g2 w2 hb2 B2 hg2; replace B1 := B1.below hb2; have C1 := B1.cells; replace hg2 := Nat.le_trans hb1.size hg2; replace hb2 := bthen hb1 hb2)
    | (go_at_call 47; (with_reducible refine (numOf_any _ _ _ _ _).mono ?_); rintro e w3 ⟨v3, rfl, rfl, hb3⟩; replace B2 := B2.below hb3; clear C1; replace hb3 := bthen hb2 hb3)
    | ((with_reducible refine g_dst 3 ?_); go_must (refine ev_alloc 3 rfl infoNm (cs := [.slice none 0 0, .bool false]) rfl ?_); intro g3 w4 hb4 B3 hg3; have hne : g2 ≠ g3 := Nat.ne_of_lt (Nat.lt_of_lt_of_le B2.lt hg3); replace B2 := B2.below hb4; replace hg3 := Nat.le_trans hb3.size hg3; replace hb4 := bthen hb3 hb4)
    | ((with_reducible refine g_store 3 ?_); go_must (refine ev_store rfl rfl B3 (news := [.slice A l.length c, .bool neg]) (by rfl) infoNm (by simp) (by simp [Value.oneCell']) ?_); intro w5 ho5 B35; simp only [List.take_zero, List.nil_append, List.length_cons, List.length_nil, List.drop_succ_cons, List.drop_zero, List.append_nil, List.cons_append] at B35; replace B2 := B2.only ho5 hne; have hb5 := hb4.trans (ho5.below hg3); have C3 := B35.cells)
    | ((with_reducible refine g_store 9 ?_); go_must (refine ev_store rfl rfl B35 (news := [.bool nn]) (by rfl) infoBl (by simp) (by simp [Value.oneCell']) ?_); intro w6 ho6 B36; simp only [List.take_succ_cons, List.take_zero, List.length_singleton, List.length_cons, List.length_nil, List.drop_succ_cons, List.drop_zero, List.drop_nil, List.cons_append, List.nil_append, List.append_nil] at B36; replace B2 := B2.only ho6 hne; have hb6 := hb5.trans (ho6.below hg3); clear C3; have C3 := B36.cells)
    | (go_at_call 48; (with_reducible refine (HT.out _ hb6).mono ?_); rintro e w7 ⟨v7, rfl, ht7, hb7⟩; obtain ⟨m, rfl, ho7, h17⟩ := told_one ht7; have hgl := B2.lt; replace B2 := B2.below hb7; have hb67 := bthen hb6 hb7)
    | ((with_reducible refine g_store 2 ?_); go_must (refine ev_store rfl rfl B2 (news := [.bool (decide (z < 0)), m]) (by rfl) infoNum (by simp) h17 ?_); intro w8 ho8 B8; simp only [List.take_zero, List.nil_append, List.length_cons, List.length_nil, List.drop_succ_cons, List.drop_zero, List.append_nil, List.cons_append] at B8))
  refine bodyPost_ret (results_cell_row rfl _ _ g2 26 #[.bool (decide (z < 0)), m] (0, 0) _ rfl B8.h Tryd.underlying26 rfl (by kernel_rfl)) rfl ?_
  exact ⟨_, rfl, ⟨m, rfl, ow_only ho7 ho8 hgl hb6.size⟩, hb67.trans (ho8.below hg2)⟩
theorem two_limN' {w : World} {x y : LN} (h : LimN w x) (k : LimN w y) : ∀ z ∈ [x, y], LimN w z := fun z hz => by
  simp only [List.mem_cons, List.not_mem_nil, or_false] at hz
  rcases hz with rfl | rfl
  · exact h
  · exact k
theorem two_len' {K : Nat} {x y : LN} (h : x.mag.length ≤ K) (k : y.mag.length ≤ K) : ∀ z ∈ [x, y], z.mag.length ≤ K := fun z hz => by
  simp only [List.mem_cons, List.not_mem_nil, or_false] at hz
  rcases hz with rfl | rfl
  · exact h
  · exact k
/-- Add of two, told by what they read as -/
theorem add2_any (l m : List Nat) (n1 n2 : Bool) (A A2 : Option Addr) (c c2 : Nat) (w : World) (g : Nat) (B : Rd encN 2 w (some ⟨g, 0, none⟩) [⟨n1, A, c, l⟩, ⟨n2, A2, c2, m⟩]) (h : Lim w A c l) (h2 : Lim w A2 c2 m) (hl : l.length ≤ 274877906942) (hm : m.length ≤ 274877906942) :
    Calls Tryd.prog 16 #[.slice (some ⟨g, 0, none⟩) 2 2] w (Gives w fun v w' => Told w.heap.size w' v (sval n1 (valB 4294967296 l) + sval n2 (valB 4294967296 m))) := by
  have := numAddAll_any [⟨n1, A, c, l⟩, ⟨n2, A2, c2, m⟩] 2 rfl (some ⟨g, 0, none⟩) 2 w B (Nat.le_refl _) (two_limN' h h2) 274877906942 (two_len' hl hm) (by omega) (by omega)
  rw [show sumZ (List.map zN [⟨n1, A, c, l⟩, ⟨n2, A2, c2, m⟩]) = sval n1 (valB 4294967296 l) + sval n2 (valB 4294967296 m) by simp only [List.map_cons, List.map_nil, sumZ, zN]; omega] at this
  exact this
set_option maxRecDepth 8000 in
set_option maxHeartbeats 1000000 in
theorem numSub_any (l m : List Nat) (n1 n2 : Bool) (A A2 : Option Addr) (c c2 : Nat) (w : World) (h : Lim w A c l) (h2 : Lim w A2 c2 m) (hl : l.length ≤ 274877906942) (hm : m.length ≤ 274877906942) :
    Calls Tryd.prog 29 #[.agg #[.bool n1, .slice A l.length c], .agg #[.bool n2, .slice A2 m.length c2]] w (Gives w fun r w' => Told w.heap.size w' r (sval n1 (valB 4294967296 l) - sval n2 (valB 4294967296 m))) := by
  have HN := As.mk (fun w1 (hb : Below w.heap.size w w1) => numNeg_any m n2 A2 c2 w1 (h2.below hb))
  have hnl := (Sm.of n2 m h2.lt).neg.len
  obtain ⟨y, hy⟩ : ∃ y, y = sval n1 (valB 4294967296 l) := ⟨_, rfl⟩
  obtain ⟨z, hz⟩ : ∃ z, z = - sval n2 (valB 4294967296 m) := ⟨_, rfl⟩
  rw [← hz] at HN hnl
  have hE : ∀ E, E = digB 4294967296 z.natAbs → E.length ≤ 274877906942 := fun E e => by rw [e]; omega
  obtain ⟨s, hs⟩ : ∃ s, s = sval n1 (valB 4294967296 l) - sval n2 (valB 4294967296 m) := ⟨_, rfl⟩
  rw [← hs]
  have HA := As.mk (fun (W : World) A3 c3 E g (e : E = digB 4294967296 z.natAbs) (B : Rd encN 2 W (some ⟨g, 0, none⟩) [⟨n1, A, c, l⟩, ⟨decide (z < 0), A3, c3, E⟩]) (h1 : Lim W A c l) (h3 : Lim W A3 c3 E) => add2_any l E n1 (decide (z < 0)) A A3 c c3 W g B h1 h3 hl (hE E e))
  have HA2 : As (∀ (W : World) A3 c3 E g (e : E = digB 4294967296 z.natAbs) (B : Rd encN 2 W (some ⟨g, 0, none⟩) [⟨n1, A, c, l⟩, ⟨decide (z < 0), A3, c3, E⟩]) (h1 : Lim W A c l) (h3 : Lim W A3 c3 E), Calls Tryd.prog 16 #[.slice (some ⟨g, 0, none⟩) 2 2] W (Gives W fun v w' => Told W.heap.size w' v s)) := ⟨fun W A3 c3 E g e B h1 h3 => by
    have := HA.out W A3 c3 E g e B h1 h3
    rw [show sval n1 (valB 4294967296 l) + sval (decide (z < 0)) (valB 4294967296 E) = s by rw [e, digB_val _ (by omega), sval_of, hz, hs]; omega] at this
    exact this⟩
  have HEE := As.mk hE
  clear hy hz hs hE HA hnl
  go_enter Tryd.func29, Tryd.ntmps29
  go_wp2_with (first
    | ((with_reducible refine g_dst 2 ?_); go_must (refine ev_box 2 rfl (cs := [.bool n1, .slice A l.length c]) (by rfl) ?_); intro g2 w2 hb2 B2 hg2)
    | ((with_reducible refine g_dst 3 ?_); go_must (refine ev_box 3 rfl (cs := [.bool n2, .slice A2 m.length c2]) (by rfl) ?_); intro g3 w3 hb3 B3 hg3; replace B2 := B2.below hb3; replace hb3 := bthen hb2 hb3)
    | ((with_reducible refine g_dst 4 ?_); go_must (refine ev_alloc 4 rfl infoNum (cs := [.bool false, .slice none 0 0]) rfl ?_); intro g4 w4 hb4 B4 hg4; have hne2 : g2 ≠ g4 := Nat.ne_of_lt (Nat.lt_of_lt_of_le B2.lt hg4); have hne3 : g3 ≠ g4 := Nat.ne_of_lt (Nat.lt_of_lt_of_le B3.lt hg4); replace B2 := B2.below hb4; replace B3 := B3.below hb4; replace hg4 := Nat.le_trans hb3.size hg4; replace hb4 := bthen hb3 hb4))
  have hS : ∀ W, Blk W g2 [.bool n1, .slice A l.length c] 26 → Blk W g3 [.bool n2, .slice A2 m.length c2] 26 → W.cell? ⟨g2, 0, none⟩ = some (.bool n1) ∧ W.cell? ⟨g2, 1, none⟩ = some (.slice A l.length c) ∧ W.cell? ⟨g3, 0, none⟩ = some (.bool n2) ∧ W.cell? ⟨g3, 1, none⟩ = some (.slice A2 m.length c2) := fun W b1 b2 => ⟨b1.cells 0, b1.cells 1, b2.cells 0, b2.cells 1⟩
  have hd := (Below.refl w4.heap.size w4).drew
  have hS0 := hS _ (B2.below hd) (B3.below hd)
  have HS := As.mk hS
  have hgl := B4.lt
  clear hS
  refine wp_gen (fun Q7 hQ7 => ?_)
  go_region_held3 (fun W => W.cell? ⟨g2, 0, none⟩ = some (.bool n1) ∧ W.cell? ⟨g2, 1, none⟩ = some (.slice A l.length c) ∧ W.cell? ⟨g3, 0, none⟩ = some (.bool n2) ∧ W.cell? ⟨g3, 1, none⟩ = some (.slice A2 m.length c2)) (first | assumption | (with_reducible exact HS.out _ (B2.below hb5) (B3.below hb5)) | (with_reducible exact HS.out _ (B2.below (HbA.out _)) (B3.below (HbA.out _))) | (with_reducible exact HS.out _ (B2.below hb7) (B3.below hb7)) | (with_reducible exact HSk.out _ _)) (first
    | (go_at_call 31; (with_reducible refine (HN.out _ (bthen hb4 hd)).mono ?_); rintro e w5 ⟨v5, rfl, ht5, hb5⟩; obtain ⟨A5, c5, E5, rfl, o5, HE5, h51⟩ := told_sl ht5; clear ht5; replace hb5 := bthen hd hb5; have HbA := As.mk (fun o => bthen hb5 ((Below.refl w5.heap.size w5).alloc (Nat.le_refl _) o)); have hl5 : Lim w5 A5 c5 E5 := ⟨o5.rd lenU, (by rw [HE5.out]; exact digB_lt _ (by omega) _), h51, o5.none, Nat.le_trans (HEE.out E5 HE5.out) (by omega)⟩; have hlA := h.below (bthen hb4 hb5))
    | (go_at_call 16; (refine (HA2.out _ A5 c5 E5 _ HE5.out ((Blk.new w5 [.bool n1, .slice A l.length c, .bool (decide (z < 0)), .slice A5 E5.length c5] 26).rd (l := [⟨n1, A, c, l⟩, ⟨decide (z < 0), A5, c5, E5⟩]) lenN rfl) (hlA.below ((Below.refl w5.heap.size w5).alloc (Nat.le_refl _) _)) (hl5.below ((Below.refl w5.heap.size w5).alloc (Nat.le_refl _) _))).mono ?_); rintro e w7 ⟨v7, rfl, ht7, hb7⟩; obtain ⟨A7, c7, E7, rfl, o7, HE7, h71⟩ := told_sl ht7; clear ht7; replace o7 := o7.lower (HbA.out _).size; replace hb7 := bthen (HbA.out _) hb7; have B47 := B4.below hb7; have C4 := B47.cells; have F4 := B47.free; have HSk := As.mk (fun v u => HS.out _ ((B2.below hb7).only (set2_gen B47 v u).1 hne2) ((B3.below hb7).only (set2_gen B47 v u).1 hne3))))
  obtain ⟨ho8, B8⟩ := set2_gen B47 (.bool (decide (s < 0))) (.slice A7 E7.length c7)
  generalize (w7.setCell ⟨g4, 0, none⟩ (.bool (decide (s < 0)))).setCell ⟨g4, 1, none⟩ (.slice A7 E7.length c7) = w8 at ho8 B8 ⊢
  obtain ⟨rfl⟩ := hQ7
  go_wp2
  refine bodyPost_ret (results_cell_row rfl _ _ g4 26 #[.bool (decide (s < 0)), .slice A7 E7.length c7] (0, 0) _ rfl B8.h Tryd.underlying26 rfl (by kernel_rfl)) rfl ?_
  refine ⟨_, rfl, ⟨.slice A7 E7.length c7, rfl, ?_⟩, (bthen hb4 hb7).trans (ho8.below hg4)⟩
  rw [← HE7.out]
  exact ow_only o7 ho8 hgl hb4.size
theorem sgn_of (z : Int) : sgn (decide (z < 0)) z.natAbs = if z < 0 then -1 else if z = 0 then 0 else 1 := by
  unfold sgn
  by_cases h : z < 0
  · simp [h]; omega
  · by_cases h0 : z = 0
    · simp [h0]
    · simp [h, h0]
/-- -1, 0, 1 -/
def cmpZ (y z : Int) : Int := if y - z < 0 then -1 else if y - z = 0 then 0 else 1
set_option maxHeartbeats 1000000 in
theorem numCmp_any (l m : List Nat) (n1 n2 : Bool) (A A2 : Option Addr) (c c2 : Nat) (w : World) (h : Lim w A c l) (h2 : Lim w A2 c2 m) (hl : l.length ≤ 274877906942) (hm : m.length ≤ 274877906942) :
    Calls Tryd.prog 33 #[.agg #[.bool n1, .slice A l.length c], .agg #[.bool n2, .slice A2 m.length c2]] w (Gives w fun r w' => r = .int .i64 (cmpZ (sval n1 (valB 4294967296 l)) (sval n2 (valB 4294967296 m)))) := by
  have HS := As.mk (fun w1 (hb : Below w.heap.size w w1) => numSub_any l m n1 n2 A A2 c c2 w1 (h.below hb) (h2.below hb) hl hm)
  have h1 := Sm.of n1 l h.lt
  have h3 := (Sm.of n2 m h2.lt).neg
  have hs3 := ((h1.mono (Nat.le_max_left l.length m.length)).add (h3.mono (Nat.le_max_right l.length m.length))).len
  obtain ⟨s, hs⟩ : ∃ s, s = sval n1 (valB 4294967296 l) - sval n2 (valB 4294967296 m) := ⟨_, rfl⟩
  have hcz : cmpZ (sval n1 (valB 4294967296 l)) (sval n2 (valB 4294967296 m)) = sgn (decide (s < 0)) s.natAbs := by rw [sgn_of, cmpZ, ← hs]
  rw [← hs] at HS
  rw [hcz]
  rw [← Int.sub_eq_add_neg, ← hs] at hs3
  have HE := As.mk (fun E (e : E = digB 4294967296 s.natAbs) => show E.length ≤ 274877906944 by rw [e]; omega)
  obtain ⟨r, hr⟩ : ∃ r, r = sgn (decide (s < 0)) s.natAbs := ⟨_, rfl⟩
  rw [← hr]
  have Hr := As.mk hr
  clear hcz hs hs3 h1 h3 hr
  go_enter Tryd.func33, Tryd.ntmps33
  go_wp2_with (first
    | ((with_reducible refine g_dst 2 ?_); go_must (refine ev_box 2 rfl (cs := [.bool n1, .slice A l.length c]) (by rfl) ?_); intro g2 w2 hb2 B2 hg2)
    | ((with_reducible refine g_dst 3 ?_); go_must (refine ev_box 3 rfl (cs := [.bool n2, .slice A2 m.length c2]) (by rfl) ?_); intro g3 w3 hb3 B3 hg3; replace B2 := B2.below hb3; have C2 := B2.cells; have C3 := B3.cells; replace hb3 := bthen hb2 hb3)
    | (go_at_call 29; (with_reducible refine (HS.out _ hb3).mono ?_); rintro e w5 ⟨v5, rfl, ht5, hb5⟩; obtain ⟨A5, c5, E5, rfl, o5, HE5, h51⟩ := told_sl ht5; clear ht5 C2 C3; replace hb5 := bthen hb3 hb5)
    | (go_at_call 47; (with_reducible refine (numOf_any _ _ _ _ _).mono ?_); rintro e w6 ⟨v6, rfl, rfl, hb6⟩; replace o5 := o5.below hb6; have hl6 : Lim w6 A5 c5 E5 := ⟨o5.rd lenU, (by rw [HE5.out]; exact digB_lt _ (by omega) _), h51, o5.none, HE.out E5 HE5.out⟩; have Hsg := As.mk (sign_any E5 (decide (s < 0)) A5 c5 w6 hl6); rw [HE5.out, digB_val _ (by omega), ← Hr.out, ← HE5.out] at Hsg; replace hb6 := bthen hb5 hb6)
    | (go_at_call 57; (with_reducible refine Hsg.out.mono ?_); rintro e w7 ⟨v7, rfl, rfl, hb7⟩))
  go_ret
  exact ⟨_, rfl, rfl, bthen hb6 hb7⟩
end Go.Proofs.YtigoofeodbbbhaaDoor
