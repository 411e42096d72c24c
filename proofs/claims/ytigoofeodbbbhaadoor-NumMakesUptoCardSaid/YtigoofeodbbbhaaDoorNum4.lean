/- Package num: add and mul of two, Of; tandemref02: Int, plus, Neg. -/
import Derived.Test.YtigoofeodbbbhaaDoorNum3
import Derived.Test.YtigoofeodbbbhaaDoorRef5
namespace Go.Proofs.YtigoofeodbbbhaaDoor
open Go.RowKit Go.Proofs.YtigoofeodbbbhaaDoorL Go.Proofs.YtigoofeodbbbhaaDoorM
set_option linter.unusedVariables false
set_option linter.unusedSimpArgs false
theorem told_mk {base : Nat} {w : World} {m : Value} {neg : Bool} {V : Nat} (h : Ow encU 1 62 base w m (digB 4294967296 V)) : Told base w (.agg #[.bool (neg && decide (0 < V)), m]) (sval neg V) := by
  refine ⟨m, by rw [sval_lt], ?_⟩
  rw [sval_abs]; exact h
set_option maxHeartbeats 1000000 in
theorem addSame_any (l m : List Nat) (nb : Bool) (A A2 : Option Addr) (c c2 : Nat) (w : World) (h : Lim w A c l) (h2 : Lim w A2 c2 m) :
    Calls Tryd.prog 46 #[.agg #[.slice A l.length c, .bool nb], .agg #[.slice A2 m.length c2, .bool nb]] w (Gives w fun v w' => NumO w.heap.size w' v (sval nb (valB 4294967296 l) + sval nb (valB 4294967296 m))) := by
  have HA := As.mk (fun w1 (hb : Below w.heap.size w w1) => natAdd_any l m l.length m.length 0 rfl rfl [] rfl A A2 none c c2 0 w1 (h.below hb) (h2.below hb) (Rd.nil _ _ _ _) (fun s hs => (nomatch hs)) (Nat.le_refl _) (by omega))
  obtain ⟨V, hV⟩ : ∃ V, V = valB 4294967296 l + valB 4294967296 m := ⟨_, rfl⟩
  have HZ : As (sval nb V = sval nb (valB 4294967296 l) + sval nb (valB 4294967296 m)) := ⟨by rw [hV]; exact sval_same _ _ _⟩
  simp only [List.map_nil, sumV, Nat.add_zero, ← hV] at HA
  obtain ⟨L, hL⟩ : ∃ L, L = digB 4294967296 V := ⟨_, rfl⟩
  rw [← hL] at HA
  have HL := As.mk hL
  clear hV hL
  go_enter Tryd.func46, Tryd.ntmps46
  go_wp2_with (first
    | ((with_reducible refine g_dst 2 ?_); go_must (refine ev_box 2 rfl (cs := [.slice A l.length c, .bool nb]) (by rfl) ?_); intro g2 w2 hb2 B2 hg2)
    | ((with_reducible refine g_dst 3 ?_); go_must (refine ev_box 3 rfl (cs := [.slice A2 m.length c2, .bool nb]) (by rfl) ?_); intro g3 w3 hb3 B3 hg3; replace B2 := B2.below hb3; replace hb3 := bthen hb2 hb3)
    | ((with_reducible refine g_dst 4 ?_); go_must (refine ev_alloc 4 rfl infoNm (cs := [.slice none 0 0, .bool false]) rfl ?_); intro g4 w4 hb4 B4 hg4; have hne2 : g2 ≠ g4 := Nat.ne_of_lt (Nat.lt_of_lt_of_le B2.lt hg4); have hne3 : g3 ≠ g4 := Nat.ne_of_lt (Nat.lt_of_lt_of_le B3.lt hg4); replace B2 := B2.below hb4; replace B3 := B3.below hb4; replace hg4 := Nat.le_trans hb3.size hg4; replace hb4 := bthen hb3 hb4; have C2 := B2.cells; have C3 := B3.cells))
  clear C2 C3
  have hS : ∀ W, Blk W g2 [.slice A l.length c, .bool nb] 52 → Blk W g3 [.slice A2 m.length c2, .bool nb] 52 → W.cell? ⟨g2, 0, none⟩ = some (.slice A l.length c) ∧ W.cell? ⟨g2, 1, none⟩ = some (.bool nb) ∧ W.cell? ⟨g3, 0, none⟩ = some (.slice A2 m.length c2) := fun W b1 b2 => ⟨b1.cells 0, b1.cells 1, b2.cells 0⟩
  have hd := (Below.refl w4.heap.size w4).drew
  have hS0 := hS _ (B2.below hd) (B3.below hd)
  have hgl := B4.lt
  refine wp_gen (fun Q7 hQ7 => ?_)
  go_region_held3 (fun W => W.cell? ⟨g2, 0, none⟩ = some (.slice A l.length c) ∧ W.cell? ⟨g2, 1, none⟩ = some (.bool nb) ∧ W.cell? ⟨g3, 0, none⟩ = some (.slice A2 m.length c2)) (first | assumption | exact hS _ (B2.below hb5) (B3.below hb5) | exact hSk _ _) (first
    | (go_at_call 68; (with_reducible refine (HA.out _ (bthen hb4 hd)).mono ?_); rintro e w5 ⟨v5, rfl, ho5, hb5⟩; replace hb5 := bthen hd hb5; replace B4 := B4.below hb5; have C4 := B4.cells; have F4 := B4.free; have hSk := fun v u => hS _ ((B2.below hb5).only (set2_gen B4 v u).1 hne2) ((B3.below hb5).only (set2_gen B4 v u).1 hne3); obtain ⟨A5, c5, rfl, h51, h52⟩ := ho5.form))
  obtain ⟨ho6, B6⟩ := set2_gen B4 (.slice A5 L.length c5) (.bool nb)
  generalize (w5.setCell ⟨g4, 0, none⟩ (.slice A5 L.length c5)).setCell ⟨g4, 1, none⟩ (.bool nb) = w6 at ho6 B6 ⊢
  obtain ⟨rfl⟩ := hQ7
  go_wp2
  refine bodyPost_ret (results_cell_row rfl _ _ g4 52 #[.slice A5 L.length c5, .bool nb] (0, 0) _ rfl B6.h Tryd.underlying52 rfl (by kernel_rfl)) rfl ?_
  refine ⟨_, rfl, ⟨.slice A5 L.length c5, nb, V, rfl, ?_, HZ.out⟩, (bthen hb4 hb5).trans (ho6.below hg4)⟩
  rw [← HL.out]
  exact ow_only ho5 ho6 hgl hb4.size
set_option maxHeartbeats 1000000 in
theorem addApart_any (l m : List Nat) (n1 n2 : Bool) (hne : n1 ≠ n2) (A A2 : Option Addr) (c c2 : Nat) (w : World) (h : Lim w A c l) (h2 : Lim w A2 c2 m) :
    Calls Tryd.prog 46 #[.agg #[.slice A l.length c, .bool n1], .agg #[.slice A2 m.length c2, .bool n2]] w (Gives w fun v w' => NumO w.heap.size w' v (sval n1 (valB 4294967296 l) + sval n2 (valB 4294967296 m))) := by
  have hcmp := fun w1 (hb : Below w.heap.size w w1) => scmp_any l m A A2 c c2 w1 (h.below hb) (h2.below hb)
  have HS := As.mk (fun w1 (hb : Below w.heap.size w w1) => natSub_any l m A A2 c c2 w1 (h.rd.below hb) (h2.rd.below hb) ⟨h.lt, h2.lt⟩ h.cap h2.cap (Nat.le_trans h.max (by omega)) (Nat.le_trans h2.max (by omega)))
  have HS2 := As.mk (fun w1 (hb : Below w.heap.size w w1) => natSub_any m l A2 A c2 c w1 (h2.rd.below hb) (h.rd.below hb) ⟨h2.lt, h.lt⟩ h2.cap h.cap (Nat.le_trans h2.max (by omega)) (Nat.le_trans h.max (by omega)))
  obtain ⟨V, hV⟩ : ∃ V, V = valB 4294967296 l := ⟨_, rfl⟩
  obtain ⟨U, hU⟩ : ∃ U, U = valB 4294967296 m := ⟨_, rfl⟩
  rw [← hV, ← hU]
  simp only [← hV, ← hU] at hcmp HS HS2
  have q1 : (n1 == n2) = false := by cases n1 <;> cases n2 <;> simp_all
  have q2 : decide (n1 = n2) = false := by simp [hne]
  clear hV hU
  by_cases hlt : V < U
  · rw [cmpN_lt hlt] at hcmp
    have HC := As.mk hcmp
    have Hle : As (V ≤ U) := ⟨by omega⟩
    have HZ : As (sval n2 (U - V) = sval n1 V + sval n2 U) := ⟨by rw [sval_apart n2 n1 U V (Ne.symm hne) (by omega), Int.add_comm]⟩
    clear hne hlt hcmp
    go_enter Tryd.func46, Tryd.ntmps46
    go_wp2_with (first
      | ((with_reducible refine g_dst 2 ?_); go_must (refine ev_box 2 rfl (cs := [.slice A l.length c, .bool n1]) (by rfl) ?_); intro g2 w2 hb2 B2 hg2)
      | ((with_reducible refine g_dst 3 ?_); go_must (refine ev_box 3 rfl (cs := [.slice A2 m.length c2, .bool n2]) (by rfl) ?_); intro g3 w3 hb3 B3 hg3; have hne23 : g2 ≠ g3 := Nat.ne_of_lt (Nat.lt_of_lt_of_le B2.lt hg3); replace B2 := B2.below hb3; replace hg3 := Nat.le_trans hb2.size hg3; replace hb3 := bthen hb2 hb3)
      | ((with_reducible refine g_dst 4 ?_); go_must (refine ev_alloc 4 rfl infoNm (cs := [.slice none 0 0, .bool false]) rfl ?_); intro g4 w4 hb4 B4 hg4; have hne2 : g4 ≠ g2 := Nat.ne_of_gt (Nat.lt_of_lt_of_le B2.lt hg4); have hne3 : g4 ≠ g3 := Nat.ne_of_gt (Nat.lt_of_lt_of_le B3.lt hg4); replace B2 := B2.below hb4; replace B3 := B3.below hb4; replace hg4 := Nat.le_trans hb3.size hg4; replace hb4 := bthen hb3 hb4; have C2 := B2.cells; have C3 := B3.cells)
      | (go_at_call 69; (with_reducible refine (HC.out _ hb4).mono ?_); rintro e w5 ⟨v5, rfl, rfl, hb5⟩; replace B2 := B2.below hb5; replace B3 := B3.below hb5; replace B4 := B4.below hb5; clear C2 C3; have C2 := B2.cells; have C3 := B3.cells; replace hb5 := bthen hb4 hb5)
      | ((with_reducible refine g_store 2 ?_); go_must (refine ev_store rfl rfl B2 (news := [.slice A2 m.length c2, .bool n2]) (by rfl) infoNm (by simp) (by simp [Value.oneCell']) ?_); intro w6 ho6 B6; simp only [List.take_zero, List.nil_append, List.length_cons, List.length_nil, List.drop_succ_cons, List.drop_zero, List.append_nil, List.cons_append] at B6; have B36 := B3.only ho6 (Ne.symm hne23); have B46 := B4.only ho6 hne2; have hb6 := hb5.trans (ho6.below hg2); clear C2 C3)
      | ((with_reducible refine g_store 3 ?_); go_must (refine ev_store rfl rfl B36 (news := [.slice A l.length c, .bool n1]) (by rfl) infoNm (by simp) (by simp [Value.oneCell']) ?_); intro w7 ho7 B7; simp only [List.take_zero, List.nil_append, List.length_cons, List.length_nil, List.drop_succ_cons, List.drop_zero, List.append_nil, List.cons_append] at B7; have B27 := B6.only ho7 hne23; have B47 := B46.only ho7 hne3; have hb7 := hb6.trans (ho7.below hg3); have C2 := B27.cells; have C3 := B7.cells)
      | (go_at_call 70; (with_reducible refine (HS2.out _ hb7).mono ?_); rintro e w8 ⟨v8, rfl, ⟨_, hq⟩, hb8⟩; obtain ⟨q, rfl, ho8⟩ := hq Hle.out; have hgl := B47.lt; have B28 := B27.below hb8; have B48 := B47.below hb8; clear C2 C3; have C2 := B28.cells; replace hb8 := bthen hb7 hb8; obtain ⟨A8, c8, rfl, h81, h82⟩ := ho8.form)
      | ((with_reducible refine g_store 4 ?_); go_must (refine ev_store rfl rfl B48 (news := [.slice A8 (digB 4294967296 (U - V)).length c8, .bool n2]) (by rfl) infoNm (by simp) (by simp [Value.oneCell']) ?_); intro w9 ho9 B9; simp only [List.take_zero, List.nil_append, List.length_cons, List.length_nil, List.drop_succ_cons, List.drop_zero, List.append_nil, List.cons_append] at B9))
    refine bodyPost_ret (results_cell_row rfl _ _ g4 52 #[.slice A8 (digB 4294967296 (U - V)).length c8, .bool n2] (0, 0) _ rfl B9.h Tryd.underlying52 rfl (by kernel_rfl)) rfl ?_
    exact ⟨_, rfl, ⟨_, n2, U - V, rfl, ow_only ho8 ho9 hgl hb7.size, HZ.out⟩, hb8.trans (ho9.below hg4)⟩
  · have hge : decide (cmpN V U < 0) = false := by
      rw [decide_eq_false_iff_not]
      rcases Nat.lt_or_ge U V with h | h
      · rw [cmpN_gt h]; omega
      · rw [cmpN_eq (by omega)]; omega
    obtain ⟨cv, hcv⟩ : ∃ cv, cv = cmpN V U := ⟨_, rfl⟩
    simp only [← hcv] at hcmp hge
    have HC := As.mk hcmp
    have Hle : As (U ≤ V) := ⟨by omega⟩
    have HZ : As (sval n1 (V - U) = sval n1 V + sval n2 U) := ⟨sval_apart n1 n2 V U hne (by omega)⟩
    clear hne hlt hcmp hcv
    go_enter Tryd.func46, Tryd.ntmps46
    go_wp2_with (first
      | ((with_reducible refine g_dst 2 ?_); go_must (refine ev_box 2 rfl (cs := [.slice A l.length c, .bool n1]) (by rfl) ?_); intro g2 w2 hb2 B2 hg2)
      | ((with_reducible refine g_dst 3 ?_); go_must (refine ev_box 3 rfl (cs := [.slice A2 m.length c2, .bool n2]) (by rfl) ?_); intro g3 w3 hb3 B3 hg3; replace B2 := B2.below hb3; replace hb3 := bthen hb2 hb3)
      | ((with_reducible refine g_dst 4 ?_); go_must (refine ev_alloc 4 rfl infoNm (cs := [.slice none 0 0, .bool false]) rfl ?_); intro g4 w4 hb4 B4 hg4; replace B2 := B2.below hb4; replace B3 := B3.below hb4; replace hg4 := Nat.le_trans hb3.size hg4; replace hb4 := bthen hb3 hb4; have C2 := B2.cells; have C3 := B3.cells)
      | (go_at_call 69; (with_reducible refine (HC.out _ hb4).mono ?_); rintro e w5 ⟨v5, rfl, rfl, hb5⟩; replace B2 := B2.below hb5; replace B3 := B3.below hb5; replace B4 := B4.below hb5; clear C2 C3; have C2 := B2.cells; have C3 := B3.cells; replace hb5 := bthen hb4 hb5)
      | (go_at_call 70; (with_reducible refine (HS.out _ hb5).mono ?_); rintro e w8 ⟨v8, rfl, ⟨_, hq⟩, hb8⟩; obtain ⟨q, rfl, ho8⟩ := hq Hle.out; have hgl := B4.lt; replace B2 := B2.below hb8; replace B4 := B4.below hb8; clear C2 C3; have C2 := B2.cells; have hb58 := bthen hb5 hb8; obtain ⟨A8, c8, rfl, h81, h82⟩ := ho8.form)
      | ((with_reducible refine g_store 4 ?_); go_must (refine ev_store rfl rfl B4 (news := [.slice A8 (digB 4294967296 (V - U)).length c8, .bool n1]) (by rfl) infoNm (by simp) (by simp [Value.oneCell']) ?_); intro w9 ho9 B9; simp only [List.take_zero, List.nil_append, List.length_cons, List.length_nil, List.drop_succ_cons, List.drop_zero, List.append_nil, List.cons_append] at B9))
    refine bodyPost_ret (results_cell_row rfl _ _ g4 52 #[.slice A8 (digB 4294967296 (V - U)).length c8, .bool n1] (0, 0) _ rfl B9.h Tryd.underlying52 rfl (by kernel_rfl)) rfl ?_
    exact ⟨_, rfl, ⟨_, n1, V - U, rfl, ow_only ho8 ho9 hgl hb5.size, HZ.out⟩, hb58.trans (ho9.below hg4)⟩
theorem numAdd_any (l m : List Nat) (n1 n2 : Bool) (A A2 : Option Addr) (c c2 : Nat) (w : World) (h : Lim w A c l) (h2 : Lim w A2 c2 m) :
    Calls Tryd.prog 46 #[.agg #[.slice A l.length c, .bool n1], .agg #[.slice A2 m.length c2, .bool n2]] w (Gives w fun v w' => NumO w.heap.size w' v (sval n1 (valB 4294967296 l) + sval n2 (valB 4294967296 m))) := by
  by_cases hne : n1 = n2
  · subst hne; exact addSame_any l m n1 A A2 c c2 w h h2
  · exact addApart_any l m n1 n2 hne A A2 c c2 w h h2
set_option maxHeartbeats 1000000 in
theorem numMul_any (l m : List Nat) (n1 n2 : Bool) (A A2 : Option Addr) (c c2 : Nat) (w : World) (h : Lim w A c l) (h2 : Lim w A2 c2 m) (hlm : l.length + m.length ≤ 274877906944) :
    Calls Tryd.prog 58 #[.agg #[.slice A l.length c, .bool n1], .agg #[.slice A2 m.length c2, .bool n2]] w (Gives w fun v w' => NumO w.heap.size w' v (sval n1 (valB 4294967296 l) * sval n2 (valB 4294967296 m))) := by
  have HA := As.mk (fun w1 (hb : Below w.heap.size w w1) => natMul_any l m l.length m.length 0 rfl rfl [] rfl A A2 none c c2 0 w1 (h.below hb) (h2.below hb) (Rd.nil _ _ _ _) (fun s hs => (nomatch hs)) (Nat.le_refl _) (by omega) (by simpa [lens] using hlm))
  obtain ⟨V, hV⟩ : ∃ V, V = valB 4294967296 l * valB 4294967296 m := ⟨_, rfl⟩
  obtain ⟨nx, hnx⟩ : ∃ nx, nx = (n1 != n2) := ⟨_, rfl⟩
  have HZ : As (sval nx V = sval n1 (valB 4294967296 l) * sval n2 (valB 4294967296 m)) := ⟨by rw [hV, hnx]; exact sval_mul _ _ _ _⟩
  simp only [List.map_nil, prodV, Nat.mul_one, ← hV] at HA
  obtain ⟨L, hL⟩ : ∃ L, L = digB 4294967296 V := ⟨_, rfl⟩
  rw [← hL] at HA
  have HL := As.mk hL
  have e1 : (n1 != n2) = nx := hnx.symm
  have e2 : (!(n1 == n2)) = nx := by rw [hnx]; rfl
  have e3 : (!decide (n1 = n2)) = nx := by rw [hnx]; cases n1 <;> cases n2 <;> rfl
  clear hV hL hnx hlm
  go_enter Tryd.func58, Tryd.ntmps58
  go_wp2_with (first
    | ((with_reducible refine g_dst 2 ?_); go_must (refine ev_box 2 rfl (cs := [.slice A l.length c, .bool n1]) (by rfl) ?_); intro g2 w2 hb2 B2 hg2)
    | ((with_reducible refine g_dst 3 ?_); go_must (refine ev_box 3 rfl (cs := [.slice A2 m.length c2, .bool n2]) (by rfl) ?_); intro g3 w3 hb3 B3 hg3; replace B2 := B2.below hb3; replace hb3 := bthen hb2 hb3)
    | ((with_reducible refine g_dst 4 ?_); go_must (refine ev_alloc 4 rfl infoNm (cs := [.slice none 0 0, .bool false]) rfl ?_); intro g4 w4 hb4 B4 hg4; have hne2 : g2 ≠ g4 := Nat.ne_of_lt (Nat.lt_of_lt_of_le B2.lt hg4); have hne3 : g3 ≠ g4 := Nat.ne_of_lt (Nat.lt_of_lt_of_le B3.lt hg4); replace B2 := B2.below hb4; replace B3 := B3.below hb4; replace hg4 := Nat.le_trans hb3.size hg4; replace hb4 := bthen hb3 hb4))
  have hS : ∀ W, Blk W g2 [.slice A l.length c, .bool n1] 52 → Blk W g3 [.slice A2 m.length c2, .bool n2] 52 → W.cell? ⟨g2, 0, none⟩ = some (.slice A l.length c) ∧ W.cell? ⟨g2, 1, none⟩ = some (.bool n1) ∧ W.cell? ⟨g3, 0, none⟩ = some (.slice A2 m.length c2) ∧ W.cell? ⟨g3, 1, none⟩ = some (.bool n2) := fun W b1 b2 => ⟨b1.cells 0, b1.cells 1, b2.cells 0, b2.cells 1⟩
  have hd := (Below.refl w4.heap.size w4).drew
  have hS0 := hS _ (B2.below hd) (B3.below hd)
  have hgl := B4.lt
  refine wp_gen (fun Q7 hQ7 => ?_)
  go_region_held3 (fun W => W.cell? ⟨g2, 0, none⟩ = some (.slice A l.length c) ∧ W.cell? ⟨g2, 1, none⟩ = some (.bool n1) ∧ W.cell? ⟨g3, 0, none⟩ = some (.slice A2 m.length c2) ∧ W.cell? ⟨g3, 1, none⟩ = some (.bool n2)) (first | assumption | exact hS _ (B2.below hb5) (B3.below hb5) | exact hSk _ _) (first
    | (go_at_call 87; (with_reducible refine (HA.out _ (bthen hb4 hd)).mono ?_); rintro e w5 ⟨v5, rfl, ho5, hb5⟩; replace hb5 := bthen hd hb5; replace B4 := B4.below hb5; have C4 := B4.cells; have F4 := B4.free; have hSk := fun v u => hS _ ((B2.below hb5).only (set2_gen B4 v u).1 hne2) ((B3.below hb5).only (set2_gen B4 v u).1 hne3); obtain ⟨A5, c5, rfl, h51, h52⟩ := ho5.form))
  obtain ⟨ho6, B6⟩ := set2_gen B4 (.slice A5 L.length c5) (.bool nx)
  generalize (w5.setCell ⟨g4, 0, none⟩ (.slice A5 L.length c5)).setCell ⟨g4, 1, none⟩ (.bool nx) = w6 at ho6 B6 ⊢
  obtain ⟨rfl⟩ := hQ7
  go_wp2
  refine bodyPost_ret (results_cell_row rfl _ _ g4 52 #[.slice A5 L.length c5, .bool nx] (0, 0) _ rfl B6.h Tryd.underlying52 rfl (by kernel_rfl)) rfl ?_
  refine ⟨_, rfl, ⟨.slice A5 L.length c5, nx, V, rfl, ?_, HZ.out⟩, (bthen hb4 hb5).trans (ho6.below hg4)⟩
  rw [← HL.out]
  exact ow_only ho5 ho6 hgl hb4.size
theorem two_val (a : Nat) : valB 4294967296 [a % 4294967296, a / 4294967296] = a := by simp only [valB]; have := Nat.mod_add_div a 4294967296; omega
theorem two_lim {w : World} {g a : Nat} {t : TypeId} (B : Blk w g [valU (a % 4294967296), valU (a / 4294967296)] t) (ha : a ≤ 9223372036854775808) : Lim w (some ⟨g, 0, none⟩) 2 [a % 4294967296, a / 4294967296] :=
  ⟨B.rdm (l := [a % 4294967296, a / 4294967296]) encU_one, fun x hx => by
    simp only [List.mem_cons, List.not_mem_nil, or_false] at hx
    omega, Nat.le_refl _, fun h => (nomatch h), by simp⟩
set_option maxHeartbeats 400000 in
theorem numInt_any (v : Int) (w : World) (h1 : -9223372036854775808 ≤ v) (h2 : v ≤ 9223372036854775807) :
    Calls Tryd.prog 27 #[.int .i64 v] w (Gives w fun r w' => Told w.heap.size w' r v) := by
  obtain ⟨a, ha⟩ : ∃ a, a = v.natAbs := ⟨_, rfl⟩
  have hab : a ≤ 9223372036854775808 := by omega
  have HT := As.mk (fun (w1 : World) (g : Nat) (neg : Bool) (hl : Lim w1 (some ⟨g, 0, none⟩) 2 [a % 4294967296, a / 4294967296]) => told_any [a % 4294967296, a / 4294967296] neg _ 2 w1 hl)
  simp only [two_val, List.length_cons, List.length_nil, Nat.reduceAdd] at HT
  have Hl := As.mk (fun (w1 : World) (g : Nat) (t : TypeId) (B : Blk w1 g [valU (a % 4294967296), valU (a / 4294967296)] t) => two_lim B hab)
  obtain ⟨lo, hlo⟩ : ∃ lo, lo = a % 4294967296 := ⟨_, rfl⟩
  obtain ⟨hi, hhi⟩ : ∃ hi, hi = a / 4294967296 := ⟨_, rfl⟩
  have e3 : IntKind.u32.wrap (a : Int) = (lo : Int) := by rw [hlo]; simp [IntKind.wrap, IntKind.bits, IntKind.signed]
  have e4 : ((a : Int) / 4294967296) = (hi : Int) := by rw [hhi]; rfl
  have e5 : IntKind.u32.wrap (hi : Int) = (hi : Int) := IntWalk.u32_in _ (by omega)
  have e6 : ((a : Int) % 4294967296) = (lo : Int) := by rw [hlo]; rfl
  have e7 : ((hi : Int) % 4294967296) = (hi : Int) := by omega
  simp only [← hlo, ← hhi] at HT Hl
  have hhib : hi ≤ 2147483648 := by omega
  have hlob : lo < 4294967296 := by omega
  by_cases hv : v < 0
  · obtain rfl : v = -(a : Int) := by omega
    obtain ⟨b, hb⟩ : ∃ b, b = 18446744073709551616 - a := ⟨_, rfl⟩
    have e1 : IntKind.u64.wrap (-(a : Int)) = (b : Int) := by
      have : (-(a : Int)) % 18446744073709551616 = (b : Int) := by omega
      simpa [IntKind.wrap, IntKind.bits, IntKind.signed] using this
    have e2 : IntKind.u64.wrap (-(b : Int)) = (a : Int) := by
      have : (-(b : Int)) % 18446744073709551616 = (a : Int) := by omega
      simpa [IntKind.wrap, IntKind.bits, IntKind.signed] using this
    have z1 : decide (-(a : Int) < 0) = true := by simp; omega
    have z2 : decide ((0 : Int) < (a : Int)) = true := by simp; omega
    have z3 : 0 < a := by omega
    have HZ : As (sval true a = -(a : Int)) := ⟨rfl⟩
    clear ha hlo hhi hb hv h1 h2
    go_enter Tryd.func27, Tryd.ntmps27
    go_wp2_with (first
      | ((with_reducible refine g_dst 2 ?_); go_must (refine ev_alloc 2 rfl infoNum (cs := [.bool false, .slice none 0 0]) rfl ?_); intro g2 w2 hb2 B2 hg2)
      | ((with_reducible refine g_dst 15 ?_); go_must (refine ev_lit (v := fun g => .slice (some ⟨g, 0, none⟩) 2 2) 15 rfl (cs := [valU lo, valU hi]) (t := 62) (by go_simp; rfl) ?_); intro g3 w3 hb3 B3 hg3; replace B2 := B2.below hb3; have hgl := B2.lt; have hl3 := Hl.out _ _ _ B3; replace hb3 := bthen hb2 hb3)
      | (go_at_call 48; (with_reducible refine (HT.out _ _ _ hl3).mono ?_); rintro e w4 ⟨v4, rfl, ⟨m, rfl, ho4⟩, hb4⟩; replace B2 := B2.below hb4; have hb34 := bthen hb3 hb4)
      | ((with_reducible refine g_store 2 ?_); go_must (refine ev_store rfl rfl B2 (news := [.bool (decide (sval true a < 0)), m]) (by rfl) infoNum (by simp) (by have := ho4.form; obtain ⟨_, _, rfl, _⟩ := this; simp [Value.oneCell']) ?_); intro w5 ho5 B5; simp only [List.take_zero, List.nil_append, List.length_cons, List.length_nil, List.drop_succ_cons, List.drop_zero, List.append_nil, List.cons_append] at B5))
    refine bodyPost_ret (results_cell_row rfl _ _ g2 26 #[.bool (decide (sval true a < 0)), m] (0, 0) _ rfl B5.h Tryd.underlying26 rfl (by kernel_rfl)) rfl ?_
    exact ⟨_, rfl, ⟨m, rfl, ow_only ho4 ho5 hgl hb3.size⟩, hb34.trans (ho5.below hg2)⟩
  · obtain rfl : v = (a : Int) := by omega
    have z1 : decide ((a : Int) < 0) = false := by simp
    clear ha hlo hhi hv h1
    go_enter Tryd.func27, Tryd.ntmps27
    go_wp2_with (first
      | ((with_reducible refine g_dst 2 ?_); go_must (refine ev_alloc 2 rfl infoNum (cs := [.bool false, .slice none 0 0]) rfl ?_); intro g2 w2 hb2 B2 hg2)
      | ((with_reducible refine g_dst 15 ?_); go_must (refine ev_lit (v := fun g => .slice (some ⟨g, 0, none⟩) 2 2) 15 rfl (cs := [valU lo, valU hi]) (t := 62) (by go_simp; rfl) ?_); intro g3 w3 hb3 B3 hg3; replace B2 := B2.below hb3; have hgl := B2.lt; have hl3 := Hl.out _ _ _ B3; replace hb3 := bthen hb2 hb3)
      | (go_at_call 48; (with_reducible refine (HT.out _ _ _ hl3).mono ?_); rintro e w4 ⟨v4, rfl, ⟨m, rfl, ho4⟩, hb4⟩; replace B2 := B2.below hb4; have hb34 := bthen hb3 hb4)
      | ((with_reducible refine g_store 2 ?_); go_must (refine ev_store rfl rfl B2 (news := [.bool (decide (sval false a < 0)), m]) (by rfl) infoNum (by simp) (by have := ho4.form; obtain ⟨_, _, rfl, _⟩ := this; simp [Value.oneCell']) ?_); intro w5 ho5 B5; simp only [List.take_zero, List.nil_append, List.length_cons, List.length_nil, List.drop_succ_cons, List.drop_zero, List.append_nil, List.cons_append] at B5))
    refine bodyPost_ret (results_cell_row rfl _ _ g2 26 #[.bool (decide (sval false a < 0)), m] (0, 0) _ rfl B5.h Tryd.underlying26 rfl (by kernel_rfl)) rfl ?_
    exact ⟨_, rfl, ⟨m, rfl, ow_only ho4 ho5 hgl hb3.size⟩, hb34.trans (ho5.below hg2)⟩
end Go.Proofs.YtigoofeodbbbhaaDoor
